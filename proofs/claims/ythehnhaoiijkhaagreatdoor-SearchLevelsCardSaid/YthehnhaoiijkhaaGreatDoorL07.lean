/- Own work. -/
import Derived.Test.YthehnhaoiijkhaaGreatDoorL06
open Int (ofNat)
open Array renaming replicate->dY,eq_empty_of_size_eq_zero->oC
open Bool renaming true->aC,false->ay,and_eq_true->aI
open Go.Deferred renaming ofValue->jL
open Go.Frame renaming enter->gQ,round->rJ
open Go.Instr renaming endRound->mO
open Go.Item renaming code->zI
open Go.Sx.AA renaming any->rY
open Go.Sx.BK renaming all->dI,Ei->eH
open Go.Sx.CO renaming code->iG,nil->qX,loop->pJ
open Go.Sx.Tree renaming DZ->iJ
open Go.stepG renaming apply->gX
open List renaming replicate->dU,nodup_append->dW,mem_append->bI,mem_append_right->iD,append_nil->fA,append_assoc->dV,mem_cons->iy,mem_append_left->kU
open List.Sublist renaming append->vW,refl->vX
open Nat renaming beq->fC,eq_of_beq_eq_true->fK,ble->iq
open Option renaming some->ak,none->aK,isSome_iff_exists->fP
open Option.some renaming inj->dH
namespace Go.Sx
def yv(l:Nat):Value:=.func (.yield l) #[] #[]
section moves
variable{P:Program}{b c:Frame}{a:Act}{k:List Item}{cs:List Frame}{w w':World}
theorem abt{l:Nat}(hb:b.roundOf=ak l)(hr:(Instr.beginRound l).run P w=.ok () w'):step P (lone (CJ b a (.beginRound::k)) cs w)=.next (lone (CJ b a k) cs w'):=by
 rw[Dz,Dz];exact stepR_beginRound hb hr
theorem ac6{l:Nat}{v:Value}(hb:b.roundOf=ak l)(hk:b.kind=.normal)(hr:(mO l aK).run P w=.ok v w'):step P (lone (CJ b a []) (c::cs) w)=.next (lone (c.finish v) cs w'):=by
 rw[Dz];exact stepR_round_end hb hk hr
theorem ac7{l:Nat}{v:Value}(hb:b.roundOf=ak l)(hk:b.kind=.normal)(hr:(mO l (ak .ret)).run P w=.ok v w'):step P (lone (CJ b a (.code .ret::k)) (c::cs) w)=.next (lone (c.finish v) cs w'):=by
 rw[Dz];exact stepR_round_ret hb hk hr
theorem abu{l id:Nat}{v:Value}(hb:b.roundOf=ak l)(hk:b.kind=.normal)(hx:exitTo id k=aK)(hr:(mO l (ak (.exit id))).run P w=.ok v w'):
  step P (lone (CJ b a (.code (.exit id)::k)) (c::cs) w)=.next (lone (c.finish v) cs w'):=by
 rw[Dz];exact stepR_round_exit hb hk hx hr
theorem ZU(l:Nat)(v:Value):(CJ b a (.inRangeFunc l::k)).finish v=CJ b a (.endRangeFunc l::k):=by rw[Dz,finish_atR_inRangeFunc];rfl
theorem ae5{l:Nat}{jump:Option Code}(h:(Instr.endLoop l).run P w=.ok jump w'):step P (lone (CJ b a (.endRangeFunc l::k)) cs w)=.next (lone (CJ b a ((jump.map zI).toList++k)) cs w'):=by
 rw[Dz,Dz];exact stepR_endRangeFunc h
end moves
inductive anU where
 |fin (v:SV) (c:Core)
 |stop (g:Nat) (r:Option (Nat×Nat)) (td:List It) (c:Core) (stk:List Fw)
inductive EvW where
 |plain|bad|halt
 |next (g:Nat) (r:Option (Nat×Nat)) (td:List It) (c:Core) (stk:List Fw) (q:List BK)
def Xe:OX->OX->Bool
 | .ready,.ready=>aC | .busy,.busy=>aC |_,_=>ay
def setW(g d:Nat)(s0 s1:OX):List Fw->Option (Nat×List Fw)
 |[]=>aK |f::s=>bif fC s.length d then match f.lp with
   |some (l,p,st)=>bif fC f.g g&&Xe st s0 then ak (l,{f with lp:=ak (l,p,s1)}::s) else aK
   |none=>aK
  else match setW g d s0 s1 s with
   |some (l,s')=>ak (l,f::s') |none=>aK
def yW:List Fw->Option (Nat×Nat×Fw×List Nat)
 |[]=>aK |f::s=>match f.lp with
  |some (l,p,.ready)=>ak (l,s.length,f,p) |_=>yW s
def yieldOf(fn:Func)(td:List It)(c:Core):Option (Nat×List SV):=
 match td with
 | .reg p (i::_)::_=>match Ba (Az fn) p with
  | .region _ ops _=>match opAt ops.toList i with
   |some o=>match Og ops.toList c.tm o with
    | .yes=>match o.op with
     | .call k=>match k.callee with
      | .value f=>match BI c.tm f with
       | .val (.func (.yield l) x y)=>bif fC x.size 0&&fC y.size 0 then ak (l,k.args.toList.map (BI c.tm)) else aK |_=>aK
      |_=>aK
     |_=>aK
    |_=>aK
   |none=>aK
  |_=>aK
 |_=>aK
def QE(C:Ctx)(g l d:Nat)(s1:OX)(b:Bool)(c:Core)(stk:List Fw):EvW:=
 match setW g d .busy s1 stk with
 |some (l',f::s)=>match f.lp with
  |none=>match Sm C ⟨f.g,f.td,f.tm⟩ (.bool b) c with
   |some x=>.next f.g f.r x.1 x.2 s [.nat l l'] |none=>.bad
  |some _=>.bad
 |_=>.bad
def evW(C:Ctx)(fn:Func)(g:Nat)(r:Option (Nat×Nat))(td:List It)(c:Core)(stk:List Fw):EvW:=
 match td with
 |[]=>match r with
  |none=>.plain |some (l,d)=>QE C g l d .ready aC c stk
 | .XR::k=>match r with
  |none=>.bad |some (l,d)=>match setW g d .ready .busy stk with
   |some (l',s)=>.next g r k c s [.nat l l'] |none=>.bad
 | .code p::k=>match Ba (Az fn) p with
  | .rangeFunc _ _ _ _=>.halt | .ret=>match r with
   |none=>.plain |some (l,d)=>QE C g l d (.done p) ay c stk
  | .exit id=>match r with
   |none=>.plain |some (l,d)=>match Gg id k with
    |some _=>.plain |none=>QE C g l d (.done p) ay c stk
  |_=>.plain
 | .reg _ (_::_)::_=>match yieldOf fn td c with
  |some (l,args)=>match yW stk with
   |some (l',d,f,p)=>match C.fns.get f.g with
    |some OW=>match Ba (Az OW) p with
     | .rangeFunc _ ps _ _=>bif fC ps.size args.length then
       .next f.g (ak (l',d)) [.code (0::p),.XR,.code (1::p)] {c with tm:=(ps.toList.zip args).foldl (fun t x=>t.set x.1 x.2) f.tm} ({g,r,td,tm:=c.tm,lp:=aK}::stk) [.nat l l'] else .bad
     |_=>.bad
    |none=>.bad
   |none=>.bad
  |none=>match Qz C fn td c with
   |some x=>.next x.1 aK [.code []] {c with tm:=x.2.2++dU (x.2.1.ntmps - x.2.2.length) .any} ({g,r,td,tm:=c.tm,lp:=aK}::stk) []
   |none=>.plain
 |_=>.plain
def aks(f:Fw):OX->List It
 | .done q=>.code q::f.td |_=>f.td
def akt:OX->Bool
 | .busy=>aC |_=>ay
def abv(C:Ctx)(pause:Nat->List It->Bool)(m:Nat):Nat->Nat->Option (Nat×Nat)->List It->Core->List Fw->Tree anU
 |0,g,r,td,c,stk=>.leaf (.stop g r td c stk) |n+1,g,r,td,c,stk=>match C.fns.get g with
  |none=>.fail |some fn=>bif pause g td then .leaf (.stop g r td c stk) else match evW C fn g r td c stk with
   | .bad=>.fail | .halt=>.leaf (.stop g r td c stk) | .next g' r' Gj c' Jc q=>XP q (abv C pause m n g' r' Gj c' Jc) | .plain=>(RQ C (MR C (run C m ay)) aC g fn td c).bind fun s=>match s with
    | .go td c=>abv C pause m n g r td c stk | .halt td c=>.leaf (.stop g r td c stk) | .done v c=>match r with
     |some _=>.fail |none=>match stk with
      |[]=>.leaf (.fin v c) |f::s=>match f.lp with
       |none=>match Sm C ⟨f.g,f.td,f.tm⟩ v c with
        |some x=>abv C pause m n f.g f.r x.1 x.2 s |none=>.fail
       |some (_,_,st)=>bif akt st then .fail else abv C pause m n f.g f.r (aks f st) {c with tm:=f.tm} s
def aro(P:Program)(C:Ctx)(K:Kx)(φ:Sh->Prop):anU->Prop
 | .fin v c=>∃s,finish c v=ak s/\φ s | .stop g r td c stk=>F8 P C K g r td c stk φ
section
variable{P:Program}{C:Ctx}{K:Kx}{H H' OQ H0:Mem}{E E' OT E1:Env}{w w' w'' w0:World}{h:Hp}
theorem aiX{α:Type}{φ:α->Prop}{l:List BK}{t:Tree α}(hx:(XP l t).All φ):dI l/\t.All φ:=by
 unfold XP at hx;split at hx
 ·exact ⟨trivial,hx⟩
 ·exact hx
theorem agH.loop{fn:Func}{g:Nat}{tmps:Array Value}{p:List Nat}{s:OX}{o:Obj}(hx:agH fn g tmps p s o):∃lp,o=.loop lp/\lp.state=KH s/\lp.pending=Gl (Az fn) s/\∀s',agH fn g tmps p s' (.loop {lp with state:=KH s',pending:=Gl (Az fn) s'}):=by
 obtain ⟨x,ps,ca,cb,df,h1,rfl⟩:=hx;exact ⟨_,rfl,rfl,rfl,fun s'=>⟨x,ps,ca,cb,df,h1,rfl⟩⟩
theorem aiY{s t:OX}(hx:Xe s t=aC):s=t:=by
 cases s<;>cases t<;>simp[Xe] at hx<;>rfl
theorem abw{g d:Nat}{s0 s1:OX}{fn:Func}(hfn:C.fns.get g=ak fn):∀{s s':List Fw} {ms:List Frame} {B:List Nat} {l:Nat},setW g d s0 s1 s=ak (l,s')->FZ C H E h s ms B->B.Nodup->
  ∃lp,h l=ak (.loop lp)/\lp.state=KH s0/\lp.pending=Gl (Az fn) s0/\l∈B/\FZ C H E (IY h l (.loop {lp with state:=KH s1,pending:=Gl (Az fn) s1})) s' ms B
 |[],_,_,_,_,hx,_,_=>by simp[setW] at hx |f::s,s',[],_,_,_,hs,_=>hs.elim |f::s,s',mf::ms,B,l,hx,⟨rs,B',hB,h1,h2⟩,hnd=>by
  subst hB;simp only[setW] at hx;cases hd:fC s.length d<;>simp only[hd,cond_true,cond_false] at hx
  ·split at hx
   ·rename_i l2 s2 hs2
    cases hx;have PN:B'.Nodup:=(dW.1 hnd).2.1;obtain ⟨lp,q1,q2,q3,q4,q5⟩:=abw hfn hs2 h2 PN;have hno:l ∉ rs++Rz f:=fun hm=>(dW.1 hnd).2.2 l hm l q4 rfl;simp only[bI,not_or] at hno;exact ⟨lp,q1,q2,q3,iD _ q4,rs,B',rfl,h1.put hno.1 hno.2,q5⟩
   ·cases hx
  ·split at hx
   ·rename_i l2 p st hl
    cases hb:(fC f.g g&&Xe st s0)<;>simp only[hb,cond_true,cond_false] at hx
    ·cases hx
    ·cases hx
     simp only[aI] at hb;have hg:f.g=g:=fK hb.1;have hst:st=s0:=aiY hb.2;subst hst;obtain ⟨fn',a,items,q1,q2,q3,q4,q5,q6⟩:=h1;rw[hg,hfn] at q1;cases q1;rw[hl] at q6;obtain ⟨q7,o,q8,q9⟩:=q6;obtain ⟨lp,rfl,r1,r2,r3⟩:=q9.loop;have hlB:Rz f=[l]:=by simp[Rz,hl]
     rw[hlB] at hnd ⊢;have hn1:l ∉ rs:=fun hm=>(dW.1 (dW.1 hnd).1).2.2 l hm l (by simp) rfl;have hn2:l ∉ B':=fun hm=>(dW.1 hnd).2.2 l (by simp) l hm rfl;refine ⟨lp,q8,r1,r2,by simp,rs,B',by simp[Rz],⟨fn,a,items,by simpa[hg] using hfn,q2,q3,q4,fun x hx=>by rw[E8 (fun e=>hn1 (by rw[<-e];exact hx))];exact q5 x hx,?_⟩,h2.put hn2⟩;exact ⟨q7,_,NG,r3 s1⟩
   ·cases hx
theorem anW:∀{s:List Fw} {ms:List Frame} {B:List Nat} {l d:Nat} {f:Fw} {p:List Nat},yW s=ak (l,d,f,p)->FZ C H E h s ms B->
  ∃(fn:Func) (a:Act) (o:Obj),C.fns.get f.g=ak fn/\AA H E f.tm a.tmps.toList/\h l=ak o/\agH fn f.g a.tmps p .ready o/\l∈B
 |[],_,_,_,_,_,_,hx,_=>by simp[yW] at hx |f0::s,[],_,_,_,_,_,_,hs=>hs.elim |f0::s,mf::ms,B,l,d,f,p,hx,⟨rs,B',hB,h1,h2⟩=>by
  subst hB;simp only[yW] at hx;split at hx
  ·rename_i l2 p2 hl
   cases hx;obtain ⟨fn,a,items,q1,q2,q3,q4,q5,q6⟩:=h1;rw[hl] at q6;obtain ⟨q7,o,q8,q9⟩:=q6;exact ⟨fn,a,o,q1,q2,q8,q9,by simp[Rz,hl]⟩
  ·obtain ⟨fn,a,o,q1,q2,q3,q4,q5⟩:=anW hx h2
   exact ⟨fn,a,o,q1,q2,q3,q4,iD _ q5⟩
theorem abx:∀{l:List (Nat×SV)} {vl:List (Nat×Value)} {tm:List SV} {ts:Array Value},AA H E tm ts.toList->(∀(i:Nat) x y,l[i]?=ak x->vl[i]?=ak y->x.1=y.1/\Den H E x.2 y.2)->l.length=vl.length->
  AA H E (l.foldl (fun t x=>t.set x.1 x.2) tm) (vl.foldl (fun t x=>t.setIfInBounds x.1 x.2) ts).toList
 |[],[],_,_,hd,_,_=>hd |x::l,y::vl,tm,ts,hd,hx,hlen=>by
  obtain ⟨e1,e2⟩:=hx 0 x y rfl rfl;have hd2:AA H E (tm.set x.1 x.2) (ts.setIfInBounds y.1 y.2).toList:=by
   have:=JV (c:={tm:=tm,hp:=[],nx:=0,lim:=0,tc:=[]}) (a:={tmps:=ts,defers:=[]}) hd (ak x.1) e2;rw[<-e1];exact this
  simp only[List.foldl_cons];exact abx (l:=l) (vl:=vl) hd2 (fun i a b ha hb=>hx (i+1) a b ha hb) (by simpa using hlen)
 |[],_::_,_,_,_,_,hl=>by simp at hl |_::_,[],_,_,_,_,hl=>by simp at hl
end
section
variable{P:Program}{C:Ctx}{K:Kx}{H H' OQ H0:Mem}{E E' OT E1:Env}{w w' w'' w0:World}{h:Hp}
theorem Yc{g d:Nat}{s0 s1:OX}:∀{s s':List Fw} {l g0:Nat},setW g d s0 s1 s=ak (l,s')->Rj g0 s'=Rj g0 s
 |[],_,_,_,hx=>by simp[setW] at hx |f::s,s',l,g0,hx=>by
  simp only[setW] at hx;cases hd:fC s.length d<;>simp only[hd,cond_true,cond_false] at hx
  ·split at hx
   ·rename_i hs2
    cases hx;show Rj f.g _=Rj f.g _;exact Yc hs2
   ·cases hx
  ·split at hx
   ·rename_i l2 p st hl
    cases hb:(fC f.g g&&Xe st s0)<;>simp only[hb,cond_true,cond_false] at hx
    ·cases hx
    ·cases hx;rfl
   ·cases hx
theorem aiZ{body:Code}{id:Nat}:∀{td:List It} {k:List Item},CO body td k->Gg id td=aK->exitTo id k=aK:=by
 intro td k h;induction h with
 |nil=>intro _;rfl |code p _ ih=>intro h;simp only[Gg] at h;simpa[exitTo] using ih h |XR _ ih=>intro h;simp only[Gg] at h;simpa[exitTo] using ih h |loop p x _ _ ih=>intro h;simp only[Gg] at h;simpa[exitTo] using ih h |reg p l id ops _ _ ih=>intro h;simp only[Gg] at h;simpa[exitTo] using ih h |inBlock j h0 ih=>
  intro h;simp only[Gg] at h;cases hj:(j==id)<;>simp only[hj,cond_true,cond_false] at h
  ·have:j≠id:=by simpa using hj
   simp only[exitTo];rw[if_neg (by simpa using this)];exact ih h
  ·cases h
theorem aku{f:Fw}{mf:Frame}{rs:List Nat}{x:List It×Core}{c:Core}{sv:SV}{v:Value}(hf:Zm C H E h f mf rs)(hl:f.lp=aK)(hp:Sm C ⟨f.g,f.td,f.tm⟩ sv c=ak x)(hv:Den H E sv v){a:Act}(st:St C K H E w c a):
  ∃(fn:Func) (a':Act) (items:List Item),C.fns.get f.g=ak fn/\St C K H E w x.2 a'/\CO (Az fn) x.1 items/\mf.finish v=CJ (bq f.g (Ut f.r) (marks rs)) a' items/\x.2.hp=c.hp:=by
 obtain ⟨fn,a3,akm,g1,g2,g3,g4,_,g5⟩:=hf;rw[hl] at g5;unfold Sm at hp;rw[g1] at hp;simp only at hp;split at hp
 ·rename_i p i rest k htd
  split at hp
  ·rename_i rid ops dr hcode
   cases hp;rw[htd] at g4;cases g4 with
   |reg p l id ops2 hc hk=>
    rw[hc] at hcode;cases hcode;rename_i k';have g5:mf=_:=g5;subst g5;refine ⟨fn,a3.put ((opAt ops.toList i).bind (·.dst)) v,_,g1,⟨JV (c:={c with tm:=f.tm}) g2 _ hv,st.hp,st.BZ,st.free,st.gl,by rw[put_defers];exact g3⟩,.reg p rest _ ops hc hk,?_,rfl⟩
    rw[SE];simp[opAt]
  ·cases hp
 ·cases hp
theorem Vl{fn:Func}{g l d:Nat}{s1:OX}{bb:Bool}{c c':Core}{stk Jc:List Fw}{g':Nat}{r':Option (Nat×Nat)}{Gj:List It}{q:List BK}{φ:Sh->Prop}(hfn:C.fns.get g=ak fn)
  (hev:QE C g l d s1 bb c stk=.next g' r' Gj c' Jc q) (hq:dI q) (ih:F8 P C K g' r' Gj c' Jc φ) (hj:(Gl (Az fn) s1).isNone=bb) (hst:KH s1=if bb then .ready else .done)
  {a:Act} {items:List Item} {rs B:List Nat} {ms cs:List Frame} (st:St C K H E w c a) (hs:FZ C H E h stk ms B) (hnd:(rs++B).Nodup) (hx:IB h K H E w c.hp)
  (hstep:∀(c':Frame) cs' v w',(mO l (Gl (Az fn) s1)).run P w=.ok v w'->step P (lone (CJ (bq g (ak l) (marks rs)) a items) (c'::cs') w)=.next (lone (c'.finish v) cs' w')) :
  agI P C K (Rj g stk) φ (lone (CJ (bq g (ak l) (marks rs)) a items) (ms++cs) w) cs:=by
 unfold QE at hev;split at hev
 ·rename_i l' f s hset
  split at hev
  ·rename_i hlp
   split at hev
   ·rename_i x hpop
    cases hev;obtain ⟨hll,_⟩:=hq;have hll:l=l':=hll;subst hll;obtain ⟨lp,q1,q2,q3,q4,q5⟩:=abw hfn hset hs (dW.1 hnd).2.1;have avQ:=Yc (g0:=g) hset;have hw:=(hx l _ q1).1;have hrun:=run_endRound (P:=P) (Gl (Az fn) s1) hw;rw[hj] at hrun;cases ms with
    |nil=>exact q5.elim |cons mf ms=>
     obtain ⟨rs',B',hB,q6,q7⟩:=q5;have e:({lp with state:=if bb then LoopState.ready else LoopState.done,pending:=Gl (Az fn) s1}:Loop)={lp with state:=KH s1,pending:=Gl (Az fn) s1}:=by rw[hst]
     rw[e] at hrun;have st2:=st.putObj (o':=.loop {lp with state:=KH s1,pending:=Gl (Az fn) s1}) hx q1
     have hx2:=hx.put (o':=.loop {lp with state:=KH s1,pending:=Gl (Az fn) s1}) q1
     obtain ⟨OW,a',items',p1,p2,p3,p4,p5⟩:=aku q6 hlp hpop (v:=.bool bb) rfl st2;have hm':∀y∈rs',IY h l (.loop {lp with state:=KH s1,pending:=Gl (Az fn) s1}) y=ak (.deferred (ak [])):=by
      obtain ⟨_,_,_,_,_,_,_,z,_⟩:=q6;exact z
     subst hB;have hB2:Rz f=[]:=by simp[Rz,hlp]
     rw[hB2,fA] at hnd;have PN:(rs'++B').Nodup:=(dW.1 hnd).2.1;have hs1:=hstep mf (ms++cs) _ _ hrun;rw[p4] at hs1;have:=ih H E _ a' items' rs' B' ms cs OW _ p1 p2 p3 hm' q7 PN (by rw[p5];exact hx2);rw[show Rj g stk=Rj f.g Jc from avQ.symm];exact this.of (.one hs1)
   ·cases hev
  ·cases hev
 ·cases hev
end
section
variable{P:Program}{C:Ctx}{K:Kx}{H H' OQ H0:Mem}{E E' OT E1:Env}{w w' w'' w0:World}{h:Hp}
theorem adL{g:Nat}{fn:Func}{body:Code}(hP:P.funcs[g]?=ak fn)(hb:fn.body=ak body)(args:Array Value):
  gQ P g args .normal=CJ (bq g aK []) {tmps:=args++dY (fn.ntmps - args.size) undef,defers:=[]} [.code body]:=by
 rw[Ya];exact Le hP hb args
theorem alO(l g:Nat)(tmps:Array Value)(ca cb:Code):rJ l g tmps ca cb .normal=CJ (bq g (ak l) []) {tmps,defers:=[]} [.code ca,.beginRound,.code cb]:=by
 simp[rJ,CJ,bq]
theorem aby{b:Frame}{p:List Nat}{i:Nat}{rest:List Nat}{k:List It}{fn:Func}{items:List Item}{c:Core}{a:Act}{rid:Nat}{ops:Array Oper}{dr:Bool}{o:Oper}{kk:Call}(st:St C K H E w c a)(hi:CO (Az fn) (.reg p (i::rest)::k) items)
  (hcode:Ba (Az fn) p=.region rid ops dr) (ho:opAt ops.toList i=ak o) (hwant:Og ops.toList c.tm o=.yes) (hop:o.op=.call kk) (cs:List Frame) :
  ∃k',items=.inRegion ops (i::rest)::k'/\CO (Az fn) k k'/\dr=ay/\stepG P aC {frame:=CJ b a (.inRegion ops (i::rest)::k'),callers:=cs,status:=.running,dying:=aK} w=gX P aC (CJ b a (.inRegion ops (i::rest)::k')) cs aK (execOp a.eval o) w:=by
 cases hi with
 |reg p l id ops2 hc hk=>
  rw[hc] at hcode;cases hcode;rename_i k';have ho':ops[i]?=ak o:=by simpa[opAt] using ho
  have hw':=Hw (ops:=ops) st.den o;rw[hwant] at hw';refine ⟨k',rfl,hk,rfl,?_⟩;have hg:=stepGR_op (P:=P) (b:=b) (a:=SC b a) (k:=k') (cs:=cs) (w:=w) (rest:=rest) ho' hw';rw[Oper.semAt_eq _ _ _ (fun c hc=>by rw[hop] at hc;cases hc),QD,<-Dz] at hg;exact hg
theorem anX(hC:BG P C)(hF:BP P C){fn:Func}{g:Nat}{r:Option (Nat×Nat)}{td:List It}{c:Core}{stk:List Fw}{x:Nat×Func×List SV}{φ:Sh->Prop}(hfn:C.fns.get g=ak fn)(hr:Qz C fn td c=ak x)
  (ih:F8 P C K x.1 aK [.code []] {c with tm:=x.2.2++dU (x.2.1.ntmps - x.2.2.length) .any} ({g,r,td,tm:=c.tm,lp:=aK}::stk) φ):F8 P C K g r td c stk φ:=by
 intro H E w a items rs B ms cs fn' h hfn' st hi hm hs hnd hx;rw[hfn] at hfn';cases hfn';unfold Qz at hr;split at hr
 ·rename_i p i rest k
  split at hr
  ·rename_i rid ops dr hcode
   split at hr
   ·rename_i o ho
    split at hr
    ·rename_i hwant
     split at hr
     ·rename_i kk hop
      split at hr
      ·rename_i f WT
       split at hr
       ·rename_i g2 caps hev
        split at hr
        ·cases hr
        ·rename_i hspec
         split at hr
         ·rename_i FC hfn2
          cases hb:(iq (kk.args.toList.map (BI c.tm)++caps).length FC.ntmps&&FC.body.isSome)<;>simp only[hb,cond_true,cond_false] at hr
          ·cases hr
          cases hr;simp only[aI] at hb;obtain ⟨body2,JW⟩:=fP.1 hb.2;have hP2:=hC.fn g2 FC hfn2;obtain ⟨k',rfl,hk,rfl,hg⟩:=aby (P:=P) (b:=bq g (Ut r) (marks rs)) (w:=w) st hi hcode ho hwant hop (ms++cs);have df:=BA (H:=H) (E:=E) st.den f;rw[hev] at df;obtain ⟨vs,ef,hvs⟩:=df;have hargs:=(Nz st.den kk.args.toList).append hvs;have hent:=hF.en g2 (.inr (by rw[hfn2];rfl));have hrun:(execOp a.eval o).run P w=.ok (.enter g2 (kk.args.map a.eval++vs)) w:=by
           simp only[execOp,hop,resolve,WT];simp[jL,ef,invoke,Ih hent]
          have henter:step P (lone (CJ (bq g (Ut r) (marks rs)) a (.inRegion ops (i::rest)::k')) (ms++cs) w)=.next (lone (gQ P g2 (kk.args.map a.eval++vs) .normal) (CJ (bq g (Ut r) (marks rs)) a (.inRegion ops (i::rest)::k')::(ms++cs)) w):=
           step_lone_go (by rw[hg];simp[gX,hrun,CJ])
          rw[adL hP2 JW] at henter;have hl:=hargs.length;have hlen:(kk.args.map a.eval++vs).size=(kk.args.toList.map (BI c.tm)++caps).length:=by
           rw[<-hl];simp
          have st2:St C K H E w {c with tm:=(kk.args.toList.map (BI c.tm)++caps)++dU (FC.ntmps - (kk.args.toList.map (BI c.tm)++caps).length) .any} {tmps:=(kk.args.map a.eval++vs)++dY (FC.ntmps - (kk.args.map a.eval++vs).size) undef,defers:=[]}:=by
           refine ⟨?_,st.hp,st.BZ,st.free,st.gl,rfl⟩;have:((kk.args.map a.eval++vs)++dY (FC.ntmps - (kk.args.map a.eval++vs).size) undef).toList=(kk.args.toList.map a.eval++vs.toList)++dU (FC.ntmps - (kk.args.toList.map (BI c.tm)++caps).length) undef:=by
            rw[hlen];simp
           simp only[this];exact hargs.append (rY _ _ (by simp))
          have hit2:CO (Az FC) [.code []] [.code body2]:=by
           have:=iG (body:=Az FC) [] qX;have he:Ba (Az FC) []=body2:=by simp[Ba,Az,JW]
           rwa[he] at this
          have hs2:FZ C H E h ({g,r,td:=.reg p (i::rest)::k,tm:=c.tm,lp:=aK}::stk) (CJ (bq g (Ut r) (marks rs)) a (.inRegion ops (i::rest)::k')::ms) (rs++B):=
           ⟨rs,B,by simp[Rz],⟨fn,a,_,hfn,st.den,st.defers,hi,hm,rfl⟩,hs⟩
          exact (ih H E w _ _ [] (rs++B) (_::ms) cs FC h hfn2 st2 hit2 (fun _ hy=>by cases hy) hs2 (by simpa using hnd) hx).of (.one henter)
         ·cases hr
       ·cases hr
      ·cases hr
     ·cases hr
    ·cases hr
   ·cases hr
  ·cases hr
 ·cases hr
theorem alP{fn:Func}{g:Nat}{r:Option (Nat×Nat)}{td:List It}{c:Core}{stk:List Fw}{l l' d:Nat}{args:List SV}{f:Fw}{p:List Nat}{OW:Func}{x:Operand}{ps:Array Tmp}{ca cb:Code}{φ:Sh->Prop}(hfn:C.fns.get g=ak fn)(hr:yieldOf fn td c=ak (l,args))
  (hy:yW stk=ak (l',d,f,p)) (hff:C.fns.get f.g=ak OW) (hcf:Ba (Az OW) p=.rangeFunc x ps ca cb) (hsz:fC ps.size args.length=aC) (hll:l=l')
  (ih:F8 P C K f.g (ak (l',d)) [.code (0::p),.XR,.code (1::p)] {c with tm:=(ps.toList.zip args).foldl (fun t x=>t.set x.1 x.2) f.tm} ({g,r,td,tm:=c.tm,lp:=aK}::stk) φ):F8 P C K g r td c stk φ:=by
 intro H E w a items rs B ms cs fn' h hfn' st hi hm hs hnd hx;rw[hfn] at hfn';cases hfn';subst hll;unfold yieldOf at hr;split at hr
 ·rename_i q i rest k
  split at hr
  ·rename_i rid ops dr hcode
   split at hr
   ·rename_i o ho
    split at hr
    ·rename_i hwant
     split at hr
     ·rename_i kk hop
      split at hr
      ·rename_i fo WT
       split at hr
       ·rename_i l2 xa ya hev
        cases hb:(fC xa.size 0&&fC ya.size 0)<;>simp only[hb,cond_true,cond_false] at hr
        ·cases hr
        cases hr;simp only[aI] at hb;obtain rfl:xa=#[]:=oC (fK hb.1);obtain rfl:ya=#[]:=oC (fK hb.2);obtain ⟨k',rfl,hk,rfl,hg⟩:=aby (P:=P) (b:=bq g (Ut r) (marks rs)) (w:=w) st hi hcode ho hwant hop (ms++cs);have df:=BA (H:=H) (E:=E) st.den fo;rw[hev] at df;have ef:a.eval fo=.func (.yield l) #[] #[]:=by simp[Den] at df;exact df.1
        have hargs:=Nz st.den kk.args.toList;obtain ⟨aze,af,ob,y1,y2,y3,y4,y5⟩:=anW hy hs;rw[hff] at y1;cases y1;obtain ⟨x',ps',ca',cb',df',e1,rfl⟩:=y4;rw[hcf] at e1;cases e1;have hw:=(hx _ _ y3).1;have hsz2:(kk.args.map a.eval).size=ps.size:=by
         have:=fK hsz;simp at this;simp[this]
        have hrun:(execOp a.eval o).run P w=.ok (.round l f.g ((ps.zip (kk.args.map a.eval)).foldl (fun tmps (t,a)=>tmps.setIfInBounds t a) af.tmps) ca cb) w:=by
         have h1:(execOp a.eval o).run P w=(Instr.yield l (kk.args.map a.eval)).run P w:=by
          simp only[execOp,hop,resolve,WT];simp[jL,ef,invoke]
         rw[h1];exact run_yield hw hsz2
        have akv:step P (lone (CJ (bq g (Ut r) (marks rs)) a (.inRegion ops (i::rest)::k')) (ms++cs) w)=.next (lone (rJ l f.g ((ps.zip (kk.args.map a.eval)).foldl (fun tmps (t,a)=>tmps.setIfInBounds t a) af.tmps) ca cb .normal) (CJ (bq g (Ut r) (marks rs)) a (.inRegion ops (i::rest)::k')::(ms++cs)) w):=
         step_lone_go (by rw[hg];simp[gX,hrun])
        rw[alO] at akv;have hfold:AA H E ((ps.toList.zip (kk.args.toList.map (BI c.tm))).foldl (fun t x=>t.set x.1 x.2) f.tm) ((ps.zip (kk.args.map a.eval)).foldl (fun tmps (t,a)=>tmps.setIfInBounds t a) af.tmps).toList:=by
         have e:(ps.zip (kk.args.map a.eval)).foldl (fun tmps (t,a)=>tmps.setIfInBounds t a) af.tmps=(ps.toList.zip (kk.args.toList.map a.eval)).foldl (fun ts x=>ts.setIfInBounds x.1 x.2) af.tmps:=by
          rw[<-Array.foldl_toList];simp[Array.toList_zip]
         rw[e];refine abx y2 (fun j u v hu hv=>?_) (by simp);rw[List.getElem?_zip_eq_some] at hu hv;obtain ⟨u1,u2⟩:=hu;obtain ⟨v1,v2⟩:=hv;rw[u1] at v1;refine ⟨dH v1,?_⟩;obtain ⟨vv,w1,w2⟩:=hargs.get u2;rw[w1] at v2;cases v2;exact w2
        have st2:St C K H E w {c with tm:=(ps.toList.zip (kk.args.toList.map (BI c.tm))).foldl (fun t x=>t.set x.1 x.2) f.tm} {tmps:=(ps.zip (kk.args.map a.eval)).foldl (fun tmps (t,a)=>tmps.setIfInBounds t a) af.tmps,defers:=[]}:=
         ⟨hfold,st.hp,st.BZ,st.free,st.gl,rfl⟩
        have hit2:CO (Az OW) [.code (0::p),.XR,.code (1::p)] [.code ca,.beginRound,.code cb]:=by
         have h0:Ba (Az OW) (0::p)=ca:=by simp[Ba,hcf,child]
         have h1:Ba (Az OW) (1::p)=cb:=by simp[Ba,hcf,child]
         have:=iG (body:=Az OW) (0::p) (.XR (.code (1::p) .nil));rw[h0,h1] at this;exact this
        have hs2:FZ C H E h ({g,r,td:=.reg q (i::rest)::k,tm:=c.tm,lp:=aK}::stk) (CJ (bq g (Ut r) (marks rs)) a (.inRegion ops (i::rest)::k')::ms) (rs++B):=
         ⟨rs,B,by simp[Rz],⟨fn,a,_,hfn,st.den,st.defers,hi,hm,rfl⟩,hs⟩
        exact (ih H E w _ _ [] (rs++B) (_::ms) cs OW h hff st2 hit2 (fun _ hy=>by cases hy) hs2 (by simpa using hnd) hx).of (.one akv)
       ·cases hr
      ·cases hr
     ·cases hr
    ·cases hr
   ·cases hr
  ·cases hr
 ·cases hr
theorem arq(hC:BG P C)(hF:BP P C){fn:Func}{g g':Nat}{r r':Option (Nat×Nat)}{td Gj:List It}{c c':Core}{stk Jc:List Fw}{q:List BK}{φ:Sh->Prop}(hfn:C.fns.get g=ak fn)
  (hev:evW C fn g r td c stk=.next g' r' Gj c' Jc q) (hq:dI q) (ih:F8 P C K g' r' Gj c' Jc φ):F8 P C K g r td c stk φ:=by
 unfold evW at hev;split at hev
 ·split at hev
  ·cases hev
  ·rename_i l d
   intro H E w a items rs B ms cs fn' h hfn' st hi hm hs hnd hx;rw[hfn] at hfn';cases hfn';cases hi;exact Vl hfn hev hq ih rfl rfl st hs hnd hx fun c' cs' v w' hrun=>ac6 rfl rfl hrun
 ·rename_i k
  split at hev
  ·cases hev
  ·rename_i l d
   split at hev
   ·rename_i l' s hset
    cases hev;obtain ⟨hll,_⟩:=hq;have hll:l=l':=hll;subst hll;intro H E w a items rs B ms cs fn' h hfn' st hi hm hs hnd hx;rw[hfn] at hfn';cases hfn';cases hi with
    |XR hk=>
     rename_i k';obtain ⟨lp,q1,q2,q3,q4,q5⟩:=abw hfn hset hs (dW.1 hnd).2.1;have hw:=(hx _ _ q1).1;have hrun:=run_beginRound (P:=P) hw q2;have e:({lp with state:=LoopState.busy}:Loop)={lp with state:=KH .busy,pending:=Gl (Az fn) .busy}:=by
      cases lp;simp only at q3;subst q3;rfl
     rw[e] at hrun;have hs1:=abt (P:=P) (b:=bq g (ak l) (marks rs)) (a:=a) (k:=k') (cs:=ms++cs) rfl hrun;have hno:l ∉ rs:=fun hmm=>(dW.1 hnd).2.2 l hmm l q4 rfl;have:=ih H E _ a k' rs B ms cs fn _ hfn (st.putObj (o':=.loop {lp with state:=KH .busy,pending:=Gl (Az fn) .busy}) hx q1) hk (fun y hy=>by
      rw[E8 (fun e=>hno (by rw[<-e];exact hy))];exact hm y hy) q5 hnd (hx.put q1)
     rw[Yc hset] at this;exact this.of (.one hs1)
   ·cases hev
 ·rename_i p k
  split at hev
  ·cases hev
  ·rename_i hret
   split at hev
   ·cases hev
   ·rename_i l d
    intro H E w a items rs B ms cs fn' h hfn' st hi hm hs hnd hx;rw[hfn] at hfn';cases hfn';have Xf:∃k',items=.code .ret::k':=by
     cases hi with
     |code p hk=>exact ⟨_,by rw[hret]⟩ |loop p y hl hk=>rw[hret] at hl;cases hl
    obtain ⟨k',rfl⟩:=Xf;refine Vl hfn hev hq ih rfl rfl st hs hnd hx fun c' cs' v w' hrun=>?_
    simp only[Gl,hret] at hrun;exact ac7 rfl rfl hrun
  ·rename_i id ai0
   split at hev
   ·cases hev
   ·rename_i l d
    split at hev
    ·cases hev
    ·rename_i hno
     intro H E w a items rs B ms cs fn' h hfn' st hi hm hs hnd hx;rw[hfn] at hfn';cases hfn';have Xf:∃k',items=.code (.exit id)::k'/\CO (Az fn) k k':=by
      cases hi with
      |code p hk=>exact ⟨_,by rw[ai0],hk⟩ |loop p y hl hk=>rw[ai0] at hl;cases hl
     obtain ⟨k',rfl,hk⟩:=Xf;refine Vl hfn hev hq ih rfl rfl st hs hnd hx fun c' cs' v w' hrun=>?_
     simp only[Gl,ai0] at hrun;exact abu rfl rfl (aiZ hk hno) hrun
  ·cases hev
 ·rename_i p i rest k
  split at hev
  ·rename_i l args hy
   split at hev
   ·rename_i l' d f pf hyw
    split at hev
    ·rename_i OW hff
     split at hev
     ·rename_i x ps ca cb hcf
      cases hb:fC ps.size args.length<;>simp only[hb,cond_true,cond_false] at hev
      ·cases hev
      ·cases hev
       exact alP hfn hy hyw hff hcf hb hq.1 ih
     ·cases hev
    ·cases hev
   ·cases hev
  ·split at hev
   ·rename_i x hx
    cases hev;exact anX hC hF hfn hx ih
   ·cases hev
 ·cases hev
end
section
variable{P:Program}{C:Ctx}{K:Kx}{H H' OQ H0:Mem}{E E' OT E1:Env}{w w' w'' w0:World}{h:Hp}
theorem agJ{fn:Func}{g:Nat}{r:Option (Nat×Nat)}{td:List It}{c:Core}{stk:List Fw}(hev:evW C fn g r td c stk=.plain):r=aK\/endsB fn td=ay:=by
 cases r with
 |none=>exact .inl rfl |some x=>
  right;obtain ⟨l,d⟩:=x;unfold evW at hev;split at hev
  ·simp only[QE] at hev
   split at hev
   ·split at hev
    ·split at hev<;>cases hev
    ·cases hev
   ·cases hev
  ·rfl
  ·rename_i p k
   unfold endsB;simp only;split at hev
   ·rename_i hc;rw[hc]
   ·simp only[QE] at hev
    split at hev
    ·split at hev
     ·split at hev<;>cases hev
     ·cases hev
    ·cases hev
   ·rename_i hc;rw[hc]
   ·rename_i hne1 hne2 asy
    split
    ·rename_i hc;exact (hne2 hc).elim
    ·rfl
  ·rfl
  ·rename_i hne1 hne2 asy azf
   unfold endsB;split
   ·exact (hne1 rfl).elim
   ·exact (asy _ _ rfl).elim
   ·rfl
theorem NH(hC:BG P C)(hF:BP P C)(hN:∀g fn,C.fns.get g=ak fn->Ej (Az fn)=aC){pause:Nat->List It->Bool}{m:Nat}{φ:Sh->Prop}:∀{n g:Nat} {r:Option (Nat×Nat)} {td:List It} {c:Core} {stk:List Fw},
  (abv C pause m n g r td c stk).All (aro P C (K0 H0 w0) φ)->F8 P C (K0 H0 w0) g r td c stk φ
 |0,g,r,td,c,stk,h=>h |n+1,g,r,td,c,stk,h=>by
  intro H E w a items rs B ms cs fn hp hfn st hi hm hs hnd hx;simp only[abv,hfn] at h;cases hpz:pause g td<;>simp only[hpz,cond_true,cond_false] at h
  rotate_left
  ·exact h H E w a items rs B ms cs fn hp hfn st hi hm hs hnd hx
  split at h
  ·exact h.elim
  ·exact h H E w a items rs B ms cs fn hp hfn st hi hm hs hnd hx
  ·rename_i hev
   obtain ⟨hq,h⟩:=aiX h;exact arq hC hF hfn hev hq (NH hC hF hN h) H E w a items rs B ms cs fn hp hfn st hi hm hs hnd hx
  ·rename_i hev
   have hK:=TW (K:=Rx H E w c.hp) hC hF (TY hC hF m);obtain ⟨sig,h1,h2⟩:=alN hC hF hK (hN g fn hfn) (iJ h) st.re hi (bq g (Ut r) (marks rs)) (ms++cs) (by
    rcases agJ hev with e|e
    ·left;rw[e];rfl
    ·exact .inr e)
   cases sig with
   |go Gj c'=>
    obtain ⟨a',w',H',E',items',q1,q2,q3,q4⟩:=h2;exact (NH hC hF hN h1 H' E' w' a' items' rs B ms cs fn hp hfn (st.un q2) q4 hm (hs.le q3.IX q3.ML) hnd (hx.keep st q2)).of q1
   |halt Gj c'=>
    obtain ⟨a',w',H',E',items',q1,q2,q3,q4⟩:=h2;exact (h1 H' E' w' a' items' rs B ms cs fn hp hfn (st.un q2) q4 hm (hs.le q3.IX q3.ML) hnd (hx.keep st q2)).of q1
   |done sv c'=>
    obtain ⟨a',w',H',E',todo,q1,q2,q3,q5⟩:=h2;cases r with
    |some _=>exact h1.elim |none=>
    have st':=st.un q2;obtain ⟨w2,hp2,c1,st2,hx2,hs2⟩:=collects g todo (ms++cs) st' (hx.keep st q2) hm (hs.le q3.IX q3.ML) hnd;obtain ⟨v,q4,q6⟩:=q5 _ _ st2;have q1':Steps P (lone (CJ (bq g (Ut aK) (marks rs)) a items) (ms++cs) w) (lone {(base g).at a' todo with mode:=.returning} (ms++cs) w2):=q1.trans c1
    cases stk with
    |nil=>
     cases ms with
     |cons _ _=>exact hs.elim |nil=>
      obtain ⟨s,e1,e2⟩:=h1;obtain ⟨H2,r2⟩:=Qx st2 e1 q4;exact ⟨a',w2,v,s,H2,todo,fn,hfn,q1',st2.defers,e2,r2,q6⟩
    |cons f stk=>
     cases ms with
     |nil=>exact hs.elim |cons mf ms=>
      have hleave:step P (lone {(base g).at a' todo with mode:=.returning} (mf::(ms++cs)) w2)=.next (lone (mf.finish v) (ms++cs) w2):=
       step_leave_returned ⟨rfl,st2.defers,rfl,fn,hC.fn g fn hfn,q6⟩
      obtain ⟨rs',B',hB,p1,p2⟩:=hs2;subst hB;have hm':∀y∈rs',hp2 y=ak (.deferred (ak [])):=by
       obtain ⟨_,_,_,_,_,_,_,z,_⟩:=p1;exact z
      have PN:=(dW.1 hnd).2.1;simp only at h1;split at h1
      ·rename_i hlp
       split at h1
       ·rename_i x hpop
        obtain ⟨OW,a2,aan,g1,g2,g3,g4,g5⟩:=aku p1 hlp hpop q4 st2;rw[g4] at hleave;have hB2:Rz f=[]:=by simp[Rz,hlp]
        rw[hB2,fA] at PN;exact (NH hC hF hN h1 H' E' w2 a2 aan rs' B' ms cs OW hp2 g1 g2 g3 hm' p2 PN (by rw[g5];exact hx2)).of (q1'.trans (.one hleave))
       ·exact h1.elim
      ·rename_i l p s hlp
       cases hbz:akt s<;>simp only[hbz,cond_true,cond_false] at h1
       rotate_left
       ·exact h1.elim
       obtain ⟨OW,a2,aan,g1,g2,g3,g4,g5,g6⟩:=p1;rw[hlp] at g6;obtain ⟨g7,o,g8,g9⟩:=g6;obtain ⟨lp,rfl,r1,r2,_⟩:=g9.loop;have hw:=(hx2 _ _ g8).1;have hrun:=run_endLoop (P:=P) hw (by rw[r1];cases s<;>simp[KH] at hbz ⊢;cases hbz)
       subst g7;rw[ZU] at hleave;have hend:=ae5 (b:=bq f.g (Ut f.r) (marks rs')) (a:=a2) (k:=aan) (cs:=ms++cs) hrun;have hB2:Rz f=[l]:=by simp[Rz,hlp]
       rw[hB2] at PN;have hl1:l ∉ rs':=fun hmm=>(dW.1 (dW.1 PN).1).2.2 l hmm l (by simp) rfl;have hl2:l ∉ B':=fun hmm=>(dW.1 PN).2.2 l (by simp) l hmm rfl;have avR:(rs'++B').Nodup:=by
        rw[dV] at PN;exact PN.sublist (vW (vX _) (List.sublist_append_right _ _))
       have st3:=st2.putObj (o':=.loop {lp with state:=.exhausted}) hx2 g8
       have st4:St C (K0 H0 w0) H' E' (w2.putObj l (.loop {lp with state:=.exhausted})) {c' with tm:=f.tm} a2:=⟨g2,st3.hp,st3.BZ,st3.free,st3.gl,g3⟩
       have hit:CO (Az OW) (aks f s) ((lp.pending.map zI).toList++aan):=by
        rw[r2];cases s with
        |done q=>exact .code q g4 |ready=>exact g4 |busy=>exact g4
       exact (NH hC hF hN h1 H' E' _ a2 _ rs' B' ms cs OW _ g1 st4 hit (fun y hy=>by rw[E8 (fun e=>hl1 (by rw[<-e];exact hy))];exact hm' y hy) (p2.put hl2) avR (hx2.put g8)).of ((q1'.trans (.one hleave)).trans (.one hend))
theorem ae6(hC:BG P C)(hF:BP P C){fn FC:Func}{g g2:Nat}{p:List Nat}{k:List It}{c:Core}{stk:List Fw}{x:Operand}{ps:Array Tmp}{ca cb:Code}{caps:List SV}{φ:Sh->Prop}(hfn:C.fns.get g=ak fn)
  (hcode:Ba (Az fn) p=.rangeFunc x ps ca cb) (hx:BI c.tm x=.fn g2 caps) (hfn2:C.fns.get g2=ak FC) (hb:(iq (1+caps.length) FC.ntmps&&FC.body.isSome)=aC)
  (ih:∀l,F8 P C K g2 aK [.code []] {c with tm:=(.val (yv l)::caps)++dU (FC.ntmps - (1+caps.length)) .any} ({g,r:=aK,td:=k,tm:=c.tm,lp:=ak (l,p,.ready)}::stk) φ):F8 P C K g aK (.code p::k) c stk φ:=by
 intro H E w a items rs B ms cs fn' h hfn' st hi hm hs hnd hxt;rw[hfn] at hfn';cases hfn';simp only[aI] at hb;obtain ⟨body2,JW⟩:=fP.1 hb.2;have hP2:=hC.fn g2 FC hfn2;have Xf:∃k',items=.code (.rangeFunc x ps ca cb)::k'/\CO (Az fn) k k':=by
  cases hi with
  |code p hk=>exact ⟨_,by rw[hcode],hk⟩ |loop p y hl hk=>rw[hcode] at hl;cases hl
 obtain ⟨k',rfl,hk⟩:=Xf;have df:=BA (H:=H) (E:=E) st.den x;rw[hx] at df;obtain ⟨vs,ef,hvs⟩:=df;have hent:=hF.en g2 (.inr (by rw[hfn2];rfl));let ob:Obj:=.loop {state:=.ready,pending:=aK,fn:=g,tmps:=a.tmps,params:=ps,assign:=ca,body:=cb,defers:=w.heap.size}
 let w2:World:=(w.alloc (.deferred (ak []))).alloc ob
 have he:(Instr.enterLoop g a.tmps ps ca cb aK).run P w=.ok (w.heap.size+1,[{target:=.collected w.heap.size,args:=#[]}]) w2:=run_enterLoop_outer g a.tmps ps ca cb;have hstep:step P (lone (CJ (bq g aK (marks rs)) a (.code (.rangeFunc x ps ca cb)::k')) (ms++cs) w) =
   .next (lone (gQ P g2 (#[yv (w.heap.size+1)]++vs) .normal) (CJ (bq g aK (marks (w.heap.size::rs))) a (.inRangeFunc (w.heap.size+1)::k')::(ms++cs)) w2):=by
  have h0:=stepR_rangeFunc (P:=P) (b:=bq g aK (marks rs)) (a:=SC (bq g aK (marks rs)) a) (k:=k') (cs:=ms++cs) (w:=w) (g:=x) (ps:=ps) (assign:=ca) (body:=cb) (l:=w.heap.size+1) (mark:=[{target:=.collected w.heap.size,args:=#[]}])
   (w₁:=w2) (w₁':=w2) (w₂:=w2) (d:={target:=.fn (.func g2) vs,args:=#[yv (w.heap.size+1)]}) (f:=g2) (args:=#[yv (w.heap.size+1)]++vs) he
   (by rw[QD];simp[resolve,jL,ef,yv,show ∀v,a.eval (.const v)=v from fun _=>rfl]) (by simp[invoke,Ih hent])
  rw[Dz,h0];simp[CJ,Frame.atR,SC,bq,marks,st.defers]
 rw[adL hP2 JW] at hstep;have hl:=hvs.length;have st1:=(st.Yb (.deferred (ak []))).Yb ob;have hx1:=(hxt.alloc st (.deferred (ak []))).alloc (st.Yb _) ob;have hsz:(w.alloc (.deferred (ak []))).heap.size=w.heap.size+1:=World.size_alloc ..;rw[hsz] at hx1;have hB:∀y∈rs++B,y<w.heap.size:=fun y hy=>by
  have:∃o,h y=ak o:=by
   rcases bI.1 hy with hy|hy
   ·exact ⟨_,hm y hy⟩
   ·exact hs.has y hy
  obtain ⟨o,ho⟩:=this;exact (Array.getElem?_eq_some_iff.1 (hxt y o ho).1).1
 have hold:∀y,y<w.heap.size->IY (IY h w.heap.size (.deferred (ak []))) (w.heap.size+1) ob y=h y:=fun y hy=>by
  rw[E8 (by omega),E8 (by omega)]
 have hs1:FZ C H E (IY (IY h w.heap.size (.deferred (ak []))) (w.heap.size+1) ob) stk ms B:=
  (hs.put (fun hm=>by have:=hB _ (iD _ hm);omega)).put (fun hm=>by have:=hB _ (iD _ hm);omega)
 have st2:St C K H E w2 {c with tm:=(.val (yv (w.heap.size+1))::caps)++dU (FC.ntmps - (1+caps.length)) .any} {tmps:=(#[yv (w.heap.size+1)]++vs)++dY (FC.ntmps - (#[yv (w.heap.size+1)]++vs).size) undef,defers:=[]}:=by
  refine ⟨?_,st1.hp,st1.BZ,st1.free,st1.gl,rfl⟩;have:((#[yv (w.heap.size+1)]++vs)++dY (FC.ntmps - (#[yv (w.heap.size+1)]++vs).size) undef).toList=(yv (w.heap.size+1)::vs.toList)++dU (FC.ntmps - (1+caps.length)) undef:=by
   have e:(#[yv (w.heap.size+1)]++vs).size=1+caps.length:=by simp at hl;simp[hl]
   rw[e];simp
  simp only[this];exact AA.append (l:=.val (yv (w.heap.size+1))::caps) (vs:=yv (w.heap.size+1)::vs.toList) ⟨⟨rfl,rfl⟩,hvs⟩ (rY _ _ (by simp))
 have hit2:CO (Az FC) [.code []] [.code body2]:=by
  have:=iG (body:=Az FC) [] qX;have he:Ba (Az FC) []=body2:=by simp[Ba,Az,JW]
  rwa[he] at this
 have hs2:FZ C H E (IY (IY h w.heap.size (.deferred (ak []))) (w.heap.size+1) ob) ({g,r:=aK,td:=k,tm:=c.tm,lp:=ak (w.heap.size+1,p,.ready)}::stk) (CJ (bq g aK (marks (w.heap.size::rs))) a (.inRangeFunc (w.heap.size+1)::k')::ms) ((w.heap.size::rs)++[w.heap.size+1]++B):=by
  refine ⟨w.heap.size::rs,B,by simp[Rz],⟨fn,a,k',hfn,st.den,st.defers,hk,fun y hy=>?_,?_⟩,hs1⟩
  ·rcases iy.1 hy with rfl|hy
   ·rw[E8 (by omega),NG]
   ·rw[hold y (hB y (kU _ hy))];exact hm y hy
  ·exact ⟨rfl,ob,NG,x,ps,ca,cb,w.heap.size,hcode,rfl⟩
 have PN:(([]:List Nat)++((w.heap.size::rs)++[w.heap.size+1]++B)).Nodup:=by
  have h1:w.heap.size ∉ rs:=fun hm=>by have:=hB _ (kU _ hm);omega
  have h2:w.heap.size ∉ B:=fun hm=>by have:=hB _ (iD _ hm);omega
  have h3:w.heap.size+1 ∉ rs:=fun hm=>by have:=hB _ (kU _ hm);omega
  have h4:w.heap.size+1 ∉ B:=fun hm=>by have:=hB _ (iD _ hm);omega
  obtain ⟨n1,n2,n3⟩:=dW.1 hnd;simp only[List.nil_append,List.cons_append,dV,List.nodup_cons,bI,iy,dW,not_or];refine ⟨⟨h1,by omega,h2⟩,n1,⟨h4,n2⟩,fun a ha b hb=>?_⟩;rcases hb with rfl|hb
  ·intro e;exact h3 (e ▸ ha)
  ·exact n3 a ha b hb
 exact (ih (w.heap.size+1) H E w2 _ _ [] _ (_::ms) cs FC _ hfn2 st2 hit2 (fun _ hy=>by cases hy) hs2 PN hx1).of (.one hstep)
end
structure PO where
 g:Nat
 r:Option (Nat×Nat)
 td:List It
 c:Core
 stk:List Fw
def qRO:Option (Nat×Nat)->Option (Nat×Nat)->Option (List BK)
 |none,aK=>ak [] |some (l,d),ak (l',d')=>Dh (fC d d') (ak [.nat l l']) |_,_=>aK
def anY:OX->OX->Bool
 | .ready,.ready=>aC | .busy,.busy=>aC | .done p,.done q=>p==q |_,_=>ay
def anZ:Option (Nat×List Nat×OX)->Option (Nat×List Nat×OX)->Option (List BK)
 |none,aK=>ak [] |some (l,p,s),ak (l',p',s')=>Dh (p==p'&&anY s s') (ak [.nat l l']) |_,_=>aK
def Yd(hp:List (Nat×SB))(ρ:List (Nat×Rn)):List Fw->List Fw->Option (List BK)
 |[],[]=>ak [] |f::s,f'::s'=>Dh (f.g==f'.g&&Jm f.td f'.td) (E5 (qRO f.r f'.r) (E5 (anZ f.lp f'.lp) (E5 (qL hp ρ f.tm f'.tm) (Yd hp ρ s s')))) |_,_=>aK
def Ye:List Fw->List Fw->Bool
 |[],[]=>aC |f::s,f'::s'=>f.g==f'.g&&Jm f.td f'.td&&(f.r.isSome==f'.r.isSome)&&(f.lp.isSome==f'.lp.isSome)&&Ye s s' |_,_=>ay
def an0:List Fw->List Fw->List (Nat×Rn)
 |f::s,f'::s'=>ND f.tm f'.tm++an0 s s' |_,_=>[]
def PO.rn(t:PO)(c:Core)(stk:List Fw):List (Nat×Rn):=infer t.c.hp c.hp 4000 (ND t.c.tm c.tm++an0 t.stk stk) []
def Xg(g:Nat)(r:Option (Nat×Nat))(td:List It)(c:Core)(stk:List Fw):Nat->List PO->Tree ED
 |_,[]=>.fail |k,t::ts=>bif g==t.g&&Jm td t.td&&Ye stk t.stk then match E5 (qRO r t.r) (E5 (qC (t.rn c stk) c t.c) (Yd c.hp (t.rn c stk) stk t.stk)) with
   |some l=>.leaf (.at_ k l) |none=>Xg g r td c stk (k+1) ts
  else Xg g r td c stk (k+1) ts
def an1(ts:List PO):anU->Tree ED
 | .fin v c=>match finish c v with
  |some s=>.leaf (.ret s) |none=>.fail
 | .stop g r td c stk=>Xg g r td c stk 0 ts
def agK(C:Ctx)(pause:Nat->List It->Bool)(m n g:Nat)(r:Option (Nat×Nat))(td:List It)(c:Core)(stk:List Fw)(ts:List PO):Tree ED:=(abv C pause m n g r td c stk).bind (an1 ts)
def an2(P:Program)(C:Ctx)(K:Kx)(ts:List PO)(φ:Sh->Prop):ED->Prop
 | .ret s=>φ s | .at_ k l=>dI l/\∃t,ts[k]?=ak t/\F8 P C K t.g t.r t.td t.c t.stk φ
@[irreducible] def Uc (ψ:ED->Prop) (t:Tree ED):Prop:=t.All ψ
theorem NI(ψ:ED->Prop)(t:Tree ED):Uc ψ t=t.All ψ:=by unfold Uc;rfl
def Lh:Nat->List It->Bool:=fun _ _=>ay
def SK:BT Func->Bool:=BT.allB fun _ fn=>Ej (Az fn)
section
variable{P:Program}{C:Ctx}{K:Kx}{H H' OQ H0:Mem}{E E' OT E1:Env}{w w' w'' w0:World}{h:Hp}
theorem agL(hx:SK C.fns=aC):∀g fn,C.fns.get g=ak fn->Ej (Az fn)=aC:=fun _ _ hg=>(BT.TN hx).get hg
theorem akw{r r':Option (Nat×Nat)}{q:List BK}(hx:qRO r r'=ak q)(ha:dI q):r=r':=by
 unfold qRO at hx;split at hx
 ·rfl
 ·obtain ⟨h1,h2⟩:=Bg hx
  cases h2;have h3:_=_:=ha.1;rw[h3,fK h1]
 ·cases hx
theorem an3{s t:OX}(hx:anY s t=aC):s=t:=by
 cases s<;>cases t<;>simp[anY] at hx<;>simp_all
theorem an4{r r':Option (Nat×List Nat×OX)}{q:List BK}(hx:anZ r r'=ak q)(ha:dI q):r=r':=by
 unfold anZ at hx;split at hx
 ·rfl
 ·obtain ⟨h1,h2⟩:=Bg hx
  cases h2;simp only[aI,beq_iff_eq] at h1;have h3:_=_:=ha.1;rw[h3,h1.1,an3 h1.2]
 ·cases hx
def Xh(hp:List (Nat×SB))(ρ:List (Nat×Rn)):List Fw->List Fw->Prop
 |[],[]=>True |f::s,f'::s'=>f.g=f'.g/\f.td=f'.td/\f.r=f'.r/\f.lp=f'.lp/\leL hp ρ f.tm f'.tm/\Xh hp ρ s s' |_,_=>False
theorem adM{hp:List (Nat×SB)}{ρ:List (Nat×Rn)}:∀{s s':List Fw} {q:List BK},Yd hp ρ s s'=ak q->dI q->Xh hp ρ s s'
 |[],[],_,_,_=>trivial |f::s,f'::s',q,hx,ha=>by
  simp only[Yd] at hx;obtain ⟨h1,h2⟩:=Bg hx;obtain ⟨a,b,h3,h4,rfl⟩:=BN h2;obtain ⟨a2,b2,h5,h6,rfl⟩:=BN h4;obtain ⟨a3,b3,h7,h8,rfl⟩:=BN h6;simp only[aI,beq_iff_eq] at h1;have e1:=eH ha;have e2:=eH e1.2;have e3:=eH e2.2;exact ⟨h1.1,MX h1.2,akw h3 e1.1,an4 h5 e2.1,OU _ h7 e3.1,adM h8 e3.2⟩
 |[],_::_,_,hx,_=>by simp[Yd] at hx |_::_,[],_,hx,_=>by simp[Yd] at hx
theorem FZ.weak{hp:List (Nat×SB)}{ρ:List (Nat×Rn)}(hh:AO K H E w hp):∀{s s':List Fw} {ms:List Frame} {B:List Nat},FZ C H E h s ms B->Xh hp ρ s s'->FZ C H (F6 ρ E) h s' ms B
 |[],[],[],_,x,_=>x |⟨g,r,td,tm,lp⟩::s,⟨g',r',Gj,tm',lp'⟩::s',m::ms,B,⟨rs,B',hB,⟨fn,a,items,h1,h2,h3⟩,h6⟩,⟨e1,e2,e3,e4,e5,e6⟩=>by
  simp only at e1 e2 e3 e4 e5;subst e1 e2 e3 e4;exact ⟨rs,B',hB,⟨fn,a,items,h1,Jb hh _ e5 h2,h3⟩,FZ.weak hh h6 e6⟩
 |[],[],_::_,_,x,_=>x.elim |_::_,_,[],_,x,_=>x.elim |[],_::_,_,_,_,x=>x.elim |_::_,[],_::_,_,_,x=>x.elim
theorem agM{hp:List (Nat×SB)}{ρ:List (Nat×Rn)}:∀{s s':List Fw} {g:Nat},Xh hp ρ s s'->Rj g s'=Rj g s
 |[],[],_,_=>rfl |f::s,f'::s',_,⟨e1,_,_,_,_,e4⟩=>by simp only[Rj];rw[e1];exact agM e4 |[],_::_,_,h=>h.elim |_::_,[],_,h=>h.elim
theorem agN{g:Nat}{r:Option (Nat×Nat)}{td:List It}{c c':Core}{stk Jc:List Fw}{φ:Sh->Prop}(ρ:List (Nat×Rn))(hle:leC ρ c c')(hs:Xh c.hp ρ stk Jc)(hg:F8 P C K g r td c' Jc φ):F8 P C K g r td c stk φ:=by
 intro H E w a items rs B ms cs fn h hfn st hi hm hst hnd hx;have:=hg H (F6 ρ E) w a items rs B ms cs fn h hfn (st.weak hle) hi hm (hst.weak st.hp hs) hnd (hx.weak st hle);rw[agM hs] at this;exact this
theorem Vm{φ:Sh->Prop}{ts:List PO}{g:Nat}{r:Option (Nat×Nat)}{td:List It}{c:Core}{stk:List Fw}:∀{rs:List PO} {k:Nat},(∀j,rs[j]?=ts[k+j]?)->(Xg g r td c stk k rs).All (an2 P C K ts φ)->F8 P C K g r td c stk φ
 |[],_,_,hx=>hx.elim |t::rs,k,hk,hx=>by
  have hr:∀j,rs[j]?=ts[k+1+j]?:=fun j=>by have:=hk (j+1);simp only[List.getElem?_cons_succ] at this;rw[this];congr 1;omega
  unfold Xg at hx;cases hb:(g==t.g&&Jm td t.td&&Ye stk t.stk)<;>simp only[hb,cond_true,cond_false] at hx
  ·exact Vm hr hx
  ·simp only[aI,beq_iff_eq] at hb
   obtain ⟨⟨h1,h2⟩,h3⟩:=hb;split at hx
   ·rename_i l hl
    obtain ⟨a0,b0,q0,q00,rfl⟩:=BN hl;obtain ⟨a,b,q1,q2,rfl⟩:=BN q00;obtain ⟨hl,t',ht,hg⟩:=hx;have:=hk 0;simp only[List.getElem?_cons_zero,Nat.add_zero] at this;rw[<-this] at ht;cases ht;have h2:=MX h2;subst h1 h2;have e1:=eH hl;have e2:=eH e1.2;have hrr:=akw q0 e1.1;subst hrr;exact agN (t.rn c stk) (aiO q1 e2.1) (adM q2 e2.2) hg
   ·exact Vm hr hx
theorem Ot(hC:BG P C)(hF:BP P C)(hN:SK C.fns=aC){pause:Nat->List It->Bool}{m n g:Nat}{r:Option (Nat×Nat)}{td:List It}{c:Core}{stk:List Fw}{ts:List PO}{φ:Sh->Prop}
  (hx:Uc (an2 P C (K0 H0 w0) ts φ) (agK C pause m n g r td c stk ts)):F8 P C (K0 H0 w0) g r td c stk φ:=by
 rw[NI] at hx;refine NH hC hF (agL hN) (pause:=pause) (m:=m) (n:=n) ((iJ hx).mono fun o ho=>?_);cases o with
 |fin v c=>
  simp only[an1] at ho;split at ho
  ·rename_i s hs
   exact ⟨s,hs,ho⟩
  ·exact ho.elim
 |stop g r td c stk=>exact Vm (k:=0) (fun j=>by simp) ho
theorem Zn{fn:Func}{g:Nat}{r:Option (Nat×Nat)}{td tb:List It}{c:Core}{stk:List Fw}{φ:Sh->Prop}(hfn:C.fns.get g=ak fn)(hx:aaj fn td=ak tb)(hg:F8 P C K g r tb c stk φ):F8 P C K g r td c stk φ:=by
 unfold aaj at hx;split at hx
 ·rename_i p k
  cases hb:WW (Ba (Az fn) p)<;>simp only[hb,cond_true,cond_false] at hx
  ·cases hx
  ·cases hx
   unfold WW at hb;split at hb
   ·rename_i x he
    intro H E w a items rs B ms cs fn' h hfn' st hi hm hst hnd hxt;rw[hfn] at hfn';cases hfn';have h0:Ba (Az fn) (0::p)=x:=by simp[Ba,he,child]
    cases hi with
    |code p hk=>
     have:=iG (0::p) (pJ p x he hk);rw[h0] at this;rw[he];exact (hg H E w a _ rs B ms cs fn h hfn st this hm hst hnd hxt).of (.one agE)
    |loop p y hl hk=>
     rw[he] at hl;cases hl;have:=iG (0::p) (pJ p x he hk);rw[h0] at this;exact (hg H E w a _ rs B ms cs fn h hfn st this hm hst hnd hxt).of (.one abq)
   ·cases hb
 ·cases hx
theorem aru(hC:BG P C){g:Nat}{fn:Func}{F:List Sh->Tree Sh}(hfn:C.fns.get g=ak fn)(hb:fn.body.isSome=aC)
  (h:∀(H:Mem) (w:World) (Bv:List Sh) (args:List Value) (φ:Sh->Prop),DX H Bv args->(F Bv).All φ->∃Ey:List Sh,DX H Ey args/\∃L,F8 P C (K0 H w) g aK [.code []] (Ap fn.ntmps Ey L) [] φ):AV P C.gls g F:=by
 refine JX hC hfn hb fun H w Bv args φ hr hφ=>?_
 obtain ⟨Ey,hr',L,hgo⟩:=h H w Bv args φ hr hφ;refine ⟨Ey,hr',L,fun H1 E w1 a items ms cs fn1 avS st hi hs hx=>?_⟩;cases ms with
 |cons _ _=>exact hs.elim |nil=>
  have:=hgo H1 E w1 a items [] [] [] cs fn1 (fun _=>aK) avS st hi (fun _ hy=>by cases hy) rfl (by simp) (fun b o e=>by cases e);obtain ⟨a',w',v,s,H',todo,fn0,q1,q2,q3⟩:=this;refine ⟨a',w',v,s,H',todo,fn0,q1,?_,q3⟩;have e:(base g).at a items=CJ (bq g (Ut aK) (marks [])) a items:=(Ya g a items).symm;rw[e];exact q2
end
end Go.Sx
