/- Own work. -/
import Derived.Test.YthehnhaoiijkhaaGreatDoorS06
open Int (ofNat)
open Array renaming replicate->dY,eq_empty_of_size_eq_zero->oH
open Bool renaming true->aF,false->aA,and_eq_true->aJ
open Go.Deferred renaming ofValue->jJ
open Go.Frame renaming enter->gQ,round->rH
open Go.Instr renaming endRound->mM
open Go.Item renaming code->zQ
open Go.Sx.AV renaming any->rY
open Go.Sx.BQ renaming all->dI,Et->eG
open Go.Sx.CX renaming code->iE,nil->qW,loop->pR
open Go.Sx.Tree renaming Eb->iH
open Go.stepG renaming apply->gX
open List renaming replicate->dU,nodup_append->dW,mem_append->bK,mem_append_right->iy,append_nil->fA,append_assoc->dV,mem_cons->ig,mem_append_left->kR
open List.Sublist renaming append->wB,refl->wC
open Nat renaming beq->fC,eq_of_beq_eq_true->fH,ble->gY
open Option renaming some->ay,none->aN,isSome_iff_exists->gI
open Option.some renaming inj->dH
namespace Go.Sx
def yv(l:Nat):Value:=.func (.yield l) #[] #[]
section moves
variable{P:Program}{b c:Frame}{a:Act}{k:List Item}{cs:List Frame}{w w':World}
theorem aby{l:Nat}(hb:b.roundOf=ay l)(hr:(Instr.beginRound l).run P w=.ok () w'):step P (lone (CW b a (.beginRound::k)) cs w)=.next (lone (CW b a k) cs w'):=by
 rw[DT,DT];exact stepR_beginRound hb hr
theorem adl{l:Nat}{v:Value}(hb:b.roundOf=ay l)(hk:b.kind=.normal)(hr:(mM l aN).run P w=.ok v w'):step P (lone (CW b a []) (c::cs) w)=.next (lone (c.finish v) cs w'):=by
 rw[DT];exact stepR_round_end hb hk hr
theorem adn{l:Nat}{v:Value}(hb:b.roundOf=ay l)(hk:b.kind=.normal)(hr:(mM l (ay .ret)).run P w=.ok v w'):step P (lone (CW b a (.code .ret::k)) (c::cs) w)=.next (lone (c.finish v) cs w'):=by
 rw[DT];exact stepR_round_ret hb hk hr
theorem abz{l id:Nat}{v:Value}(hb:b.roundOf=ay l)(hk:b.kind=.normal)(hx:exitTo id k=aN)(hr:(mM l (ay (.exit id))).run P w=.ok v w'):
  step P (lone (CW b a (.code (.exit id)::k)) (c::cs) w)=.next (lone (c.finish v) cs w'):=by
 rw[DT];exact stepR_round_exit hb hk hx hr
theorem ZY(l:Nat)(v:Value):(CW b a (.inRangeFunc l::k)).finish v=CW b a (.endRangeFunc l::k):=by rw[DT,finish_atR_inRangeFunc];rfl
theorem afh{l:Nat}{jump:Option Code}(h:(Instr.endLoop l).run P w=.ok jump w'):step P (lone (CW b a (.endRangeFunc l::k)) cs w)=.next (lone (CW b a ((jump.map zQ).toList++k)) cs w'):=by
 rw[DT,DT];exact stepR_endRangeFunc h
end moves
inductive aoa where
 |fin (v:SV) (c:Core)
 |stop (g:Nat) (r:Option (Nat×Nat)) (td:List It) (c:Core) (stk:List Fw)
inductive EvW where
 |plain|bad|halt
 |next (g:Nat) (r:Option (Nat×Nat)) (td:List It) (c:Core) (stk:List Fw) (q:List BQ)
def Xc:OU->OU->Bool
 | .ready,.ready=>aF | .busy,.busy=>aF |_,_=>aA
def setW(g d:Nat)(s0 s1:OU):List Fw->Option (Nat×List Fw)
 |[]=>aN |f::s=>bif fC s.length d then match f.lp with
   |some (l,p,st)=>bif fC f.g g&&Xc st s0 then ay (l,{f with lp:=ay (l,p,s1)}::s) else aN
   |none=>aN
  else match setW g d s0 s1 s with
   |some (l,s')=>ay (l,f::s') |none=>aN
def yW:List Fw->Option (Nat×Nat×Fw×List Nat)
 |[]=>aN |f::s=>match f.lp with
  |some (l,p,.ready)=>ay (l,s.length,f,p) |_=>yW s
def yieldOf(fn:Func)(td:List It)(c:Core):Option (Nat×List SV):=
 match td with
 | .reg p (i::_)::_=>match Bo (AU fn) p with
  | .region _ ops _=>match opAt ops.toList i with
   |some o=>match Oa ops.toList c.tm o with
    | .yes=>match o.op with
     | .call k=>match k.callee with
      | .value f=>match BP c.tm f with
       | .val (.func (.yield l) x y)=>bif fC x.size 0&&fC y.size 0 then ay (l,k.args.toList.map (BP c.tm)) else aN |_=>aN
      |_=>aN
     |_=>aN
    |_=>aN
   |none=>aN
  |_=>aN
 |_=>aN
def QA(C:Ctx)(g l d:Nat)(s1:OU)(b:Bool)(c:Core)(stk:List Fw):EvW:=
 match setW g d .busy s1 stk with
 |some (l',f::s)=>match f.lp with
  |none=>match RZ C ⟨f.g,f.td,f.tm⟩ (.bool b) c with
   |some x=>.next f.g f.r x.1 x.2 s [.nat l l'] |none=>.bad
  |some _=>.bad
 |_=>.bad
def evW(C:Ctx)(fn:Func)(g:Nat)(r:Option (Nat×Nat))(td:List It)(c:Core)(stk:List Fw):EvW:=
 match td with
 |[]=>match r with
  |none=>.plain |some (l,d)=>QA C g l d .ready aF c stk
 | .XT::k=>match r with
  |none=>.bad |some (l,d)=>match setW g d .ready .busy stk with
   |some (l',s)=>.next g r k c s [.nat l l'] |none=>.bad
 | .code p::k=>match Bo (AU fn) p with
  | .rangeFunc _ _ _ _=>.halt | .ret=>match r with
   |none=>.plain |some (l,d)=>QA C g l d (.done p) aA c stk
  | .exit id=>match r with
   |none=>.plain |some (l,d)=>match Gj id k with
    |some _=>.plain |none=>QA C g l d (.done p) aA c stk
  |_=>.plain
 | .reg _ (_::_)::_=>match yieldOf fn td c with
  |some (l,args)=>match yW stk with
   |some (l',d,f,p)=>match C.fns.get f.g with
    |some OT=>match Bo (AU OT) p with
     | .rangeFunc _ ps _ _=>bif fC ps.size args.length then
       .next f.g (ay (l',d)) [.code (0::p),.XT,.code (1::p)] {c with tm:=(ps.toList.zip args).foldl (fun t x=>t.set x.1 x.2) f.tm} ({g,r,td,tm:=c.tm,lp:=aN}::stk) [.nat l l'] else .bad
     |_=>.bad
    |none=>.bad
   |none=>.bad
  |none=>match Qv C fn td c with
   |some x=>.next x.1 aN [.code []] {c with tm:=x.2.2++dU (x.2.1.ntmps - x.2.2.length) .any} ({g,r,td,tm:=c.tm,lp:=aN}::stk) []
   |none=>.plain
 |_=>.plain
def akO(f:Fw):OU->List It
 | .done q=>.code q::f.td |_=>f.td
def akP:OU->Bool
 | .busy=>aF |_=>aA
def abA(C:Ctx)(pause:Nat->List It->Bool)(m:Nat):Nat->Nat->Option (Nat×Nat)->List It->Core->List Fw->Tree aoa
 |0,g,r,td,c,stk=>.leaf (.stop g r td c stk) |n+1,g,r,td,c,stk=>match C.fns.get g with
  |none=>.fail |some fn=>bif pause g td then .leaf (.stop g r td c stk) else match evW C fn g r td c stk with
   | .bad=>.fail | .halt=>.leaf (.stop g r td c stk) | .next g' r' Gw c' JZ q=>XQ q (abA C pause m n g' r' Gw c' JZ) | .plain=>(RI C (MQ C (run C m aA)) aF g fn td c).bind fun s=>match s with
    | .go td c=>abA C pause m n g r td c stk | .halt td c=>.leaf (.stop g r td c stk) | .done v c=>match r with
     |some _=>.fail |none=>match stk with
      |[]=>.leaf (.fin v c) |f::s=>match f.lp with
       |none=>match RZ C ⟨f.g,f.td,f.tm⟩ v c with
        |some x=>abA C pause m n f.g f.r x.1 x.2 s |none=>.fail
       |some (_,_,st)=>bif akP st then .fail else abA C pause m n f.g f.r (akO f st) {c with tm:=f.tm} s
def arI(P:Program)(C:Ctx)(K:Kx)(φ:Sh->Prop):aoa->Prop
 | .fin v c=>∃s,finish c v=ay s/\φ s | .stop g r td c stk=>Gg P C K g r td c stk φ
section
variable{P:Program}{C:Ctx}{K:Kx}{H H' OL H0:Mem}{E E' OM E1:Env}{w w' w'' w0:World}{h:Hp}
theorem ajl{α:Type}{φ:α->Prop}{l:List BQ}{t:Tree α}(hx:(XQ l t).All φ):dI l/\t.All φ:=by
 unfold XQ at hx;split at hx
 ·exact ⟨trivial,hx⟩
 ·exact hx
theorem ag6.loop{fn:Func}{g:Nat}{tmps:Array Value}{p:List Nat}{s:OU}{o:Obj}(hx:ag6 fn g tmps p s o):∃lp,o=.loop lp/\lp.state=KJ s/\lp.pending=Gp (AU fn) s/\∀s',ag6 fn g tmps p s' (.loop {lp with state:=KJ s',pending:=Gp (AU fn) s'}):=by
 obtain ⟨x,ps,ca,cb,df,h1,rfl⟩:=hx;exact ⟨_,rfl,rfl,rfl,fun s'=>⟨x,ps,ca,cb,df,h1,rfl⟩⟩
theorem ajm{s t:OU}(hx:Xc s t=aF):s=t:=by
 cases s<;>cases t<;>simp[Xc] at hx<;>rfl
theorem abB{g d:Nat}{s0 s1:OU}{fn:Func}(hfn:C.fns.get g=ay fn):∀{s s':List Fw} {ms:List Frame} {B:List Nat} {l:Nat},setW g d s0 s1 s=ay (l,s')->F7 C H E h s ms B->B.Nodup->
  ∃lp,h l=ay (.loop lp)/\lp.state=KJ s0/\lp.pending=Gp (AU fn) s0/\l∈B/\F7 C H E (I8 h l (.loop {lp with state:=KJ s1,pending:=Gp (AU fn) s1})) s' ms B
 |[],_,_,_,_,hx,_,_=>by simp[setW] at hx |f::s,s',[],_,_,_,hs,_=>hs.elim |f::s,s',mf::ms,B,l,hx,⟨rs,B',hB,h1,h2⟩,hnd=>by
  subst hB;simp only[setW] at hx;cases hd:fC s.length d<;>simp only[hd,cond_true,cond_false] at hx
  ·split at hx
   ·rename_i l2 s2 hs2
    cases hx;have Py:B'.Nodup:=(dW.1 hnd).2.1;obtain ⟨lp,q1,q2,q3,q4,q5⟩:=abB hfn hs2 h2 Py;have hno:l ∉ rs++Rx f:=fun hm=>(dW.1 hnd).2.2 l hm l q4 rfl;simp only[bK,not_or] at hno;exact ⟨lp,q1,q2,q3,iy _ q4,rs,B',rfl,h1.put hno.1 hno.2,q5⟩
   ·cases hx
  ·split at hx
   ·rename_i l2 p st hl
    cases hb:(fC f.g g&&Xc st s0)<;>simp only[hb,cond_true,cond_false] at hx
    ·cases hx
    ·cases hx
     simp only[aJ] at hb;have hg:f.g=g:=fH hb.1;have hst:st=s0:=ajm hb.2;subst hst;obtain ⟨fn',a,items,q1,q2,q3,q4,q5,q6⟩:=h1;rw[hg,hfn] at q1;cases q1;rw[hl] at q6;obtain ⟨q7,o,q8,q9⟩:=q6;obtain ⟨lp,rfl,r1,r2,r3⟩:=q9.loop;have hlB:Rx f=[l]:=by simp[Rx,hl]
     rw[hlB] at hnd ⊢;have hn1:l ∉ rs:=fun hm=>(dW.1 (dW.1 hnd).1).2.2 l hm l (by simp) rfl;have hn2:l ∉ B':=fun hm=>(dW.1 hnd).2.2 l (by simp) l hm rfl;refine ⟨lp,q8,r1,r2,by simp,rs,B',by simp[Rx],⟨fn,a,items,by simpa[hg] using hfn,q2,q3,q4,fun x hx=>by rw[Fj (fun e=>hn1 (by rw[<-e];exact hx))];exact q5 x hx,?_⟩,h2.put hn2⟩;exact ⟨q7,_,NI,r3 s1⟩
   ·cases hx
theorem aoc:∀{s:List Fw} {ms:List Frame} {B:List Nat} {l d:Nat} {f:Fw} {p:List Nat},yW s=ay (l,d,f,p)->F7 C H E h s ms B->
  ∃(fn:Func) (a:Act) (o:Obj),C.fns.get f.g=ay fn/\AV H E f.tm a.tmps.toList/\h l=ay o/\ag6 fn f.g a.tmps p .ready o/\l∈B
 |[],_,_,_,_,_,_,hx,_=>by simp[yW] at hx |f0::s,[],_,_,_,_,_,_,hs=>hs.elim |f0::s,mf::ms,B,l,d,f,p,hx,⟨rs,B',hB,h1,h2⟩=>by
  subst hB;simp only[yW] at hx;split at hx
  ·rename_i l2 p2 hl
   cases hx;obtain ⟨fn,a,items,q1,q2,q3,q4,q5,q6⟩:=h1;rw[hl] at q6;obtain ⟨q7,o,q8,q9⟩:=q6;exact ⟨fn,a,o,q1,q2,q8,q9,by simp[Rx,hl]⟩
  ·obtain ⟨fn,a,o,q1,q2,q3,q4,q5⟩:=aoc hx h2
   exact ⟨fn,a,o,q1,q2,q3,q4,iy _ q5⟩
theorem abC:∀{l:List (Nat×SV)} {vl:List (Nat×Value)} {tm:List SV} {ts:Array Value},AV H E tm ts.toList->(∀(i:Nat) x y,l[i]?=ay x->vl[i]?=ay y->x.1=y.1/\Den H E x.2 y.2)->l.length=vl.length->
  AV H E (l.foldl (fun t x=>t.set x.1 x.2) tm) (vl.foldl (fun t x=>t.setIfInBounds x.1 x.2) ts).toList
 |[],[],_,_,hd,_,_=>hd |x::l,y::vl,tm,ts,hd,hx,hlen=>by
  obtain ⟨e1,e2⟩:=hx 0 x y rfl rfl;have hd2:AV H E (tm.set x.1 x.2) (ts.setIfInBounds y.1 y.2).toList:=by
   have:=JX (c:={tm:=tm,hp:=[],nx:=0,lim:=0,tc:=[]}) (a:={tmps:=ts,defers:=[]}) hd (ay x.1) e2;rw[<-e1];exact this
  simp only[List.foldl_cons];exact abC (l:=l) (vl:=vl) hd2 (fun i a b ha hb=>hx (i+1) a b ha hb) (by simpa using hlen)
 |[],_::_,_,_,_,_,hl=>by simp at hl |_::_,[],_,_,_,_,hl=>by simp at hl
end
section
variable{P:Program}{C:Ctx}{K:Kx}{H H' OL H0:Mem}{E E' OM E1:Env}{w w' w'' w0:World}{h:Hp}
theorem Yd{g d:Nat}{s0 s1:OU}:∀{s s':List Fw} {l g0:Nat},setW g d s0 s1 s=ay (l,s')->Rj g0 s'=Rj g0 s
 |[],_,_,_,hx=>by simp[setW] at hx |f::s,s',l,g0,hx=>by
  simp only[setW] at hx;cases hd:fC s.length d<;>simp only[hd,cond_true,cond_false] at hx
  ·split at hx
   ·rename_i hs2
    cases hx;show Rj f.g _=Rj f.g _;exact Yd hs2
   ·cases hx
  ·split at hx
   ·rename_i l2 p st hl
    cases hb:(fC f.g g&&Xc st s0)<;>simp only[hb,cond_true,cond_false] at hx
    ·cases hx
    ·cases hx;rfl
   ·cases hx
theorem ajn{body:Code}{id:Nat}:∀{td:List It} {k:List Item},CX body td k->Gj id td=aN->exitTo id k=aN:=by
 intro td k h;induction h with
 |nil=>intro _;rfl |code p _ ih=>intro h;simp only[Gj] at h;simpa[exitTo] using ih h |XT _ ih=>intro h;simp only[Gj] at h;simpa[exitTo] using ih h |loop p x _ _ ih=>intro h;simp only[Gj] at h;simpa[exitTo] using ih h |reg p l id ops _ _ ih=>intro h;simp only[Gj] at h;simpa[exitTo] using ih h |inBlock j h0 ih=>
  intro h;simp only[Gj] at h;cases hj:(j==id)<;>simp only[hj,cond_true,cond_false] at h
  ·have:j≠id:=by simpa using hj
   simp only[exitTo];rw[if_neg (by simpa using this)];exact ih h
  ·cases h
theorem akQ{f:Fw}{mf:Frame}{rs:List Nat}{x:List It×Core}{c:Core}{sv:SV}{v:Value}(hf:Zn C H E h f mf rs)(hl:f.lp=aN)(hp:RZ C ⟨f.g,f.td,f.tm⟩ sv c=ay x)(hv:Den H E sv v){a:Act}(st:St C K H E w c a):
  ∃(fn:Func) (a':Act) (items:List Item),C.fns.get f.g=ay fn/\St C K H E w x.2 a'/\CX (AU fn) x.1 items/\mf.finish v=CW (bq f.g (Ul f.r) (marks rs)) a' items/\x.2.hp=c.hp:=by
 obtain ⟨fn,a3,akI,g1,g2,g3,g4,_,g5⟩:=hf;rw[hl] at g5;unfold RZ at hp;rw[g1] at hp;simp only at hp;split at hp
 ·rename_i p i rest k htd
  split at hp
  ·rename_i rid ops dr hcode
   cases hp;rw[htd] at g4;cases g4 with
   |reg p l id ops2 hc hk=>
    rw[hc] at hcode;cases hcode;rename_i k';have g5:mf=_:=g5;subst g5;refine ⟨fn,a3.put ((opAt ops.toList i).bind (·.dst)) v,_,g1,⟨JX (c:={c with tm:=f.tm}) g2 _ hv,st.hp,st.Cm,st.free,st.gl,by rw[put_defers];exact g3⟩,.reg p rest _ ops hc hk,?_,rfl⟩
    rw[Sv];simp[opAt]
  ·cases hp
 ·cases hp
theorem Vg{fn:Func}{g l d:Nat}{s1:OU}{bb:Bool}{c c':Core}{stk JZ:List Fw}{g':Nat}{r':Option (Nat×Nat)}{Gw:List It}{q:List BQ}{φ:Sh->Prop}(hfn:C.fns.get g=ay fn)
  (hev:QA C g l d s1 bb c stk=.next g' r' Gw c' JZ q) (hq:dI q) (ih:Gg P C K g' r' Gw c' JZ φ) (hj:(Gp (AU fn) s1).isNone=bb) (hst:KJ s1=if bb then .ready else .done)
  {a:Act} {items:List Item} {rs B:List Nat} {ms cs:List Frame} (st:St C K H E w c a) (hs:F7 C H E h stk ms B) (hnd:(rs++B).Nodup) (hx:IG h K H E w c.hp)
  (hstep:∀(c':Frame) cs' v w',(mM l (Gp (AU fn) s1)).run P w=.ok v w'->step P (lone (CW (bq g (ay l) (marks rs)) a items) (c'::cs') w)=.next (lone (c'.finish v) cs' w')) :
  ag7 P C K (Rj g stk) φ (lone (CW (bq g (ay l) (marks rs)) a items) (ms++cs) w) cs:=by
 unfold QA at hev;split at hev
 ·rename_i l' f s hset
  split at hev
  ·rename_i hlp
   split at hev
   ·rename_i x hpop
    cases hev;obtain ⟨hll,_⟩:=hq;have hll:l=l':=hll;subst hll;obtain ⟨lp,q1,q2,q3,q4,q5⟩:=abB hfn hset hs (dW.1 hnd).2.1;have avX:=Yd (g0:=g) hset;have hw:=(hx l _ q1).1;have hrun:=run_endRound (P:=P) (Gp (AU fn) s1) hw;rw[hj] at hrun;cases ms with
    |nil=>exact q5.elim |cons mf ms=>
     obtain ⟨rs',B',hB,q6,q7⟩:=q5;have e:({lp with state:=if bb then LoopState.ready else LoopState.done,pending:=Gp (AU fn) s1}:Loop)={lp with state:=KJ s1,pending:=Gp (AU fn) s1}:=by rw[hst]
     rw[e] at hrun;have st2:=st.putObj (o':=.loop {lp with state:=KJ s1,pending:=Gp (AU fn) s1}) hx q1
     have hx2:=hx.put (o':=.loop {lp with state:=KJ s1,pending:=Gp (AU fn) s1}) q1
     obtain ⟨OT,a',items',p1,p2,p3,p4,p5⟩:=akQ q6 hlp hpop (v:=.bool bb) rfl st2;have hm':∀y∈rs',I8 h l (.loop {lp with state:=KJ s1,pending:=Gp (AU fn) s1}) y=ay (.deferred (ay [])):=by
      obtain ⟨_,_,_,_,_,_,_,z,_⟩:=q6;exact z
     subst hB;have hB2:Rx f=[]:=by simp[Rx,hlp]
     rw[hB2,fA] at hnd;have Py:(rs'++B').Nodup:=(dW.1 hnd).2.1;have hs1:=hstep mf (ms++cs) _ _ hrun;rw[p4] at hs1;have:=ih H E _ a' items' rs' B' ms cs OT _ p1 p2 p3 hm' q7 Py (by rw[p5];exact hx2);rw[show Rj g stk=Rj f.g JZ from avX.symm];exact this.of (.one hs1)
   ·cases hev
  ·cases hev
 ·cases hev
end
section
variable{P:Program}{C:Ctx}{K:Kx}{H H' OL H0:Mem}{E E' OM E1:Env}{w w' w'' w0:World}{h:Hp}
theorem adY{g:Nat}{fn:Func}{body:Code}(hP:P.funcs[g]?=ay fn)(hb:fn.body=ay body)(args:Array Value):
  gQ P g args .normal=CW (bq g aN []) {tmps:=args++dY (fn.ntmps - args.size) undef,defers:=[]} [.code body]:=by
 rw[Yb];exact Lh hP hb args
theorem al6(l g:Nat)(tmps:Array Value)(ca cb:Code):rH l g tmps ca cb .normal=CW (bq g (ay l) []) {tmps,defers:=[]} [.code ca,.beginRound,.code cb]:=by
 simp[rH,CW,bq]
theorem abD{b:Frame}{p:List Nat}{i:Nat}{rest:List Nat}{k:List It}{fn:Func}{items:List Item}{c:Core}{a:Act}{rid:Nat}{ops:Array Oper}{dr:Bool}{o:Oper}{kk:Call}(st:St C K H E w c a)(hi:CX (AU fn) (.reg p (i::rest)::k) items)
  (hcode:Bo (AU fn) p=.region rid ops dr) (ho:opAt ops.toList i=ay o) (hwant:Oa ops.toList c.tm o=.yes) (hop:o.op=.call kk) (cs:List Frame) :
  ∃k',items=.inRegion ops (i::rest)::k'/\CX (AU fn) k k'/\dr=aA/\stepG P aF {frame:=CW b a (.inRegion ops (i::rest)::k'),callers:=cs,status:=.running,dying:=aN} w=gX P aF (CW b a (.inRegion ops (i::rest)::k')) cs aN (execOp a.eval o) w:=by
 cases hi with
 |reg p l id ops2 hc hk=>
  rw[hc] at hcode;cases hcode;rename_i k';have ho':ops[i]?=ay o:=by simpa[opAt] using ho
  have hw':=Hy (ops:=ops) st.den o;rw[hwant] at hw';refine ⟨k',rfl,hk,rfl,?_⟩;have hg:=stepGR_op (P:=P) (b:=b) (a:=Sr b a) (k:=k') (cs:=cs) (w:=w) (rest:=rest) ho' hw';rw[Oper.semAt_eq _ _ _ (fun c hc=>by rw[hop] at hc;cases hc),Qz,<-DT] at hg;exact hg
theorem aod(hC:BL P C)(hF:Cb P C){fn:Func}{g:Nat}{r:Option (Nat×Nat)}{td:List It}{c:Core}{stk:List Fw}{x:Nat×Func×List SV}{φ:Sh->Prop}(hfn:C.fns.get g=ay fn)(hr:Qv C fn td c=ay x)
  (ih:Gg P C K x.1 aN [.code []] {c with tm:=x.2.2++dU (x.2.1.ntmps - x.2.2.length) .any} ({g,r,td,tm:=c.tm,lp:=aN}::stk) φ):Gg P C K g r td c stk φ:=by
 intro H E w a items rs B ms cs fn' h hfn' st hi hm hs hnd hx;rw[hfn] at hfn';cases hfn';unfold Qv at hr;split at hr
 ·rename_i p i rest k
  split at hr
  ·rename_i rid ops dr hcode
   split at hr
   ·rename_i o ho
    split at hr
    ·rename_i hwant
     split at hr
     ·rename_i kk hop
      split at hr
      ·rename_i f WR
       split at hr
       ·rename_i g2 caps hev
        split at hr
        ·cases hr
        ·rename_i hspec
         split at hr
         ·rename_i FI hfn2
          cases hb:(gY (kk.args.toList.map (BP c.tm)++caps).length FI.ntmps&&FI.body.isSome)<;>simp only[hb,cond_true,cond_false] at hr
          ·cases hr
          cases hr;simp only[aJ] at hb;obtain ⟨body2,JY⟩:=gI.1 hb.2;have hP2:=hC.fn g2 FI hfn2;obtain ⟨k',rfl,hk,rfl,hg⟩:=abD (P:=P) (b:=bq g (Ul r) (marks rs)) (w:=w) st hi hcode ho hwant hop (ms++cs);have df:=BJ (H:=H) (E:=E) st.den f;rw[hev] at df;obtain ⟨vs,ef,hvs⟩:=df;have hargs:=(NC st.den kk.args.toList).append hvs;have hent:=hF.en g2 (.inr (by rw[hfn2];rfl));have hrun:(execOp a.eval o).run P w=.ok (.enter g2 (kk.args.map a.eval++vs)) w:=by
           simp only[execOp,hop,resolve,WR];simp[jJ,ef,invoke,Il hent]
          have henter:step P (lone (CW (bq g (Ul r) (marks rs)) a (.inRegion ops (i::rest)::k')) (ms++cs) w)=.next (lone (gQ P g2 (kk.args.map a.eval++vs) .normal) (CW (bq g (Ul r) (marks rs)) a (.inRegion ops (i::rest)::k')::(ms++cs)) w):=
           step_lone_go (by rw[hg];simp[gX,hrun,CW])
          rw[adY hP2 JY] at henter;have hl:=hargs.length;have hlen:(kk.args.map a.eval++vs).size=(kk.args.toList.map (BP c.tm)++caps).length:=by
           rw[<-hl];simp
          have st2:St C K H E w {c with tm:=(kk.args.toList.map (BP c.tm)++caps)++dU (FI.ntmps - (kk.args.toList.map (BP c.tm)++caps).length) .any} {tmps:=(kk.args.map a.eval++vs)++dY (FI.ntmps - (kk.args.map a.eval++vs).size) undef,defers:=[]}:=by
           refine ⟨?_,st.hp,st.Cm,st.free,st.gl,rfl⟩;have:((kk.args.map a.eval++vs)++dY (FI.ntmps - (kk.args.map a.eval++vs).size) undef).toList=(kk.args.toList.map a.eval++vs.toList)++dU (FI.ntmps - (kk.args.toList.map (BP c.tm)++caps).length) undef:=by
            rw[hlen];simp
           simp only[this];exact hargs.append (rY _ _ (by simp))
          have hit2:CX (AU FI) [.code []] [.code body2]:=by
           have:=iE (body:=AU FI) [] qW;have he:Bo (AU FI) []=body2:=by simp[Bo,AU,JY]
           rwa[he] at this
          have hs2:F7 C H E h ({g,r,td:=.reg p (i::rest)::k,tm:=c.tm,lp:=aN}::stk) (CW (bq g (Ul r) (marks rs)) a (.inRegion ops (i::rest)::k')::ms) (rs++B):=
           ⟨rs,B,by simp[Rx],⟨fn,a,_,hfn,st.den,st.defers,hi,hm,rfl⟩,hs⟩
          exact (ih H E w _ _ [] (rs++B) (_::ms) cs FI h hfn2 st2 hit2 (fun _ hy=>by cases hy) hs2 (by simpa using hnd) hx).of (.one henter)
         ·cases hr
       ·cases hr
      ·cases hr
     ·cases hr
    ·cases hr
   ·cases hr
  ·cases hr
 ·cases hr
theorem al7{fn:Func}{g:Nat}{r:Option (Nat×Nat)}{td:List It}{c:Core}{stk:List Fw}{l l' d:Nat}{args:List SV}{f:Fw}{p:List Nat}{OT:Func}{x:Operand}{ps:Array Tmp}{ca cb:Code}{φ:Sh->Prop}(hfn:C.fns.get g=ay fn)(hr:yieldOf fn td c=ay (l,args))
  (hy:yW stk=ay (l',d,f,p)) (hff:C.fns.get f.g=ay OT) (hcf:Bo (AU OT) p=.rangeFunc x ps ca cb) (hsz:fC ps.size args.length=aF) (hll:l=l')
  (ih:Gg P C K f.g (ay (l',d)) [.code (0::p),.XT,.code (1::p)] {c with tm:=(ps.toList.zip args).foldl (fun t x=>t.set x.1 x.2) f.tm} ({g,r,td,tm:=c.tm,lp:=aN}::stk) φ):Gg P C K g r td c stk φ:=by
 intro H E w a items rs B ms cs fn' h hfn' st hi hm hs hnd hx;rw[hfn] at hfn';cases hfn';subst hll;unfold yieldOf at hr;split at hr
 ·rename_i q i rest k
  split at hr
  ·rename_i rid ops dr hcode
   split at hr
   ·rename_i o ho
    split at hr
    ·rename_i hwant
     split at hr
     ·rename_i kk hop
      split at hr
      ·rename_i fo WR
       split at hr
       ·rename_i l2 xa ya hev
        cases hb:(fC xa.size 0&&fC ya.size 0)<;>simp only[hb,cond_true,cond_false] at hr
        ·cases hr
        cases hr;simp only[aJ] at hb;obtain rfl:xa=#[]:=oH (fH hb.1);obtain rfl:ya=#[]:=oH (fH hb.2);obtain ⟨k',rfl,hk,rfl,hg⟩:=abD (P:=P) (b:=bq g (Ul r) (marks rs)) (w:=w) st hi hcode ho hwant hop (ms++cs);have df:=BJ (H:=H) (E:=E) st.den fo;rw[hev] at df;have ef:a.eval fo=.func (.yield l) #[] #[]:=by simp[Den] at df;exact df.1
        have hargs:=NC st.den kk.args.toList;obtain ⟨aze,af,ob,y1,y2,y3,y4,y5⟩:=aoc hy hs;rw[hff] at y1;cases y1;obtain ⟨x',ps',ca',cb',df',e1,rfl⟩:=y4;rw[hcf] at e1;cases e1;have hw:=(hx _ _ y3).1;have hsz2:(kk.args.map a.eval).size=ps.size:=by
         have:=fH hsz;simp at this;simp[this]
        have hrun:(execOp a.eval o).run P w=.ok (.round l f.g ((ps.zip (kk.args.map a.eval)).foldl (fun tmps (t,a)=>tmps.setIfInBounds t a) af.tmps) ca cb) w:=by
         have h1:(execOp a.eval o).run P w=(Instr.yield l (kk.args.map a.eval)).run P w:=by
          simp only[execOp,hop,resolve,WR];simp[jJ,ef,invoke]
         rw[h1];exact run_yield hw hsz2
        have akR:step P (lone (CW (bq g (Ul r) (marks rs)) a (.inRegion ops (i::rest)::k')) (ms++cs) w)=.next (lone (rH l f.g ((ps.zip (kk.args.map a.eval)).foldl (fun tmps (t,a)=>tmps.setIfInBounds t a) af.tmps) ca cb .normal) (CW (bq g (Ul r) (marks rs)) a (.inRegion ops (i::rest)::k')::(ms++cs)) w):=
         step_lone_go (by rw[hg];simp[gX,hrun])
        rw[al6] at akR;have hfold:AV H E ((ps.toList.zip (kk.args.toList.map (BP c.tm))).foldl (fun t x=>t.set x.1 x.2) f.tm) ((ps.zip (kk.args.map a.eval)).foldl (fun tmps (t,a)=>tmps.setIfInBounds t a) af.tmps).toList:=by
         have e:(ps.zip (kk.args.map a.eval)).foldl (fun tmps (t,a)=>tmps.setIfInBounds t a) af.tmps=(ps.toList.zip (kk.args.toList.map a.eval)).foldl (fun ts x=>ts.setIfInBounds x.1 x.2) af.tmps:=by
          rw[<-Array.foldl_toList];simp[Array.toList_zip]
         rw[e];refine abC y2 (fun j u v hu hv=>?_) (by simp);rw[List.getElem?_zip_eq_some] at hu hv;obtain ⟨u1,u2⟩:=hu;obtain ⟨v1,v2⟩:=hv;rw[u1] at v1;refine ⟨dH v1,?_⟩;obtain ⟨vv,w1,w2⟩:=hargs.get u2;rw[w1] at v2;cases v2;exact w2
        have st2:St C K H E w {c with tm:=(ps.toList.zip (kk.args.toList.map (BP c.tm))).foldl (fun t x=>t.set x.1 x.2) f.tm} {tmps:=(ps.zip (kk.args.map a.eval)).foldl (fun tmps (t,a)=>tmps.setIfInBounds t a) af.tmps,defers:=[]}:=
         ⟨hfold,st.hp,st.Cm,st.free,st.gl,rfl⟩
        have hit2:CX (AU OT) [.code (0::p),.XT,.code (1::p)] [.code ca,.beginRound,.code cb]:=by
         have h0:Bo (AU OT) (0::p)=ca:=by simp[Bo,hcf,child]
         have h1:Bo (AU OT) (1::p)=cb:=by simp[Bo,hcf,child]
         have:=iE (body:=AU OT) (0::p) (.XT (.code (1::p) .nil));rw[h0,h1] at this;exact this
        have hs2:F7 C H E h ({g,r,td:=.reg q (i::rest)::k,tm:=c.tm,lp:=aN}::stk) (CW (bq g (Ul r) (marks rs)) a (.inRegion ops (i::rest)::k')::ms) (rs++B):=
         ⟨rs,B,by simp[Rx],⟨fn,a,_,hfn,st.den,st.defers,hi,hm,rfl⟩,hs⟩
        exact (ih H E w _ _ [] (rs++B) (_::ms) cs OT h hff st2 hit2 (fun _ hy=>by cases hy) hs2 (by simpa using hnd) hx).of (.one akR)
       ·cases hr
      ·cases hr
     ·cases hr
    ·cases hr
   ·cases hr
  ·cases hr
 ·cases hr
theorem arK(hC:BL P C)(hF:Cb P C){fn:Func}{g g':Nat}{r r':Option (Nat×Nat)}{td Gw:List It}{c c':Core}{stk JZ:List Fw}{q:List BQ}{φ:Sh->Prop}(hfn:C.fns.get g=ay fn)
  (hev:evW C fn g r td c stk=.next g' r' Gw c' JZ q) (hq:dI q) (ih:Gg P C K g' r' Gw c' JZ φ):Gg P C K g r td c stk φ:=by
 unfold evW at hev;split at hev
 ·split at hev
  ·cases hev
  ·rename_i l d
   intro H E w a items rs B ms cs fn' h hfn' st hi hm hs hnd hx;rw[hfn] at hfn';cases hfn';cases hi;exact Vg hfn hev hq ih rfl rfl st hs hnd hx fun c' cs' v w' hrun=>adl rfl rfl hrun
 ·rename_i k
  split at hev
  ·cases hev
  ·rename_i l d
   split at hev
   ·rename_i l' s hset
    cases hev;obtain ⟨hll,_⟩:=hq;have hll:l=l':=hll;subst hll;intro H E w a items rs B ms cs fn' h hfn' st hi hm hs hnd hx;rw[hfn] at hfn';cases hfn';cases hi with
    |XT hk=>
     rename_i k';obtain ⟨lp,q1,q2,q3,q4,q5⟩:=abB hfn hset hs (dW.1 hnd).2.1;have hw:=(hx _ _ q1).1;have hrun:=run_beginRound (P:=P) hw q2;have e:({lp with state:=LoopState.busy}:Loop)={lp with state:=KJ .busy,pending:=Gp (AU fn) .busy}:=by
      cases lp;simp only at q3;subst q3;rfl
     rw[e] at hrun;have hs1:=aby (P:=P) (b:=bq g (ay l) (marks rs)) (a:=a) (k:=k') (cs:=ms++cs) rfl hrun;have hno:l ∉ rs:=fun hmm=>(dW.1 hnd).2.2 l hmm l q4 rfl;have:=ih H E _ a k' rs B ms cs fn _ hfn (st.putObj (o':=.loop {lp with state:=KJ .busy,pending:=Gp (AU fn) .busy}) hx q1) hk (fun y hy=>by
      rw[Fj (fun e=>hno (by rw[<-e];exact hy))];exact hm y hy) q5 hnd (hx.put q1)
     rw[Yd hset] at this;exact this.of (.one hs1)
   ·cases hev
 ·rename_i p k
  split at hev
  ·cases hev
  ·rename_i hret
   split at hev
   ·cases hev
   ·rename_i l d
    intro H E w a items rs B ms cs fn' h hfn' st hi hm hs hnd hx;rw[hfn] at hfn';cases hfn';have Xd:∃k',items=.code .ret::k':=by
     cases hi with
     |code p hk=>exact ⟨_,by rw[hret]⟩ |loop p y hl hk=>rw[hret] at hl;cases hl
    obtain ⟨k',rfl⟩:=Xd;refine Vg hfn hev hq ih rfl rfl st hs hnd hx fun c' cs' v w' hrun=>?_
    simp only[Gp,hret] at hrun;exact adn rfl rfl hrun
  ·rename_i id ajo
   split at hev
   ·cases hev
   ·rename_i l d
    split at hev
    ·cases hev
    ·rename_i hno
     intro H E w a items rs B ms cs fn' h hfn' st hi hm hs hnd hx;rw[hfn] at hfn';cases hfn';have Xd:∃k',items=.code (.exit id)::k'/\CX (AU fn) k k':=by
      cases hi with
      |code p hk=>exact ⟨_,by rw[ajo],hk⟩ |loop p y hl hk=>rw[ajo] at hl;cases hl
     obtain ⟨k',rfl,hk⟩:=Xd;refine Vg hfn hev hq ih rfl rfl st hs hnd hx fun c' cs' v w' hrun=>?_
     simp only[Gp,ajo] at hrun;exact abz rfl rfl (ajn hk hno) hrun
  ·cases hev
 ·rename_i p i rest k
  split at hev
  ·rename_i l args hy
   split at hev
   ·rename_i l' d f pf hyw
    split at hev
    ·rename_i OT hff
     split at hev
     ·rename_i x ps ca cb hcf
      cases hb:fC ps.size args.length<;>simp only[hb,cond_true,cond_false] at hev
      ·cases hev
      ·cases hev
       exact al7 hfn hy hyw hff hcf hb hq.1 ih
     ·cases hev
    ·cases hev
   ·cases hev
  ·split at hev
   ·rename_i x hx
    cases hev;exact aod hC hF hfn hx ih
   ·cases hev
 ·cases hev
end
section
variable{P:Program}{C:Ctx}{K:Kx}{H H' OL H0:Mem}{E E' OM E1:Env}{w w' w'' w0:World}{h:Hp}
theorem ag8{fn:Func}{g:Nat}{r:Option (Nat×Nat)}{td:List It}{c:Core}{stk:List Fw}(hev:evW C fn g r td c stk=.plain):r=aN\/endsB fn td=aA:=by
 cases r with
 |none=>exact .inl rfl |some x=>
  right;obtain ⟨l,d⟩:=x;unfold evW at hev;split at hev
  ·simp only[QA] at hev
   split at hev
   ·split at hev
    ·split at hev<;>cases hev
    ·cases hev
   ·cases hev
  ·rfl
  ·rename_i p k
   unfold endsB;simp only;split at hev
   ·rename_i hc;rw[hc]
   ·simp only[QA] at hev
    split at hev
    ·split at hev
     ·split at hev<;>cases hev
     ·cases hev
    ·cases hev
   ·rename_i hc;rw[hc]
   ·rename_i hne1 hne2 asP
    split
    ·rename_i hc;exact (hne2 hc).elim
    ·rfl
  ·rfl
  ·rename_i hne1 hne2 asP azf
   unfold endsB;split
   ·exact (hne1 rfl).elim
   ·exact (asP _ _ rfl).elim
   ·rfl
theorem NJ(hC:BL P C)(hF:Cb P C)(hN:∀g fn,C.fns.get g=ay fn->Eu (AU fn)=aF){pause:Nat->List It->Bool}{m:Nat}{φ:Sh->Prop}:∀{n g:Nat} {r:Option (Nat×Nat)} {td:List It} {c:Core} {stk:List Fw},
  (abA C pause m n g r td c stk).All (arI P C (K0 H0 w0) φ)->Gg P C (K0 H0 w0) g r td c stk φ
 |0,g,r,td,c,stk,h=>h |n+1,g,r,td,c,stk,h=>by
  intro H E w a items rs B ms cs fn hp hfn st hi hm hs hnd hx;simp only[abA,hfn] at h;cases hpz:pause g td<;>simp only[hpz,cond_true,cond_false] at h
  rotate_left
  ·exact h H E w a items rs B ms cs fn hp hfn st hi hm hs hnd hx
  split at h
  ·exact h.elim
  ·exact h H E w a items rs B ms cs fn hp hfn st hi hm hs hnd hx
  ·rename_i hev
   obtain ⟨hq,h⟩:=ajl h;exact arK hC hF hfn hev hq (NJ hC hF hN h) H E w a items rs B ms cs fn hp hfn st hi hm hs hnd hx
  ·rename_i hev
   have hK:=TP (K:=Ru H E w c.hp) hC hF (TQ hC hF m);obtain ⟨sig,h1,h2⟩:=al5 hC hF hK (hN g fn hfn) (iH h) st.re hi (bq g (Ul r) (marks rs)) (ms++cs) (by
    rcases ag8 hev with e|e
    ·left;rw[e];rfl
    ·exact .inr e)
   cases sig with
   |go Gw c'=>
    obtain ⟨a',w',H',E',items',q1,q2,q3,q4⟩:=h2;exact (NJ hC hF hN h1 H' E' w' a' items' rs B ms cs fn hp hfn (st.un q2) q4 hm (hs.le q3.I7 q3.MK) hnd (hx.keep st q2)).of q1
   |halt Gw c'=>
    obtain ⟨a',w',H',E',items',q1,q2,q3,q4⟩:=h2;exact (h1 H' E' w' a' items' rs B ms cs fn hp hfn (st.un q2) q4 hm (hs.le q3.I7 q3.MK) hnd (hx.keep st q2)).of q1
   |done sv c'=>
    obtain ⟨a',w',H',E',todo,q1,q2,q3,q5⟩:=h2;cases r with
    |some _=>exact h1.elim |none=>
    have st':=st.un q2;obtain ⟨w2,hp2,c1,st2,hx2,hs2⟩:=collects g todo (ms++cs) st' (hx.keep st q2) hm (hs.le q3.I7 q3.MK) hnd;obtain ⟨v,q4,q6⟩:=q5 _ _ st2;have q1':Steps P (lone (CW (bq g (Ul aN) (marks rs)) a items) (ms++cs) w) (lone {(base g).at a' todo with mode:=.returning} (ms++cs) w2):=q1.trans c1
    cases stk with
    |nil=>
     cases ms with
     |cons _ _=>exact hs.elim |nil=>
      obtain ⟨s,e1,e2⟩:=h1;obtain ⟨H2,r2⟩:=Qs st2 e1 q4;exact ⟨a',w2,v,s,H2,todo,fn,hfn,q1',st2.defers,e2,r2,q6⟩
    |cons f stk=>
     cases ms with
     |nil=>exact hs.elim |cons mf ms=>
      have hleave:step P (lone {(base g).at a' todo with mode:=.returning} (mf::(ms++cs)) w2)=.next (lone (mf.finish v) (ms++cs) w2):=
       step_leave_returned ⟨rfl,st2.defers,rfl,fn,hC.fn g fn hfn,q6⟩
      obtain ⟨rs',B',hB,p1,p2⟩:=hs2;subst hB;have hm':∀y∈rs',hp2 y=ay (.deferred (ay [])):=by
       obtain ⟨_,_,_,_,_,_,_,z,_⟩:=p1;exact z
      have Py:=(dW.1 hnd).2.1;simp only at h1;split at h1
      ·rename_i hlp
       split at h1
       ·rename_i x hpop
        obtain ⟨OT,a2,aar,g1,g2,g3,g4,g5⟩:=akQ p1 hlp hpop q4 st2;rw[g4] at hleave;have hB2:Rx f=[]:=by simp[Rx,hlp]
        rw[hB2,fA] at Py;exact (NJ hC hF hN h1 H' E' w2 a2 aar rs' B' ms cs OT hp2 g1 g2 g3 hm' p2 Py (by rw[g5];exact hx2)).of (q1'.trans (.one hleave))
       ·exact h1.elim
      ·rename_i l p s hlp
       cases hbz:akP s<;>simp only[hbz,cond_true,cond_false] at h1
       rotate_left
       ·exact h1.elim
       obtain ⟨OT,a2,aar,g1,g2,g3,g4,g5,g6⟩:=p1;rw[hlp] at g6;obtain ⟨g7,o,g8,g9⟩:=g6;obtain ⟨lp,rfl,r1,r2,_⟩:=g9.loop;have hw:=(hx2 _ _ g8).1;have hrun:=run_endLoop (P:=P) hw (by rw[r1];cases s<;>simp[KJ] at hbz ⊢;cases hbz)
       subst g7;rw[ZY] at hleave;have hend:=afh (b:=bq f.g (Ul f.r) (marks rs')) (a:=a2) (k:=aar) (cs:=ms++cs) hrun;have hB2:Rx f=[l]:=by simp[Rx,hlp]
       rw[hB2] at Py;have hl1:l ∉ rs':=fun hmm=>(dW.1 (dW.1 Py).1).2.2 l hmm l (by simp) rfl;have hl2:l ∉ B':=fun hmm=>(dW.1 Py).2.2 l (by simp) l hmm rfl;have avY:(rs'++B').Nodup:=by
        rw[dV] at Py;exact Py.sublist (wB (wC _) (List.sublist_append_right _ _))
       have st3:=st2.putObj (o':=.loop {lp with state:=.exhausted}) hx2 g8
       have st4:St C (K0 H0 w0) H' E' (w2.putObj l (.loop {lp with state:=.exhausted})) {c' with tm:=f.tm} a2:=⟨g2,st3.hp,st3.Cm,st3.free,st3.gl,g3⟩
       have hit:CX (AU OT) (akO f s) ((lp.pending.map zQ).toList++aar):=by
        rw[r2];cases s with
        |done q=>exact .code q g4 |ready=>exact g4 |busy=>exact g4
       exact (NJ hC hF hN h1 H' E' _ a2 _ rs' B' ms cs OT _ g1 st4 hit (fun y hy=>by rw[Fj (fun e=>hl1 (by rw[<-e];exact hy))];exact hm' y hy) (p2.put hl2) avY (hx2.put g8)).of ((q1'.trans (.one hleave)).trans (.one hend))
theorem afi(hC:BL P C)(hF:Cb P C){fn FI:Func}{g g2:Nat}{p:List Nat}{k:List It}{c:Core}{stk:List Fw}{x:Operand}{ps:Array Tmp}{ca cb:Code}{caps:List SV}{φ:Sh->Prop}(hfn:C.fns.get g=ay fn)
  (hcode:Bo (AU fn) p=.rangeFunc x ps ca cb) (hx:BP c.tm x=.fn g2 caps) (hfn2:C.fns.get g2=ay FI) (hb:(gY (1+caps.length) FI.ntmps&&FI.body.isSome)=aF)
  (ih:∀l,Gg P C K g2 aN [.code []] {c with tm:=(.val (yv l)::caps)++dU (FI.ntmps - (1+caps.length)) .any} ({g,r:=aN,td:=k,tm:=c.tm,lp:=ay (l,p,.ready)}::stk) φ):Gg P C K g aN (.code p::k) c stk φ:=by
 intro H E w a items rs B ms cs fn' h hfn' st hi hm hs hnd hxt;rw[hfn] at hfn';cases hfn';simp only[aJ] at hb;obtain ⟨body2,JY⟩:=gI.1 hb.2;have hP2:=hC.fn g2 FI hfn2;have Xd:∃k',items=.code (.rangeFunc x ps ca cb)::k'/\CX (AU fn) k k':=by
  cases hi with
  |code p hk=>exact ⟨_,by rw[hcode],hk⟩ |loop p y hl hk=>rw[hcode] at hl;cases hl
 obtain ⟨k',rfl,hk⟩:=Xd;have df:=BJ (H:=H) (E:=E) st.den x;rw[hx] at df;obtain ⟨vs,ef,hvs⟩:=df;have hent:=hF.en g2 (.inr (by rw[hfn2];rfl));let ob:Obj:=.loop {state:=.ready,pending:=aN,fn:=g,tmps:=a.tmps,params:=ps,assign:=ca,body:=cb,defers:=w.heap.size}
 let w2:World:=(w.alloc (.deferred (ay []))).alloc ob
 have he:(Instr.enterLoop g a.tmps ps ca cb aN).run P w=.ok (w.heap.size+1,[{target:=.collected w.heap.size,args:=#[]}]) w2:=run_enterLoop_outer g a.tmps ps ca cb;have hstep:step P (lone (CW (bq g aN (marks rs)) a (.code (.rangeFunc x ps ca cb)::k')) (ms++cs) w) =
   .next (lone (gQ P g2 (#[yv (w.heap.size+1)]++vs) .normal) (CW (bq g aN (marks (w.heap.size::rs))) a (.inRangeFunc (w.heap.size+1)::k')::(ms++cs)) w2):=by
  have h0:=stepR_rangeFunc (P:=P) (b:=bq g aN (marks rs)) (a:=Sr (bq g aN (marks rs)) a) (k:=k') (cs:=ms++cs) (w:=w) (g:=x) (ps:=ps) (assign:=ca) (body:=cb) (l:=w.heap.size+1) (mark:=[{target:=.collected w.heap.size,args:=#[]}])
   (w₁:=w2) (w₁':=w2) (w₂:=w2) (d:={target:=.fn (.func g2) vs,args:=#[yv (w.heap.size+1)]}) (f:=g2) (args:=#[yv (w.heap.size+1)]++vs) he
   (by rw[Qz];simp[resolve,jJ,ef,yv,show ∀v,a.eval (.const v)=v from fun _=>rfl]) (by simp[invoke,Il hent])
  rw[DT,h0];simp[CW,Frame.atR,Sr,bq,marks,st.defers]
 rw[adY hP2 JY] at hstep;have hl:=hvs.length;have st1:=(st.Yc (.deferred (ay []))).Yc ob;have hx1:=(hxt.alloc st (.deferred (ay []))).alloc (st.Yc _) ob;have hsz:(w.alloc (.deferred (ay []))).heap.size=w.heap.size+1:=World.size_alloc ..;rw[hsz] at hx1;have hB:∀y∈rs++B,y<w.heap.size:=fun y hy=>by
  have:∃o,h y=ay o:=by
   rcases bK.1 hy with hy|hy
   ·exact ⟨_,hm y hy⟩
   ·exact hs.has y hy
  obtain ⟨o,ho⟩:=this;exact (Array.getElem?_eq_some_iff.1 (hxt y o ho).1).1
 have hold:∀y,y<w.heap.size->I8 (I8 h w.heap.size (.deferred (ay []))) (w.heap.size+1) ob y=h y:=fun y hy=>by
  rw[Fj (by omega),Fj (by omega)]
 have hs1:F7 C H E (I8 (I8 h w.heap.size (.deferred (ay []))) (w.heap.size+1) ob) stk ms B:=
  (hs.put (fun hm=>by have:=hB _ (iy _ hm);omega)).put (fun hm=>by have:=hB _ (iy _ hm);omega)
 have st2:St C K H E w2 {c with tm:=(.val (yv (w.heap.size+1))::caps)++dU (FI.ntmps - (1+caps.length)) .any} {tmps:=(#[yv (w.heap.size+1)]++vs)++dY (FI.ntmps - (#[yv (w.heap.size+1)]++vs).size) undef,defers:=[]}:=by
  refine ⟨?_,st1.hp,st1.Cm,st1.free,st1.gl,rfl⟩;have:((#[yv (w.heap.size+1)]++vs)++dY (FI.ntmps - (#[yv (w.heap.size+1)]++vs).size) undef).toList=(yv (w.heap.size+1)::vs.toList)++dU (FI.ntmps - (1+caps.length)) undef:=by
   have e:(#[yv (w.heap.size+1)]++vs).size=1+caps.length:=by simp at hl;simp[hl]
   rw[e];simp
  simp only[this];exact AV.append (l:=.val (yv (w.heap.size+1))::caps) (vs:=yv (w.heap.size+1)::vs.toList) ⟨⟨rfl,rfl⟩,hvs⟩ (rY _ _ (by simp))
 have hit2:CX (AU FI) [.code []] [.code body2]:=by
  have:=iE (body:=AU FI) [] qW;have he:Bo (AU FI) []=body2:=by simp[Bo,AU,JY]
  rwa[he] at this
 have hs2:F7 C H E (I8 (I8 h w.heap.size (.deferred (ay []))) (w.heap.size+1) ob) ({g,r:=aN,td:=k,tm:=c.tm,lp:=ay (w.heap.size+1,p,.ready)}::stk) (CW (bq g aN (marks (w.heap.size::rs))) a (.inRangeFunc (w.heap.size+1)::k')::ms) ((w.heap.size::rs)++[w.heap.size+1]++B):=by
  refine ⟨w.heap.size::rs,B,by simp[Rx],⟨fn,a,k',hfn,st.den,st.defers,hk,fun y hy=>?_,?_⟩,hs1⟩
  ·rcases ig.1 hy with rfl|hy
   ·rw[Fj (by omega),NI]
   ·rw[hold y (hB y (kR _ hy))];exact hm y hy
  ·exact ⟨rfl,ob,NI,x,ps,ca,cb,w.heap.size,hcode,rfl⟩
 have Py:(([]:List Nat)++((w.heap.size::rs)++[w.heap.size+1]++B)).Nodup:=by
  have h1:w.heap.size ∉ rs:=fun hm=>by have:=hB _ (kR _ hm);omega
  have h2:w.heap.size ∉ B:=fun hm=>by have:=hB _ (iy _ hm);omega
  have h3:w.heap.size+1 ∉ rs:=fun hm=>by have:=hB _ (kR _ hm);omega
  have h4:w.heap.size+1 ∉ B:=fun hm=>by have:=hB _ (iy _ hm);omega
  obtain ⟨n1,n2,n3⟩:=dW.1 hnd;simp only[List.nil_append,List.cons_append,dV,List.nodup_cons,bK,ig,dW,not_or];refine ⟨⟨h1,by omega,h2⟩,n1,⟨h4,n2⟩,fun a ha b hb=>?_⟩;rcases hb with rfl|hb
  ·intro e;exact h3 (e ▸ ha)
  ·exact n3 a ha b hb
 exact (ih (w.heap.size+1) H E w2 _ _ [] _ (_::ms) cs FI _ hfn2 st2 hit2 (fun _ hy=>by cases hy) hs2 Py hx1).of (.one hstep)
end
structure Pz where
 g:Nat
 r:Option (Nat×Nat)
 td:List It
 c:Core
 stk:List Fw
def qRO:Option (Nat×Nat)->Option (Nat×Nat)->Option (List BQ)
 |none,aN=>ay [] |some (l,d),ay (l',d')=>Dp (fC d d') (ay [.nat l l']) |_,_=>aN
def aoe:OU->OU->Bool
 | .ready,.ready=>aF | .busy,.busy=>aF | .done p,.done q=>p==q |_,_=>aA
def aof:Option (Nat×List Nat×OU)->Option (Nat×List Nat×OU)->Option (List BQ)
 |none,aN=>ay [] |some (l,p,s),ay (l',p',s')=>Dp (p==p'&&aoe s s') (ay [.nat l l']) |_,_=>aN
def Ye(hp:List (Nat×SB))(ρ:List (Nat×Rn)):List Fw->List Fw->Option (List BQ)
 |[],[]=>ay [] |f::s,f'::s'=>Dp (f.g==f'.g&&Jp f.td f'.td) (Fh (qRO f.r f'.r) (Fh (aof f.lp f'.lp) (Fh (qL hp ρ f.tm f'.tm) (Ye hp ρ s s')))) |_,_=>aN
def Yf:List Fw->List Fw->Bool
 |[],[]=>aF |f::s,f'::s'=>f.g==f'.g&&Jp f.td f'.td&&(f.r.isSome==f'.r.isSome)&&(f.lp.isSome==f'.lp.isSome)&&Yf s s' |_,_=>aA
def aog:List Fw->List Fw->List (Nat×Rn)
 |f::s,f'::s'=>NH f.tm f'.tm++aog s s' |_,_=>[]
def Pz.rn(t:Pz)(c:Core)(stk:List Fw):List (Nat×Rn):=infer t.c.hp c.hp 4000 (NH t.c.tm c.tm++aog t.stk stk) []
def Xe(g:Nat)(r:Option (Nat×Nat))(td:List It)(c:Core)(stk:List Fw):Nat->List Pz->Tree Eo
 |_,[]=>.fail |k,t::ts=>bif g==t.g&&Jp td t.td&&Yf stk t.stk then match Fh (qRO r t.r) (Fh (qC (t.rn c stk) c t.c) (Ye c.hp (t.rn c stk) stk t.stk)) with
   |some l=>.leaf (.at_ k l) |none=>Xe g r td c stk (k+1) ts
  else Xe g r td c stk (k+1) ts
def aoh(ts:List Pz):aoa->Tree Eo
 | .fin v c=>match finish c v with
  |some s=>.leaf (.ret s) |none=>.fail
 | .stop g r td c stk=>Xe g r td c stk 0 ts
def ag9(C:Ctx)(pause:Nat->List It->Bool)(m n g:Nat)(r:Option (Nat×Nat))(td:List It)(c:Core)(stk:List Fw)(ts:List Pz):Tree Eo:=(abA C pause m n g r td c stk).bind (aoh ts)
def aoi(P:Program)(C:Ctx)(K:Kx)(ts:List Pz)(φ:Sh->Prop):Eo->Prop
 | .ret s=>φ s | .at_ k l=>dI l/\∃t,ts[k]?=ay t/\Gg P C K t.g t.r t.td t.c t.stk φ
@[irreducible] def TT (ψ:Eo->Prop) (t:Tree Eo):Prop:=t.All ψ
theorem NK(ψ:Eo->Prop)(t:Tree Eo):TT ψ t=t.All ψ:=by unfold TT;rfl
def Lj:Nat->List It->Bool:=fun _ _=>aA
def SC:BT Func->Bool:=BT.allB fun _ fn=>Eu (AU fn)
section
variable{P:Program}{C:Ctx}{K:Kx}{H H' OL H0:Mem}{E E' OM E1:Env}{w w' w'' w0:World}{h:Hp}
theorem aha(hx:SC C.fns=aF):∀g fn,C.fns.get g=ay fn->Eu (AU fn)=aF:=fun _ _ hg=>(BT.TF hx).get hg
theorem akS{r r':Option (Nat×Nat)}{q:List BQ}(hx:qRO r r'=ay q)(ha:dI q):r=r':=by
 unfold qRO at hx;split at hx
 ·rfl
 ·obtain ⟨h1,h2⟩:=Bz hx
  cases h2;have h3:_=_:=ha.1;rw[h3,fH h1]
 ·cases hx
theorem aoj{s t:OU}(hx:aoe s t=aF):s=t:=by
 cases s<;>cases t<;>simp[aoe] at hx<;>simp_all
theorem aok{r r':Option (Nat×List Nat×OU)}{q:List BQ}(hx:aof r r'=ay q)(ha:dI q):r=r':=by
 unfold aof at hx;split at hx
 ·rfl
 ·obtain ⟨h1,h2⟩:=Bz hx
  cases h2;simp only[aJ,beq_iff_eq] at h1;have h3:_=_:=ha.1;rw[h3,h1.1,aoj h1.2]
 ·cases hx
def Xf(hp:List (Nat×SB))(ρ:List (Nat×Rn)):List Fw->List Fw->Prop
 |[],[]=>True |f::s,f'::s'=>f.g=f'.g/\f.td=f'.td/\f.r=f'.r/\f.lp=f'.lp/\leL hp ρ f.tm f'.tm/\Xf hp ρ s s' |_,_=>False
theorem adZ{hp:List (Nat×SB)}{ρ:List (Nat×Rn)}:∀{s s':List Fw} {q:List BQ},Ye hp ρ s s'=ay q->dI q->Xf hp ρ s s'
 |[],[],_,_,_=>trivial |f::s,f'::s',q,hx,ha=>by
  simp only[Ye] at hx;obtain ⟨h1,h2⟩:=Bz hx;obtain ⟨a,b,h3,h4,rfl⟩:=BX h2;obtain ⟨a2,b2,h5,h6,rfl⟩:=BX h4;obtain ⟨a3,b3,h7,h8,rfl⟩:=BX h6;simp only[aJ,beq_iff_eq] at h1;have e1:=eG ha;have e2:=eG e1.2;have e3:=eG e2.2;exact ⟨h1.1,MW h1.2,akS h3 e1.1,aok h5 e2.1,OO _ h7 e3.1,adZ h8 e3.2⟩
 |[],_::_,_,hx,_=>by simp[Ye] at hx |_::_,[],_,hx,_=>by simp[Ye] at hx
theorem F7.weak{hp:List (Nat×SB)}{ρ:List (Nat×Rn)}(hh:AZ K H E w hp):∀{s s':List Fw} {ms:List Frame} {B:List Nat},F7 C H E h s ms B->Xf hp ρ s s'->F7 C H (Gf ρ E) h s' ms B
 |[],[],[],_,x,_=>x |⟨g,r,td,tm,lp⟩::s,⟨g',r',Gw,tm',lp'⟩::s',m::ms,B,⟨rs,B',hB,⟨fn,a,items,h1,h2,h3⟩,h6⟩,⟨e1,e2,e3,e4,e5,e6⟩=>by
  simp only at e1 e2 e3 e4 e5;subst e1 e2 e3 e4;exact ⟨rs,B',hB,⟨fn,a,items,h1,Je hh _ e5 h2,h3⟩,F7.weak hh h6 e6⟩
 |[],[],_::_,_,x,_=>x.elim |_::_,_,[],_,x,_=>x.elim |[],_::_,_,_,_,x=>x.elim |_::_,[],_::_,_,_,x=>x.elim
theorem ahb{hp:List (Nat×SB)}{ρ:List (Nat×Rn)}:∀{s s':List Fw} {g:Nat},Xf hp ρ s s'->Rj g s'=Rj g s
 |[],[],_,_=>rfl |f::s,f'::s',_,⟨e1,_,_,_,_,e4⟩=>by simp only[Rj];rw[e1];exact ahb e4 |[],_::_,_,h=>h.elim |_::_,[],_,h=>h.elim
theorem ahc{g:Nat}{r:Option (Nat×Nat)}{td:List It}{c c':Core}{stk JZ:List Fw}{φ:Sh->Prop}(ρ:List (Nat×Rn))(hle:leC ρ c c')(hs:Xf c.hp ρ stk JZ)(hg:Gg P C K g r td c' JZ φ):Gg P C K g r td c stk φ:=by
 intro H E w a items rs B ms cs fn h hfn st hi hm hst hnd hx;have:=hg H (Gf ρ E) w a items rs B ms cs fn h hfn (st.weak hle) hi hm (hst.weak st.hp hs) hnd (hx.weak st hle);rw[ahb hs] at this;exact this
theorem Vh{φ:Sh->Prop}{ts:List Pz}{g:Nat}{r:Option (Nat×Nat)}{td:List It}{c:Core}{stk:List Fw}:∀{rs:List Pz} {k:Nat},(∀j,rs[j]?=ts[k+j]?)->(Xe g r td c stk k rs).All (aoi P C K ts φ)->Gg P C K g r td c stk φ
 |[],_,_,hx=>hx.elim |t::rs,k,hk,hx=>by
  have hr:∀j,rs[j]?=ts[k+1+j]?:=fun j=>by have:=hk (j+1);simp only[List.getElem?_cons_succ] at this;rw[this];congr 1;omega
  unfold Xe at hx;cases hb:(g==t.g&&Jp td t.td&&Yf stk t.stk)<;>simp only[hb,cond_true,cond_false] at hx
  ·exact Vh hr hx
  ·simp only[aJ,beq_iff_eq] at hb
   obtain ⟨⟨h1,h2⟩,h3⟩:=hb;split at hx
   ·rename_i l hl
    obtain ⟨a0,b0,q0,q00,rfl⟩:=BX hl;obtain ⟨a,b,q1,q2,rfl⟩:=BX q00;obtain ⟨hl,t',ht,hg⟩:=hx;have:=hk 0;simp only[List.getElem?_cons_zero,Nat.add_zero] at this;rw[<-this] at ht;cases ht;have h2:=MW h2;subst h1 h2;have e1:=eG hl;have e2:=eG e1.2;have hrr:=akS q0 e1.1;subst hrr;exact ahc (t.rn c stk) (ajc q1 e2.1) (adZ q2 e2.2) hg
   ·exact Vh hr hx
theorem Ol(hC:BL P C)(hF:Cb P C)(hN:SC C.fns=aF){pause:Nat->List It->Bool}{m n g:Nat}{r:Option (Nat×Nat)}{td:List It}{c:Core}{stk:List Fw}{ts:List Pz}{φ:Sh->Prop}
  (hx:TT (aoi P C (K0 H0 w0) ts φ) (ag9 C pause m n g r td c stk ts)):Gg P C (K0 H0 w0) g r td c stk φ:=by
 rw[NK] at hx;refine NJ hC hF (aha hN) (pause:=pause) (m:=m) (n:=n) ((iH hx).mono fun o ho=>?_);cases o with
 |fin v c=>
  simp only[aoh] at ho;split at ho
  ·rename_i s hs
   exact ⟨s,hs,ho⟩
  ·exact ho.elim
 |stop g r td c stk=>exact Vh (k:=0) (fun j=>by simp) ho
theorem Zo{fn:Func}{g:Nat}{r:Option (Nat×Nat)}{td tb:List It}{c:Core}{stk:List Fw}{φ:Sh->Prop}(hfn:C.fns.get g=ay fn)(hx:aan fn td=ay tb)(hg:Gg P C K g r tb c stk φ):Gg P C K g r td c stk φ:=by
 unfold aan at hx;split at hx
 ·rename_i p k
  cases hb:WU (Bo (AU fn) p)<;>simp only[hb,cond_true,cond_false] at hx
  ·cases hx
  ·cases hx
   unfold WU at hb;split at hb
   ·rename_i x he
    intro H E w a items rs B ms cs fn' h hfn' st hi hm hst hnd hxt;rw[hfn] at hfn';cases hfn';have h0:Bo (AU fn) (0::p)=x:=by simp[Bo,he,child]
    cases hi with
    |code p hk=>
     have:=iE (0::p) (pR p x he hk);rw[h0] at this;rw[he];exact (hg H E w a _ rs B ms cs fn h hfn st this hm hst hnd hxt).of (.one ag3)
    |loop p y hl hk=>
     rw[he] at hl;cases hl;have:=iE (0::p) (pR p x he hk);rw[h0] at this;exact (hg H E w a _ rs B ms cs fn h hfn st this hm hst hnd hxt).of (.one abw)
   ·cases hb
 ·cases hx
theorem arM(hC:BL P C){g:Nat}{fn:Func}{F:List Sh->Tree Sh}(hfn:C.fns.get g=ay fn)(hb:fn.body.isSome=aF)
  (h:∀(H:Mem) (w:World) (BI:List Sh) (args:List Value) (φ:Sh->Prop),D9 H BI args->(F BI).All φ->∃Ew:List Sh,D9 H Ew args/\∃L,Gg P C (K0 H w) g aN [.code []] (AL fn.ntmps Ew L) [] φ):Bh P C.gls g F:=by
 refine KZ hC hfn hb fun H w BI args φ hr hφ=>?_
 obtain ⟨Ew,hr',L,hgo⟩:=h H w BI args φ hr hφ;refine ⟨Ew,hr',L,fun H1 E w1 a items ms cs fn1 avZ st hi hs hx=>?_⟩;cases ms with
 |cons _ _=>exact hs.elim |nil=>
  have:=hgo H1 E w1 a items [] [] [] cs fn1 (fun _=>aN) avZ st hi (fun _ hy=>by cases hy) rfl (by simp) (fun b o e=>by cases e);obtain ⟨a',w',v,s,H',todo,fn0,q1,q2,q3⟩:=this;refine ⟨a',w',v,s,H',todo,fn0,q1,?_,q3⟩;have e:(base g).at a items=CW (bq g (Ul aN) (marks [])) a items:=(Yb g a items).symm;rw[e];exact q2
end
end Go.Sx
