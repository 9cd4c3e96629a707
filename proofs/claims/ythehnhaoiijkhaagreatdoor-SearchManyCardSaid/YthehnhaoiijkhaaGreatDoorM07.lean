/- Own work. -/
import Derived.Test.YthehnhaoiijkhaaGreatDoorM06
open Int (ofNat)
open Array renaming replicate->dX,eq_empty_of_size_eq_zero->nV
open Bool renaming true->aC,false->ak,and_eq_true->aH
open Go.Deferred renaming ofValue->jF
open Go.Frame renaming enter->gI,round->qQ
open Go.Instr renaming endRound->lY
open Go.Item renaming code->zo
open Go.Sx.Af renaming any->rF
open Go.Sx.Bh renaming all->dF,DY->eG
open Go.Sx.BU renaming code->iw,nil->qy,loop->oU
open Go.Sx.Tree renaming DF->iD
open Go.stepG renaming apply->gU
open List renaming replicate->dR,nodup_append->dU,mem_append->bK,mem_append_right->iK,append_nil->eY,append_assoc->dS,mem_cons->gY,mem_append_left->l7
open List.Sublist renaming append->vK,refl->vM
open Nat renaming beq->fB,eq_of_beq_eq_true->fG,ble->gV
open Option renaming some->ay,none->aK,isSome_iff_exists->gy
open Option.some renaming inj->dD
namespace Go.Sx
def yv(l:Nat):Value:=.func (.yield l) #[] #[]
section moves
variable{P:Program}{b c:Frame}{a:Act}{k:List Item}{cs:List Frame}{w w':World}
theorem aaV{l:Nat}(hb:b.roundOf=ay l)(hr:(Instr.beginRound l).run P w=.ok () w'):step P (lone (BR b a (.beginRound::k)) cs w)=.next (lone (BR b a k) cs w'):=by
 rw[Dh,Dh];exact stepR_beginRound hb hr
theorem acG{l:Nat}{v:Value}(hb:b.roundOf=ay l)(hk:b.kind=.normal)(hr:(lY l aK).run P w=.ok v w'):step P (lone (BR b a []) (c::cs) w)=.next (lone (c.finish v) cs w'):=by
 rw[Dh];exact stepR_round_end hb hk hr
theorem acH{l:Nat}{v:Value}(hb:b.roundOf=ay l)(hk:b.kind=.normal)(hr:(lY l (ay .ret)).run P w=.ok v w'):step P (lone (BR b a (.code .ret::k)) (c::cs) w)=.next (lone (c.finish v) cs w'):=by
 rw[Dh];exact stepR_round_ret hb hk hr
theorem aaW{l id:Nat}{v:Value}(hb:b.roundOf=ay l)(hk:b.kind=.normal)(hx:exitTo id k=aK)(hr:(lY l (ay (.exit id))).run P w=.ok v w'):
  step P (lone (BR b a (.code (.exit id)::k)) (c::cs) w)=.next (lone (c.finish v) cs w'):=by
 rw[Dh];exact stepR_round_exit hb hk hx hr
theorem Zn(l:Nat)(v:Value):(BR b a (.inRangeFunc l::k)).finish v=BR b a (.endRangeFunc l::k):=by rw[Dh,finish_atR_inRangeFunc];rfl
theorem aeE{l:Nat}{jump:Option Code}(h:(Instr.endLoop l).run P w=.ok jump w'):step P (lone (BR b a (.endRangeFunc l::k)) cs w)=.next (lone (BR b a ((jump.map zo).toList++k)) cs w'):=by
 rw[Dh,Dh];exact stepR_endRangeFunc h
end moves
inductive anr where
 |fin (v:SV) (c:Core)
 |stop (g:Nat) (r:Option (Nat×Nat)) (td:List It) (c:Core) (stk:List Fw)
inductive EvW where
 |plain|bad|halt
 |next (g:Nat) (r:Option (Nat×Nat)) (td:List It) (c:Core) (stk:List Fw) (q:List Bh)
def Wq:Oi->Oi->Bool
 | .ready,.ready=>aC | .busy,.busy=>aC |_,_=>ak
def setW(g d:Nat)(s0 s1:Oi):List Fw->Option (Nat×List Fw)
 |[]=>aK |f::s=>bif fB s.length d then match f.lp with
   |some (l,p,st)=>bif fB f.g g&&Wq st s0 then ay (l,{f with lp:=ay (l,p,s1)}::s) else aK
   |none=>aK
  else match setW g d s0 s1 s with
   |some (l,s')=>ay (l,f::s') |none=>aK
def yW:List Fw->Option (Nat×Nat×Fw×List Nat)
 |[]=>aK |f::s=>match f.lp with
  |some (l,p,.ready)=>ay (l,s.length,f,p) |_=>yW s
def yieldOf(fn:Func)(td:List It)(c:Core):Option (Nat×List SV):=
 match td with
 | .reg p (i::_)::_=>match AA (Ae fn) p with
  | .region _ ops _=>match opAt ops.toList i with
   |some o=>match Ny ops.toList c.tm o with
    | .yes=>match o.op with
     | .call k=>match k.callee with
      | .value f=>match Bd c.tm f with
       | .val (.func (.yield l) x y)=>bif fB x.size 0&&fB y.size 0 then ay (l,k.args.toList.map (Bd c.tm)) else aK |_=>aK
      |_=>aK
     |_=>aK
    |_=>aK
   |none=>aK
  |_=>aK
 |_=>aK
def P8(C:Ctx)(g l d:Nat)(s1:Oi)(b:Bool)(c:Core)(stk:List Fw):EvW:=
 match setW g d .busy s1 stk with
 |some (l',f::s)=>match f.lp with
  |none=>match Rj C ⟨f.g,f.td,f.tm⟩ (.bool b) c with
   |some x=>.next f.g f.r x.1 x.2 s [.nat l l'] |none=>.bad
  |some _=>.bad
 |_=>.bad
def evW(C:Ctx)(fn:Func)(g:Nat)(r:Option (Nat×Nat))(td:List It)(c:Core)(stk:List Fw):EvW:=
 match td with
 |[]=>match r with
  |none=>.plain |some (l,d)=>P8 C g l d .ready aC c stk
 | .Xp::k=>match r with
  |none=>.bad |some (l,d)=>match setW g d .ready .busy stk with
   |some (l',s)=>.next g r k c s [.nat l l'] |none=>.bad
 | .code p::k=>match AA (Ae fn) p with
  | .rangeFunc _ _ _ _=>.halt | .ret=>match r with
   |none=>.plain |some (l,d)=>P8 C g l d (.done p) ak c stk
  | .exit id=>match r with
   |none=>.plain |some (l,d)=>match FD id k with
    |some _=>.plain |none=>P8 C g l d (.done p) ak c stk
  |_=>.plain
 | .reg _ (_::_)::_=>match yieldOf fn td c with
  |some (l,args)=>match yW stk with
   |some (l',d,f,p)=>match C.fns.get f.g with
    |some Oh=>match AA (Ae Oh) p with
     | .rangeFunc _ ps _ _=>bif fB ps.size args.length then
       .next f.g (ay (l',d)) [.code (0::p),.Xp,.code (1::p)] {c with tm:=(ps.toList.zip args).foldl (fun t x=>t.set x.1 x.2) f.tm} ({g,r,td,tm:=c.tm,lp:=aK}::stk) [.nat l l'] else .bad
     |_=>.bad
    |none=>.bad
   |none=>.bad
  |none=>match PY C fn td c with
   |some x=>.next x.1 aK [.code []] {c with tm:=x.2.2++dR (x.2.1.ntmps - x.2.2.length) .any} ({g,r,td,tm:=c.tm,lp:=aK}::stk) []
   |none=>.plain
 |_=>.plain
def aj3(f:Fw):Oi->List It
 | .done q=>.code q::f.td |_=>f.td
def aj6:Oi->Bool
 | .busy=>aC |_=>ak
def aaX(C:Ctx)(pause:Nat->List It->Bool)(m:Nat):Nat->Nat->Option (Nat×Nat)->List It->Core->List Fw->Tree anr
 |0,g,r,td,c,stk=>.leaf (.stop g r td c stk) |n+1,g,r,td,c,stk=>match C.fns.get g with
  |none=>.fail |some fn=>bif pause g td then .leaf (.stop g r td c stk) else match evW C fn g r td c stk with
   | .bad=>.fail | .halt=>.leaf (.stop g r td c stk) | .next g' r' FU c' Jy q=>Xn q (aaX C pause m n g' r' FU c' Jy) | .plain=>(QW C (LV C (run C m ak)) aC g fn td c).bind fun s=>match s with
    | .go td c=>aaX C pause m n g r td c stk | .halt td c=>.leaf (.stop g r td c stk) | .done v c=>match r with
     |some _=>.fail |none=>match stk with
      |[]=>.leaf (.fin v c) |f::s=>match f.lp with
       |none=>match Rj C ⟨f.g,f.td,f.tm⟩ v c with
        |some x=>aaX C pause m n f.g f.r x.1 x.2 s |none=>.fail
       |some (_,_,st)=>bif aj6 st then .fail else aaX C pause m n f.g f.r (aj3 f st) {c with tm:=f.tm} s
def aqP(P:Program)(C:Ctx)(K:Kx)(φ:Sh->Prop):anr->Prop
 | .fin v c=>∃s,finish c v=ay s/\φ s | .stop g r td c stk=>FB P C K g r td c stk φ
section
variable{P:Program}{C:Ctx}{K:Kx}{H H' Oa H0:Mem}{E E' Oc E1:Env}{w w' w'' w0:World}{h:Hp}
theorem aiA{α:Type}{φ:α->Prop}{l:List Bh}{t:Tree α}(hx:(Xn l t).All φ):dF l/\t.All φ:=by
 unfold Xn at hx;split at hx
 ·exact ⟨trivial,hx⟩
 ·exact hx
theorem agp.loop{fn:Func}{g:Nat}{tmps:Array Value}{p:List Nat}{s:Oi}{o:Obj}(hx:agp fn g tmps p s o):∃lp,o=.loop lp/\lp.state=J4 s/\lp.pending=FK (Ae fn) s/\∀s',agp fn g tmps p s' (.loop {lp with state:=J4 s',pending:=FK (Ae fn) s'}):=by
 obtain ⟨x,ps,ca,cb,df,h1,rfl⟩:=hx;exact ⟨_,rfl,rfl,rfl,fun s'=>⟨x,ps,ca,cb,df,h1,rfl⟩⟩
theorem aiB{s t:Oi}(hx:Wq s t=aC):s=t:=by
 cases s<;>cases t<;>simp[Wq] at hx<;>rfl
theorem aaY{g d:Nat}{s0 s1:Oi}{fn:Func}(hfn:C.fns.get g=ay fn):∀{s s':List Fw} {ms:List Frame} {B:List Nat} {l:Nat},setW g d s0 s1 s=ay (l,s')->Fq C H E h s ms B->B.Nodup->
  ∃lp,h l=ay (.loop lp)/\lp.state=J4 s0/\lp.pending=FK (Ae fn) s0/\l∈B/\Fq C H E (Iy h l (.loop {lp with state:=J4 s1,pending:=FK (Ae fn) s1})) s' ms B
 |[],_,_,_,_,hx,_,_=>by simp[setW] at hx |f::s,s',[],_,_,_,hs,_=>hs.elim |f::s,s',mf::ms,B,l,hx,⟨rs,B',hB,h1,h2⟩,hnd=>by
  subst hB;simp only[setW] at hx;cases hd:fB s.length d<;>simp only[hd,cond_true,cond_false] at hx
  ·split at hx
   ·rename_i l2 s2 hs2
    cases hx;have OO:B'.Nodup:=(dU.1 hnd).2.1;obtain ⟨lp,q1,q2,q3,q4,q5⟩:=aaY hfn hs2 h2 OO;have hno:l ∉ rs++QL f:=fun hm=>(dU.1 hnd).2.2 l hm l q4 rfl;simp only[bK,not_or] at hno;exact ⟨lp,q1,q2,q3,iK _ q4,rs,B',rfl,h1.put hno.1 hno.2,q5⟩
   ·cases hx
  ·split at hx
   ·rename_i l2 p st hl
    cases hb:(fB f.g g&&Wq st s0)<;>simp only[hb,cond_true,cond_false] at hx
    ·cases hx
    ·cases hx
     simp only[aH] at hb;have hg:f.g=g:=fG hb.1;have hst:st=s0:=aiB hb.2;subst hst;obtain ⟨fn',a,items,q1,q2,q3,q4,q5,q6⟩:=h1;rw[hg,hfn] at q1;cases q1;rw[hl] at q6;obtain ⟨q7,o,q8,q9⟩:=q6;obtain ⟨lp,rfl,r1,r2,r3⟩:=q9.loop;have hlB:QL f=[l]:=by simp[QL,hl]
     rw[hlB] at hnd ⊢;have hn1:l ∉ rs:=fun hm=>(dU.1 (dU.1 hnd).1).2.2 l hm l (by simp) rfl;have hn2:l ∉ B':=fun hm=>(dU.1 hnd).2.2 l (by simp) l hm rfl;refine ⟨lp,q8,r1,r2,by simp,rs,B',by simp[QL],⟨fn,a,items,by simpa[hg] using hfn,q2,q3,q4,fun x hx=>by rw[EL (fun e=>hn1 (by rw[<-e];exact hx))];exact q5 x hx,?_⟩,h2.put hn2⟩;exact ⟨q7,_,MV,r3 s1⟩
   ·cases hx
theorem anu:∀{s:List Fw} {ms:List Frame} {B:List Nat} {l d:Nat} {f:Fw} {p:List Nat},yW s=ay (l,d,f,p)->Fq C H E h s ms B->
  ∃(fn:Func) (a:Act) (o:Obj),C.fns.get f.g=ay fn/\Af H E f.tm a.tmps.toList/\h l=ay o/\agp fn f.g a.tmps p .ready o/\l∈B
 |[],_,_,_,_,_,_,hx,_=>by simp[yW] at hx |f0::s,[],_,_,_,_,_,_,hs=>hs.elim |f0::s,mf::ms,B,l,d,f,p,hx,⟨rs,B',hB,h1,h2⟩=>by
  subst hB;simp only[yW] at hx;split at hx
  ·rename_i l2 p2 hl
   cases hx;obtain ⟨fn,a,items,q1,q2,q3,q4,q5,q6⟩:=h1;rw[hl] at q6;obtain ⟨q7,o,q8,q9⟩:=q6;exact ⟨fn,a,o,q1,q2,q8,q9,by simp[QL,hl]⟩
  ·obtain ⟨fn,a,o,q1,q2,q3,q4,q5⟩:=anu hx h2
   exact ⟨fn,a,o,q1,q2,q3,q4,iK _ q5⟩
theorem aaZ:∀{l:List (Nat×SV)} {vl:List (Nat×Value)} {tm:List SV} {ts:Array Value},Af H E tm ts.toList->(∀(i:Nat) x y,l[i]?=ay x->vl[i]?=ay y->x.1=y.1/\Den H E x.2 y.2)->l.length=vl.length->
  Af H E (l.foldl (fun t x=>t.set x.1 x.2) tm) (vl.foldl (fun t x=>t.setIfInBounds x.1 x.2) ts).toList
 |[],[],_,_,hd,_,_=>hd |x::l,y::vl,tm,ts,hd,hx,hlen=>by
  obtain ⟨e1,e2⟩:=hx 0 x y rfl rfl;have hd2:Af H E (tm.set x.1 x.2) (ts.setIfInBounds y.1 y.2).toList:=by
   have:=Ju (c:={tm:=tm,hp:=[],nx:=0,lim:=0,tc:=[]}) (a:={tmps:=ts,defers:=[]}) hd (ay x.1) e2;rw[<-e1];exact this
  simp only[List.foldl_cons];exact aaZ (l:=l) (vl:=vl) hd2 (fun i a b ha hb=>hx (i+1) a b ha hb) (by simpa using hlen)
 |[],_::_,_,_,_,_,hl=>by simp at hl |_::_,[],_,_,_,_,hl=>by simp at hl
end
section
variable{P:Program}{C:Ctx}{K:Kx}{H H' Oa H0:Mem}{E E' Oc E1:Env}{w w' w'' w0:World}{h:Hp}
theorem XH{g d:Nat}{s0 s1:Oi}:∀{s s':List Fw} {l g0:Nat},setW g d s0 s1 s=ay (l,s')->QD g0 s'=QD g0 s
 |[],_,_,_,hx=>by simp[setW] at hx |f::s,s',l,g0,hx=>by
  simp only[setW] at hx;cases hd:fB s.length d<;>simp only[hd,cond_true,cond_false] at hx
  ·split at hx
   ·rename_i hs2
    cases hx;show QD f.g _=QD f.g _;exact XH hs2
   ·cases hx
  ·split at hx
   ·rename_i l2 p st hl
    cases hb:(fB f.g g&&Wq st s0)<;>simp only[hb,cond_true,cond_false] at hx
    ·cases hx
    ·cases hx;rfl
   ·cases hx
theorem aiC{body:Code}{id:Nat}:∀{td:List It} {k:List Item},BU body td k->FD id td=aK->exitTo id k=aK:=by
 intro td k h;induction h with
 |nil=>intro _;rfl |code p _ ih=>intro h;simp only[FD] at h;simpa[exitTo] using ih h |Xp _ ih=>intro h;simp only[FD] at h;simpa[exitTo] using ih h |loop p x _ _ ih=>intro h;simp only[FD] at h;simpa[exitTo] using ih h |reg p l id ops _ _ ih=>intro h;simp only[FD] at h;simpa[exitTo] using ih h |inBlock j h0 ih=>
  intro h;simp only[FD] at h;cases hj:(j==id)<;>simp only[hj,cond_true,cond_false] at h
  ·have:j≠id:=by simpa using hj
   simp only[exitTo];rw[if_neg (by simpa using this)];exact ih h
  ·cases h
theorem aj7{f:Fw}{mf:Frame}{rs:List Nat}{x:List It×Core}{c:Core}{sv:SV}{v:Value}(hf:YS C H E h f mf rs)(hl:f.lp=aK)(hp:Rj C ⟨f.g,f.td,f.tm⟩ sv c=ay x)(hv:Den H E sv v){a:Act}(st:St C K H E w c a):
  ∃(fn:Func) (a':Act) (items:List Item),C.fns.get f.g=ay fn/\St C K H E w x.2 a'/\BU (Ae fn) x.1 items/\mf.finish v=BR (bq f.g (TK f.r) (marks rs)) a' items/\x.2.hp=c.hp:=by
 obtain ⟨fn,a3,ajX,g1,g2,g3,g4,_,g5⟩:=hf;rw[hl] at g5;unfold Rj at hp;rw[g1] at hp;simp only at hp;split at hp
 ·rename_i p i rest k htd
  split at hp
  ·rename_i rid ops dr hcode
   cases hp;rw[htd] at g4;cases g4 with
   |reg p l id ops2 hc hk=>
    rw[hc] at hcode;cases hcode;rename_i k';have g5:mf=_:=g5;subst g5;refine ⟨fn,a3.put ((opAt ops.toList i).bind (·.dst)) v,_,g1,⟨Ju (c:={c with tm:=f.tm}) g2 _ hv,st.hp,st.BI,st.free,st.gl,by rw[put_defers];exact g3⟩,.reg p rest _ ops hc hk,?_,rfl⟩
    rw[Ru];simp[opAt]
  ·cases hp
 ·cases hp
theorem UH{fn:Func}{g l d:Nat}{s1:Oi}{bb:Bool}{c c':Core}{stk Jy:List Fw}{g':Nat}{r':Option (Nat×Nat)}{FU:List It}{q:List Bh}{φ:Sh->Prop}(hfn:C.fns.get g=ay fn)
  (hev:P8 C g l d s1 bb c stk=.next g' r' FU c' Jy q) (hq:dF q) (ih:FB P C K g' r' FU c' Jy φ) (hj:(FK (Ae fn) s1).isNone=bb) (hst:J4 s1=if bb then .ready else .done)
  {a:Act} {items:List Item} {rs B:List Nat} {ms cs:List Frame} (st:St C K H E w c a) (hs:Fq C H E h stk ms B) (hnd:(rs++B).Nodup) (hx:Ib h K H E w c.hp)
  (hstep:∀(c':Frame) cs' v w',(lY l (FK (Ae fn) s1)).run P w=.ok v w'->step P (lone (BR (bq g (ay l) (marks rs)) a items) (c'::cs') w)=.next (lone (c'.finish v) cs' w')) :
  agq P C K (QD g stk) φ (lone (BR (bq g (ay l) (marks rs)) a items) (ms++cs) w) cs:=by
 unfold P8 at hev;split at hev
 ·rename_i l' f s hset
  split at hev
  ·rename_i hlp
   split at hev
   ·rename_i x hpop
    cases hev;obtain ⟨hll,_⟩:=hq;have hll:l=l':=hll;subst hll;obtain ⟨lp,q1,q2,q3,q4,q5⟩:=aaY hfn hset hs (dU.1 hnd).2.1;have ava:=XH (g0:=g) hset;have hw:=(hx l _ q1).1;have hrun:=run_endRound (P:=P) (FK (Ae fn) s1) hw;rw[hj] at hrun;cases ms with
    |nil=>exact q5.elim |cons mf ms=>
     obtain ⟨rs',B',hB,q6,q7⟩:=q5;have e:({lp with state:=if bb then LoopState.ready else LoopState.done,pending:=FK (Ae fn) s1}:Loop)={lp with state:=J4 s1,pending:=FK (Ae fn) s1}:=by rw[hst]
     rw[e] at hrun;have st2:=st.putObj (o':=.loop {lp with state:=J4 s1,pending:=FK (Ae fn) s1}) hx q1
     have hx2:=hx.put (o':=.loop {lp with state:=J4 s1,pending:=FK (Ae fn) s1}) q1
     obtain ⟨Oh,a',items',p1,p2,p3,p4,p5⟩:=aj7 q6 hlp hpop (v:=.bool bb) rfl st2;have hm':∀y∈rs',Iy h l (.loop {lp with state:=J4 s1,pending:=FK (Ae fn) s1}) y=ay (.deferred (ay [])):=by
      obtain ⟨_,_,_,_,_,_,_,z,_⟩:=q6;exact z
     subst hB;have hB2:QL f=[]:=by simp[QL,hlp]
     rw[hB2,eY] at hnd;have OO:(rs'++B').Nodup:=(dU.1 hnd).2.1;have hs1:=hstep mf (ms++cs) _ _ hrun;rw[p4] at hs1;have:=ih H E _ a' items' rs' B' ms cs Oh _ p1 p2 p3 hm' q7 OO (by rw[p5];exact hx2);rw[show QD g stk=QD f.g Jy from ava.symm];exact this.of (.one hs1)
   ·cases hev
  ·cases hev
 ·cases hev
end
section
variable{P:Program}{C:Ctx}{K:Kx}{H H' Oa H0:Mem}{E E' Oc E1:Env}{w w' w'' w0:World}{h:Hp}
theorem adk{g:Nat}{fn:Func}{body:Code}(hP:P.funcs[g]?=ay fn)(hb:fn.body=ay body)(args:Array Value):
  gI P g args .normal=BR (bq g aK []) {tmps:=args++dX (fn.ntmps - args.size) undef,defers:=[]} [.code body]:=by
 rw[XF];exact KG hP hb args
theorem alm(l g:Nat)(tmps:Array Value)(ca cb:Code):qQ l g tmps ca cb .normal=BR (bq g (ay l) []) {tmps,defers:=[]} [.code ca,.beginRound,.code cb]:=by
 simp[qQ,BR,bq]
theorem aa0{b:Frame}{p:List Nat}{i:Nat}{rest:List Nat}{k:List It}{fn:Func}{items:List Item}{c:Core}{a:Act}{rid:Nat}{ops:Array Oper}{dr:Bool}{o:Oper}{kk:Call}(st:St C K H E w c a)(hi:BU (Ae fn) (.reg p (i::rest)::k) items)
  (hcode:AA (Ae fn) p=.region rid ops dr) (ho:opAt ops.toList i=ay o) (hwant:Ny ops.toList c.tm o=.yes) (hop:o.op=.call kk) (cs:List Frame) :
  ∃k',items=.inRegion ops (i::rest)::k'/\BU (Ae fn) k k'/\dr=ak/\stepG P aC {frame:=BR b a (.inRegion ops (i::rest)::k'),callers:=cs,status:=.running,dying:=aK} w=gU P aC (BR b a (.inRegion ops (i::rest)::k')) cs aK (execOp a.eval o) w:=by
 cases hi with
 |reg p l id ops2 hc hk=>
  rw[hc] at hcode;cases hcode;rename_i k';have ho':ops[i]?=ay o:=by simpa[opAt] using ho
  have hw':=GR (ops:=ops) st.den o;rw[hwant] at hw';refine ⟨k',rfl,hk,rfl,?_⟩;have hg:=stepGR_op (P:=P) (b:=b) (a:=Rt b a) (k:=k') (cs:=cs) (w:=w) (rest:=rest) ho' hw';rw[Oper.semAt_eq _ _ _ (fun c hc=>by rw[hop] at hc;cases hc),P7,<-Dh] at hg;exact hg
theorem anv(hC:A8 P C)(hF:Bz P C){fn:Func}{g:Nat}{r:Option (Nat×Nat)}{td:List It}{c:Core}{stk:List Fw}{x:Nat×Func×List SV}{φ:Sh->Prop}(hfn:C.fns.get g=ay fn)(hr:PY C fn td c=ay x)
  (ih:FB P C K x.1 aK [.code []] {c with tm:=x.2.2++dR (x.2.1.ntmps - x.2.2.length) .any} ({g,r,td,tm:=c.tm,lp:=aK}::stk) φ):FB P C K g r td c stk φ:=by
 intro H E w a items rs B ms cs fn' h hfn' st hi hm hs hnd hx;rw[hfn] at hfn';cases hfn';unfold PY at hr;split at hr
 ·rename_i p i rest k
  split at hr
  ·rename_i rid ops dr hcode
   split at hr
   ·rename_i o ho
    split at hr
    ·rename_i hwant
     split at hr
     ·rename_i kk hop
      split at hr
      ·rename_i f V3
       split at hr
       ·rename_i g2 caps hev
        split at hr
        ·cases hr
        ·rename_i hspec
         split at hr
         ·rename_i EW hfn2
          cases hb:(gV (kk.args.toList.map (Bd c.tm)++caps).length EW.ntmps&&EW.body.isSome)<;>simp only[hb,cond_true,cond_false] at hr
          ·cases hr
          cases hr;simp only[aH] at hb;obtain ⟨body2,Jv⟩:=gy.1 hb.2;have hP2:=hC.fn g2 EW hfn2;obtain ⟨k',rfl,hk,rfl,hg⟩:=aa0 (P:=P) (b:=bq g (TK r) (marks rs)) (w:=w) st hi hcode ho hwant hop (ms++cs);have df:=AV (H:=H) (E:=E) st.den f;rw[hev] at df;obtain ⟨vs,ef,hvs⟩:=df;have hargs:=(MQ st.den kk.args.toList).append hvs;have hent:=hF.en g2 (.inr (by rw[hfn2];rfl));have hrun:(execOp a.eval o).run P w=.ok (.enter g2 (kk.args.map a.eval++vs)) w:=by
           simp only[execOp,hop,resolve,V3];simp[jF,ef,invoke,Ht hent]
          have henter:step P (lone (BR (bq g (TK r) (marks rs)) a (.inRegion ops (i::rest)::k')) (ms++cs) w)=.next (lone (gI P g2 (kk.args.map a.eval++vs) .normal) (BR (bq g (TK r) (marks rs)) a (.inRegion ops (i::rest)::k')::(ms++cs)) w):=
           step_lone_go (by rw[hg];simp[gU,hrun,BR])
          rw[adk hP2 Jv] at henter;have hl:=hargs.length;have hlen:(kk.args.map a.eval++vs).size=(kk.args.toList.map (Bd c.tm)++caps).length:=by
           rw[<-hl];simp
          have st2:St C K H E w {c with tm:=(kk.args.toList.map (Bd c.tm)++caps)++dR (EW.ntmps - (kk.args.toList.map (Bd c.tm)++caps).length) .any} {tmps:=(kk.args.map a.eval++vs)++dX (EW.ntmps - (kk.args.map a.eval++vs).size) undef,defers:=[]}:=by
           refine ⟨?_,st.hp,st.BI,st.free,st.gl,rfl⟩;have:((kk.args.map a.eval++vs)++dX (EW.ntmps - (kk.args.map a.eval++vs).size) undef).toList=(kk.args.toList.map a.eval++vs.toList)++dR (EW.ntmps - (kk.args.toList.map (Bd c.tm)++caps).length) undef:=by
            rw[hlen];simp
           simp only[this];exact hargs.append (rF _ _ (by simp))
          have hit2:BU (Ae EW) [.code []] [.code body2]:=by
           have:=iw (body:=Ae EW) [] qy;have he:AA (Ae EW) []=body2:=by simp[AA,Ae,Jv]
           rwa[he] at this
          have hs2:Fq C H E h ({g,r,td:=.reg p (i::rest)::k,tm:=c.tm,lp:=aK}::stk) (BR (bq g (TK r) (marks rs)) a (.inRegion ops (i::rest)::k')::ms) (rs++B):=
           ⟨rs,B,by simp[QL],⟨fn,a,_,hfn,st.den,st.defers,hi,hm,rfl⟩,hs⟩
          exact (ih H E w _ _ [] (rs++B) (_::ms) cs EW h hfn2 st2 hit2 (fun _ hy=>by cases hy) hs2 (by simpa using hnd) hx).of (.one henter)
         ·cases hr
       ·cases hr
      ·cases hr
     ·cases hr
    ·cases hr
   ·cases hr
  ·cases hr
 ·cases hr
theorem aln{fn:Func}{g:Nat}{r:Option (Nat×Nat)}{td:List It}{c:Core}{stk:List Fw}{l l' d:Nat}{args:List SV}{f:Fw}{p:List Nat}{Oh:Func}{x:Operand}{ps:Array Tmp}{ca cb:Code}{φ:Sh->Prop}(hfn:C.fns.get g=ay fn)(hr:yieldOf fn td c=ay (l,args))
  (hy:yW stk=ay (l',d,f,p)) (hff:C.fns.get f.g=ay Oh) (hcf:AA (Ae Oh) p=.rangeFunc x ps ca cb) (hsz:fB ps.size args.length=aC) (hll:l=l')
  (ih:FB P C K f.g (ay (l',d)) [.code (0::p),.Xp,.code (1::p)] {c with tm:=(ps.toList.zip args).foldl (fun t x=>t.set x.1 x.2) f.tm} ({g,r,td,tm:=c.tm,lp:=aK}::stk) φ):FB P C K g r td c stk φ:=by
 intro H E w a items rs B ms cs fn' h hfn' st hi hm hs hnd hx;rw[hfn] at hfn';cases hfn';subst hll;unfold yieldOf at hr;split at hr
 ·rename_i q i rest k
  split at hr
  ·rename_i rid ops dr hcode
   split at hr
   ·rename_i o ho
    split at hr
    ·rename_i hwant
     split at hr
     ·rename_i kk hop
      split at hr
      ·rename_i fo V3
       split at hr
       ·rename_i l2 xa ya hev
        cases hb:(fB xa.size 0&&fB ya.size 0)<;>simp only[hb,cond_true,cond_false] at hr
        ·cases hr
        cases hr;simp only[aH] at hb;obtain rfl:xa=#[]:=nV (fG hb.1);obtain rfl:ya=#[]:=nV (fG hb.2);obtain ⟨k',rfl,hk,rfl,hg⟩:=aa0 (P:=P) (b:=bq g (TK r) (marks rs)) (w:=w) st hi hcode ho hwant hop (ms++cs);have df:=AV (H:=H) (E:=E) st.den fo;rw[hev] at df;have ef:a.eval fo=.func (.yield l) #[] #[]:=by simp[Den] at df;exact df.1
        have hargs:=MQ st.den kk.args.toList;obtain ⟨ayt,af,ob,y1,y2,y3,y4,y5⟩:=anu hy hs;rw[hff] at y1;cases y1;obtain ⟨x',ps',ca',cb',df',e1,rfl⟩:=y4;rw[hcf] at e1;cases e1;have hw:=(hx _ _ y3).1;have hsz2:(kk.args.map a.eval).size=ps.size:=by
         have:=fG hsz;simp at this;simp[this]
        have hrun:(execOp a.eval o).run P w=.ok (.round l f.g ((ps.zip (kk.args.map a.eval)).foldl (fun tmps (t,a)=>tmps.setIfInBounds t a) af.tmps) ca cb) w:=by
         have h1:(execOp a.eval o).run P w=(Instr.yield l (kk.args.map a.eval)).run P w:=by
          simp only[execOp,hop,resolve,V3];simp[jF,ef,invoke]
         rw[h1];exact run_yield hw hsz2
        have aj8:step P (lone (BR (bq g (TK r) (marks rs)) a (.inRegion ops (i::rest)::k')) (ms++cs) w)=.next (lone (qQ l f.g ((ps.zip (kk.args.map a.eval)).foldl (fun tmps (t,a)=>tmps.setIfInBounds t a) af.tmps) ca cb .normal) (BR (bq g (TK r) (marks rs)) a (.inRegion ops (i::rest)::k')::(ms++cs)) w):=
         step_lone_go (by rw[hg];simp[gU,hrun])
        rw[alm] at aj8;have hfold:Af H E ((ps.toList.zip (kk.args.toList.map (Bd c.tm))).foldl (fun t x=>t.set x.1 x.2) f.tm) ((ps.zip (kk.args.map a.eval)).foldl (fun tmps (t,a)=>tmps.setIfInBounds t a) af.tmps).toList:=by
         have e:(ps.zip (kk.args.map a.eval)).foldl (fun tmps (t,a)=>tmps.setIfInBounds t a) af.tmps=(ps.toList.zip (kk.args.toList.map a.eval)).foldl (fun ts x=>ts.setIfInBounds x.1 x.2) af.tmps:=by
          rw[<-Array.foldl_toList];simp[Array.toList_zip]
         rw[e];refine aaZ y2 (fun j u v hu hv=>?_) (by simp);rw[List.getElem?_zip_eq_some] at hu hv;obtain ⟨u1,u2⟩:=hu;obtain ⟨v1,v2⟩:=hv;rw[u1] at v1;refine ⟨dD v1,?_⟩;obtain ⟨vv,w1,w2⟩:=hargs.get u2;rw[w1] at v2;cases v2;exact w2
        have st2:St C K H E w {c with tm:=(ps.toList.zip (kk.args.toList.map (Bd c.tm))).foldl (fun t x=>t.set x.1 x.2) f.tm} {tmps:=(ps.zip (kk.args.map a.eval)).foldl (fun tmps (t,a)=>tmps.setIfInBounds t a) af.tmps,defers:=[]}:=
         ⟨hfold,st.hp,st.BI,st.free,st.gl,rfl⟩
        have hit2:BU (Ae Oh) [.code (0::p),.Xp,.code (1::p)] [.code ca,.beginRound,.code cb]:=by
         have h0:AA (Ae Oh) (0::p)=ca:=by simp[AA,hcf,child]
         have h1:AA (Ae Oh) (1::p)=cb:=by simp[AA,hcf,child]
         have:=iw (body:=Ae Oh) (0::p) (.Xp (.code (1::p) .nil));rw[h0,h1] at this;exact this
        have hs2:Fq C H E h ({g,r,td:=.reg q (i::rest)::k,tm:=c.tm,lp:=aK}::stk) (BR (bq g (TK r) (marks rs)) a (.inRegion ops (i::rest)::k')::ms) (rs++B):=
         ⟨rs,B,by simp[QL],⟨fn,a,_,hfn,st.den,st.defers,hi,hm,rfl⟩,hs⟩
        exact (ih H E w _ _ [] (rs++B) (_::ms) cs Oh h hff st2 hit2 (fun _ hy=>by cases hy) hs2 (by simpa using hnd) hx).of (.one aj8)
       ·cases hr
      ·cases hr
     ·cases hr
    ·cases hr
   ·cases hr
  ·cases hr
 ·cases hr
theorem aqR(hC:A8 P C)(hF:Bz P C){fn:Func}{g g':Nat}{r r':Option (Nat×Nat)}{td FU:List It}{c c':Core}{stk Jy:List Fw}{q:List Bh}{φ:Sh->Prop}(hfn:C.fns.get g=ay fn)
  (hev:evW C fn g r td c stk=.next g' r' FU c' Jy q) (hq:dF q) (ih:FB P C K g' r' FU c' Jy φ):FB P C K g r td c stk φ:=by
 unfold evW at hev;split at hev
 ·split at hev
  ·cases hev
  ·rename_i l d
   intro H E w a items rs B ms cs fn' h hfn' st hi hm hs hnd hx;rw[hfn] at hfn';cases hfn';cases hi;exact UH hfn hev hq ih rfl rfl st hs hnd hx fun c' cs' v w' hrun=>acG rfl rfl hrun
 ·rename_i k
  split at hev
  ·cases hev
  ·rename_i l d
   split at hev
   ·rename_i l' s hset
    cases hev;obtain ⟨hll,_⟩:=hq;have hll:l=l':=hll;subst hll;intro H E w a items rs B ms cs fn' h hfn' st hi hm hs hnd hx;rw[hfn] at hfn';cases hfn';cases hi with
    |Xp hk=>
     rename_i k';obtain ⟨lp,q1,q2,q3,q4,q5⟩:=aaY hfn hset hs (dU.1 hnd).2.1;have hw:=(hx _ _ q1).1;have hrun:=run_beginRound (P:=P) hw q2;have e:({lp with state:=LoopState.busy}:Loop)={lp with state:=J4 .busy,pending:=FK (Ae fn) .busy}:=by
      cases lp;simp only at q3;subst q3;rfl
     rw[e] at hrun;have hs1:=aaV (P:=P) (b:=bq g (ay l) (marks rs)) (a:=a) (k:=k') (cs:=ms++cs) rfl hrun;have hno:l ∉ rs:=fun hmm=>(dU.1 hnd).2.2 l hmm l q4 rfl;have:=ih H E _ a k' rs B ms cs fn _ hfn (st.putObj (o':=.loop {lp with state:=J4 .busy,pending:=FK (Ae fn) .busy}) hx q1) hk (fun y hy=>by
      rw[EL (fun e=>hno (by rw[<-e];exact hy))];exact hm y hy) q5 hnd (hx.put q1)
     rw[XH hset] at this;exact this.of (.one hs1)
   ·cases hev
 ·rename_i p k
  split at hev
  ·cases hev
  ·rename_i hret
   split at hev
   ·cases hev
   ·rename_i l d
    intro H E w a items rs B ms cs fn' h hfn' st hi hm hs hnd hx;rw[hfn] at hfn';cases hfn';have Ws:∃k',items=.code .ret::k':=by
     cases hi with
     |code p hk=>exact ⟨_,by rw[hret]⟩ |loop p y hl hk=>rw[hret] at hl;cases hl
    obtain ⟨k',rfl⟩:=Ws;refine UH hfn hev hq ih rfl rfl st hs hnd hx fun c' cs' v w' hrun=>?_
    simp only[FK,hret] at hrun;exact acH rfl rfl hrun
  ·rename_i id aiD
   split at hev
   ·cases hev
   ·rename_i l d
    split at hev
    ·cases hev
    ·rename_i hno
     intro H E w a items rs B ms cs fn' h hfn' st hi hm hs hnd hx;rw[hfn] at hfn';cases hfn';have Ws:∃k',items=.code (.exit id)::k'/\BU (Ae fn) k k':=by
      cases hi with
      |code p hk=>exact ⟨_,by rw[aiD],hk⟩ |loop p y hl hk=>rw[aiD] at hl;cases hl
     obtain ⟨k',rfl,hk⟩:=Ws;refine UH hfn hev hq ih rfl rfl st hs hnd hx fun c' cs' v w' hrun=>?_
     simp only[FK,aiD] at hrun;exact aaW rfl rfl (aiC hk hno) hrun
  ·cases hev
 ·rename_i p i rest k
  split at hev
  ·rename_i l args hy
   split at hev
   ·rename_i l' d f pf hyw
    split at hev
    ·rename_i Oh hff
     split at hev
     ·rename_i x ps ca cb hcf
      cases hb:fB ps.size args.length<;>simp only[hb,cond_true,cond_false] at hev
      ·cases hev
      ·cases hev
       exact aln hfn hy hyw hff hcf hb hq.1 ih
     ·cases hev
    ·cases hev
   ·cases hev
  ·split at hev
   ·rename_i x hx
    cases hev;exact anv hC hF hfn hx ih
   ·cases hev
 ·cases hev
end
section
variable{P:Program}{C:Ctx}{K:Kx}{H H' Oa H0:Mem}{E E' Oc E1:Env}{w w' w'' w0:World}{h:Hp}
theorem ags{fn:Func}{g:Nat}{r:Option (Nat×Nat)}{td:List It}{c:Core}{stk:List Fw}(hev:evW C fn g r td c stk=.plain):r=aK\/endsB fn td=ak:=by
 cases r with
 |none=>exact .inl rfl |some x=>
  right;obtain ⟨l,d⟩:=x;unfold evW at hev;split at hev
  ·simp only[P8] at hev
   split at hev
   ·split at hev
    ·split at hev<;>cases hev
    ·cases hev
   ·cases hev
  ·rfl
  ·rename_i p k
   unfold endsB;simp only;split at hev
   ·rename_i hc;rw[hc]
   ·simp only[P8] at hev
    split at hev
    ·split at hev
     ·split at hev<;>cases hev
     ·cases hev
    ·cases hev
   ·rename_i hc;rw[hc]
   ·rename_i hne1 hne2 arT
    split
    ·rename_i hc;exact (hne2 hc).elim
    ·rfl
  ·rfl
  ·rename_i hne1 hne2 arT ayu
   unfold endsB;split
   ·exact (hne1 rfl).elim
   ·exact (arT _ _ rfl).elim
   ·rfl
theorem MW(hC:A8 P C)(hF:Bz P C)(hN:∀g fn,C.fns.get g=ay fn->DZ (Ae fn)=aC){pause:Nat->List It->Bool}{m:Nat}{φ:Sh->Prop}:∀{n g:Nat} {r:Option (Nat×Nat)} {td:List It} {c:Core} {stk:List Fw},
  (aaX C pause m n g r td c stk).All (aqP P C (K0 H0 w0) φ)->FB P C (K0 H0 w0) g r td c stk φ
 |0,g,r,td,c,stk,h=>h |n+1,g,r,td,c,stk,h=>by
  intro H E w a items rs B ms cs fn hp hfn st hi hm hs hnd hx;simp only[aaX,hfn] at h;cases hpz:pause g td<;>simp only[hpz,cond_true,cond_false] at h
  rotate_left
  ·exact h H E w a items rs B ms cs fn hp hfn st hi hm hs hnd hx
  split at h
  ·exact h.elim
  ·exact h H E w a items rs B ms cs fn hp hfn st hi hm hs hnd hx
  ·rename_i hev
   obtain ⟨hq,h⟩:=aiA h;exact aqR hC hF hfn hev hq (MW hC hF hN h) H E w a items rs B ms cs fn hp hfn st hi hm hs hnd hx
  ·rename_i hev
   have hK:=S9 (K:=QJ H E w c.hp) hC hF (Tc hC hF m);obtain ⟨sig,h1,h2⟩:=alk hC hF hK (hN g fn hfn) (iD h) st.re hi (bq g (TK r) (marks rs)) (ms++cs) (by
    rcases ags hev with e|e
    ·left;rw[e];rfl
    ·exact .inr e)
   cases sig with
   |go FU c'=>
    obtain ⟨a',w',H',E',items',q1,q2,q3,q4⟩:=h2;exact (MW hC hF hN h1 H' E' w' a' items' rs B ms cs fn hp hfn (st.un q2) q4 hm (hs.le q3.Iw q3.LH) hnd (hx.keep st q2)).of q1
   |halt FU c'=>
    obtain ⟨a',w',H',E',items',q1,q2,q3,q4⟩:=h2;exact (h1 H' E' w' a' items' rs B ms cs fn hp hfn (st.un q2) q4 hm (hs.le q3.Iw q3.LH) hnd (hx.keep st q2)).of q1
   |done sv c'=>
    obtain ⟨a',w',H',E',todo,q1,q2,q3,q5⟩:=h2;cases r with
    |some _=>exact h1.elim |none=>
    have st':=st.un q2;obtain ⟨w2,hp2,c1,st2,hx2,hs2⟩:=collects g todo (ms++cs) st' (hx.keep st q2) hm (hs.le q3.Iw q3.LH) hnd;obtain ⟨v,q4,q6⟩:=q5 _ _ st2;have q1':Steps P (lone (BR (bq g (TK aK) (marks rs)) a items) (ms++cs) w) (lone {(base g).at a' todo with mode:=.returning} (ms++cs) w2):=q1.trans c1
    cases stk with
    |nil=>
     cases ms with
     |cons _ _=>exact hs.elim |nil=>
      obtain ⟨s,e1,e2⟩:=h1;obtain ⟨H2,r2⟩:=PW st2 e1 q4;exact ⟨a',w2,v,s,H2,todo,fn,hfn,q1',st2.defers,e2,r2,q6⟩
    |cons f stk=>
     cases ms with
     |nil=>exact hs.elim |cons mf ms=>
      have hleave:step P (lone {(base g).at a' todo with mode:=.returning} (mf::(ms++cs)) w2)=.next (lone (mf.finish v) (ms++cs) w2):=
       step_leave_returned ⟨rfl,st2.defers,rfl,fn,hC.fn g fn hfn,q6⟩
      obtain ⟨rs',B',hB,p1,p2⟩:=hs2;subst hB;have hm':∀y∈rs',hp2 y=ay (.deferred (ay [])):=by
       obtain ⟨_,_,_,_,_,_,_,z,_⟩:=p1;exact z
      have OO:=(dU.1 hnd).2.1;simp only at h1;split at h1
      ·rename_i hlp
       split at h1
       ·rename_i x hpop
        obtain ⟨Oh,a2,ZK,g1,g2,g3,g4,g5⟩:=aj7 p1 hlp hpop q4 st2;rw[g4] at hleave;have hB2:QL f=[]:=by simp[QL,hlp]
        rw[hB2,eY] at OO;exact (MW hC hF hN h1 H' E' w2 a2 ZK rs' B' ms cs Oh hp2 g1 g2 g3 hm' p2 OO (by rw[g5];exact hx2)).of (q1'.trans (.one hleave))
       ·exact h1.elim
      ·rename_i l p s hlp
       cases hbz:aj6 s<;>simp only[hbz,cond_true,cond_false] at h1
       rotate_left
       ·exact h1.elim
       obtain ⟨Oh,a2,ZK,g1,g2,g3,g4,g5,g6⟩:=p1;rw[hlp] at g6;obtain ⟨g7,o,g8,g9⟩:=g6;obtain ⟨lp,rfl,r1,r2,_⟩:=g9.loop;have hw:=(hx2 _ _ g8).1;have hrun:=run_endLoop (P:=P) hw (by rw[r1];cases s<;>simp[J4] at hbz ⊢;cases hbz)
       subst g7;rw[Zn] at hleave;have hend:=aeE (b:=bq f.g (TK f.r) (marks rs')) (a:=a2) (k:=ZK) (cs:=ms++cs) hrun;have hB2:QL f=[l]:=by simp[QL,hlp]
       rw[hB2] at OO;have hl1:l ∉ rs':=fun hmm=>(dU.1 (dU.1 OO).1).2.2 l hmm l (by simp) rfl;have hl2:l ∉ B':=fun hmm=>(dU.1 OO).2.2 l (by simp) l hmm rfl;have avb:(rs'++B').Nodup:=by
        rw[dS] at OO;exact OO.sublist (vK (vM _) (List.sublist_append_right _ _))
       have st3:=st2.putObj (o':=.loop {lp with state:=.exhausted}) hx2 g8
       have st4:St C (K0 H0 w0) H' E' (w2.putObj l (.loop {lp with state:=.exhausted})) {c' with tm:=f.tm} a2:=⟨g2,st3.hp,st3.BI,st3.free,st3.gl,g3⟩
       have hit:BU (Ae Oh) (aj3 f s) ((lp.pending.map zo).toList++ZK):=by
        rw[r2];cases s with
        |done q=>exact .code q g4 |ready=>exact g4 |busy=>exact g4
       exact (MW hC hF hN h1 H' E' _ a2 _ rs' B' ms cs Oh _ g1 st4 hit (fun y hy=>by rw[EL (fun e=>hl1 (by rw[<-e];exact hy))];exact hm' y hy) (p2.put hl2) avb (hx2.put g8)).of ((q1'.trans (.one hleave)).trans (.one hend))
theorem aeF(hC:A8 P C)(hF:Bz P C){fn EW:Func}{g g2:Nat}{p:List Nat}{k:List It}{c:Core}{stk:List Fw}{x:Operand}{ps:Array Tmp}{ca cb:Code}{caps:List SV}{φ:Sh->Prop}(hfn:C.fns.get g=ay fn)
  (hcode:AA (Ae fn) p=.rangeFunc x ps ca cb) (hx:Bd c.tm x=.fn g2 caps) (hfn2:C.fns.get g2=ay EW) (hb:(gV (1+caps.length) EW.ntmps&&EW.body.isSome)=aC)
  (ih:∀l,FB P C K g2 aK [.code []] {c with tm:=(.val (yv l)::caps)++dR (EW.ntmps - (1+caps.length)) .any} ({g,r:=aK,td:=k,tm:=c.tm,lp:=ay (l,p,.ready)}::stk) φ):FB P C K g aK (.code p::k) c stk φ:=by
 intro H E w a items rs B ms cs fn' h hfn' st hi hm hs hnd hxt;rw[hfn] at hfn';cases hfn';simp only[aH] at hb;obtain ⟨body2,Jv⟩:=gy.1 hb.2;have hP2:=hC.fn g2 EW hfn2;have Ws:∃k',items=.code (.rangeFunc x ps ca cb)::k'/\BU (Ae fn) k k':=by
  cases hi with
  |code p hk=>exact ⟨_,by rw[hcode],hk⟩ |loop p y hl hk=>rw[hcode] at hl;cases hl
 obtain ⟨k',rfl,hk⟩:=Ws;have df:=AV (H:=H) (E:=E) st.den x;rw[hx] at df;obtain ⟨vs,ef,hvs⟩:=df;have hent:=hF.en g2 (.inr (by rw[hfn2];rfl));let ob:Obj:=.loop {state:=.ready,pending:=aK,fn:=g,tmps:=a.tmps,params:=ps,assign:=ca,body:=cb,defers:=w.heap.size}
 let w2:World:=(w.alloc (.deferred (ay []))).alloc ob
 have he:(Instr.enterLoop g a.tmps ps ca cb aK).run P w=.ok (w.heap.size+1,[{target:=.collected w.heap.size,args:=#[]}]) w2:=run_enterLoop_outer g a.tmps ps ca cb;have hstep:step P (lone (BR (bq g aK (marks rs)) a (.code (.rangeFunc x ps ca cb)::k')) (ms++cs) w) =
   .next (lone (gI P g2 (#[yv (w.heap.size+1)]++vs) .normal) (BR (bq g aK (marks (w.heap.size::rs))) a (.inRangeFunc (w.heap.size+1)::k')::(ms++cs)) w2):=by
  have h0:=stepR_rangeFunc (P:=P) (b:=bq g aK (marks rs)) (a:=Rt (bq g aK (marks rs)) a) (k:=k') (cs:=ms++cs) (w:=w) (g:=x) (ps:=ps) (assign:=ca) (body:=cb) (l:=w.heap.size+1) (mark:=[{target:=.collected w.heap.size,args:=#[]}])
   (w₁:=w2) (w₁':=w2) (w₂:=w2) (d:={target:=.fn (.func g2) vs,args:=#[yv (w.heap.size+1)]}) (f:=g2) (args:=#[yv (w.heap.size+1)]++vs) he
   (by rw[P7];simp[resolve,jF,ef,yv,show ∀v,a.eval (.const v)=v from fun _=>rfl]) (by simp[invoke,Ht hent])
  rw[Dh,h0];simp[BR,Frame.atR,Rt,bq,marks,st.defers]
 rw[adk hP2 Jv] at hstep;have hl:=hvs.length;have st1:=(st.XG (.deferred (ay []))).XG ob;have hx1:=(hxt.alloc st (.deferred (ay []))).alloc (st.XG _) ob;have hsz:(w.alloc (.deferred (ay []))).heap.size=w.heap.size+1:=World.size_alloc ..;rw[hsz] at hx1;have hB:∀y∈rs++B,y<w.heap.size:=fun y hy=>by
  have:∃o,h y=ay o:=by
   rcases bK.1 hy with hy|hy
   ·exact ⟨_,hm y hy⟩
   ·exact hs.has y hy
  obtain ⟨o,ho⟩:=this;exact (Array.getElem?_eq_some_iff.1 (hxt y o ho).1).1
 have hold:∀y,y<w.heap.size->Iy (Iy h w.heap.size (.deferred (ay []))) (w.heap.size+1) ob y=h y:=fun y hy=>by
  rw[EL (by omega),EL (by omega)]
 have hs1:Fq C H E (Iy (Iy h w.heap.size (.deferred (ay []))) (w.heap.size+1) ob) stk ms B:=
  (hs.put (fun hm=>by have:=hB _ (iK _ hm);omega)).put (fun hm=>by have:=hB _ (iK _ hm);omega)
 have st2:St C K H E w2 {c with tm:=(.val (yv (w.heap.size+1))::caps)++dR (EW.ntmps - (1+caps.length)) .any} {tmps:=(#[yv (w.heap.size+1)]++vs)++dX (EW.ntmps - (#[yv (w.heap.size+1)]++vs).size) undef,defers:=[]}:=by
  refine ⟨?_,st1.hp,st1.BI,st1.free,st1.gl,rfl⟩;have:((#[yv (w.heap.size+1)]++vs)++dX (EW.ntmps - (#[yv (w.heap.size+1)]++vs).size) undef).toList=(yv (w.heap.size+1)::vs.toList)++dR (EW.ntmps - (1+caps.length)) undef:=by
   have e:(#[yv (w.heap.size+1)]++vs).size=1+caps.length:=by simp at hl;simp[hl]
   rw[e];simp
  simp only[this];exact Af.append (l:=.val (yv (w.heap.size+1))::caps) (vs:=yv (w.heap.size+1)::vs.toList) ⟨⟨rfl,rfl⟩,hvs⟩ (rF _ _ (by simp))
 have hit2:BU (Ae EW) [.code []] [.code body2]:=by
  have:=iw (body:=Ae EW) [] qy;have he:AA (Ae EW) []=body2:=by simp[AA,Ae,Jv]
  rwa[he] at this
 have hs2:Fq C H E (Iy (Iy h w.heap.size (.deferred (ay []))) (w.heap.size+1) ob) ({g,r:=aK,td:=k,tm:=c.tm,lp:=ay (w.heap.size+1,p,.ready)}::stk) (BR (bq g aK (marks (w.heap.size::rs))) a (.inRangeFunc (w.heap.size+1)::k')::ms) ((w.heap.size::rs)++[w.heap.size+1]++B):=by
  refine ⟨w.heap.size::rs,B,by simp[QL],⟨fn,a,k',hfn,st.den,st.defers,hk,fun y hy=>?_,?_⟩,hs1⟩
  ·rcases gY.1 hy with rfl|hy
   ·rw[EL (by omega),MV]
   ·rw[hold y (hB y (l7 _ hy))];exact hm y hy
  ·exact ⟨rfl,ob,MV,x,ps,ca,cb,w.heap.size,hcode,rfl⟩
 have OO:(([]:List Nat)++((w.heap.size::rs)++[w.heap.size+1]++B)).Nodup:=by
  have h1:w.heap.size ∉ rs:=fun hm=>by have:=hB _ (l7 _ hm);omega
  have h2:w.heap.size ∉ B:=fun hm=>by have:=hB _ (iK _ hm);omega
  have h3:w.heap.size+1 ∉ rs:=fun hm=>by have:=hB _ (l7 _ hm);omega
  have h4:w.heap.size+1 ∉ B:=fun hm=>by have:=hB _ (iK _ hm);omega
  obtain ⟨n1,n2,n3⟩:=dU.1 hnd;simp only[List.nil_append,List.cons_append,dS,List.nodup_cons,bK,gY,dU,not_or];refine ⟨⟨h1,by omega,h2⟩,n1,⟨h4,n2⟩,fun a ha b hb=>?_⟩;rcases hb with rfl|hb
  ·intro e;exact h3 (e ▸ ha)
  ·exact n3 a ha b hb
 exact (ih (w.heap.size+1) H E w2 _ _ [] _ (_::ms) cs EW _ hfn2 st2 hit2 (fun _ hy=>by cases hy) hs2 OO hx1).of (.one hstep)
end
structure OQ where
 g:Nat
 r:Option (Nat×Nat)
 td:List It
 c:Core
 stk:List Fw
def qRO:Option (Nat×Nat)->Option (Nat×Nat)->Option (List Bh)
 |none,aK=>ay [] |some (l,d),ay (l',d')=>CO (fB d d') (ay [.nat l l']) |_,_=>aK
def anw:Oi->Oi->Bool
 | .ready,.ready=>aC | .busy,.busy=>aC | .done p,.done q=>p==q |_,_=>ak
def anx:Option (Nat×List Nat×Oi)->Option (Nat×List Nat×Oi)->Option (List Bh)
 |none,aK=>ay [] |some (l,p,s),ay (l',p',s')=>CO (p==p'&&anw s s') (ay [.nat l l']) |_,_=>aK
def XI(hp:List (Nat×SB))(ρ:List (Nat×Rn)):List Fw->List Fw->Option (List Bh)
 |[],[]=>ay [] |f::s,f'::s'=>CO (f.g==f'.g&&IZ f.td f'.td) (EK (qRO f.r f'.r) (EK (anx f.lp f'.lp) (EK (qL hp ρ f.tm f'.tm) (XI hp ρ s s')))) |_,_=>aK
def XJ:List Fw->List Fw->Bool
 |[],[]=>aC |f::s,f'::s'=>f.g==f'.g&&IZ f.td f'.td&&(f.r.isSome==f'.r.isSome)&&(f.lp.isSome==f'.lp.isSome)&&XJ s s' |_,_=>ak
def anz:List Fw->List Fw->List (Nat×Rn)
 |f::s,f'::s'=>MS f.tm f'.tm++anz s s' |_,_=>[]
def OQ.rn(t:OQ)(c:Core)(stk:List Fw):List (Nat×Rn):=infer t.c.hp c.hp 4000 (MS t.c.tm c.tm++anz t.stk stk) []
def Wu(g:Nat)(r:Option (Nat×Nat))(td:List It)(c:Core)(stk:List Fw):Nat->List OQ->Tree D7
 |_,[]=>.fail |k,t::ts=>bif g==t.g&&IZ td t.td&&XJ stk t.stk then match EK (qRO r t.r) (EK (qC (t.rn c stk) c t.c) (XI c.hp (t.rn c stk) stk t.stk)) with
   |some l=>.leaf (.at_ k l) |none=>Wu g r td c stk (k+1) ts
  else Wu g r td c stk (k+1) ts
def anA(ts:List OQ):anr->Tree D7
 | .fin v c=>match finish c v with
  |some s=>.leaf (.ret s) |none=>.fail
 | .stop g r td c stk=>Wu g r td c stk 0 ts
def agt(C:Ctx)(pause:Nat->List It->Bool)(m n g:Nat)(r:Option (Nat×Nat))(td:List It)(c:Core)(stk:List Fw)(ts:List OQ):Tree D7:=(aaX C pause m n g r td c stk).bind (anA ts)
def anB(P:Program)(C:Ctx)(K:Kx)(ts:List OQ)(φ:Sh->Prop):D7->Prop
 | .ret s=>φ s | .at_ k l=>dF l/\∃t,ts[k]?=ay t/\FB P C K t.g t.r t.td t.c t.stk φ
@[irreducible] def Ti (ψ:D7->Prop) (t:Tree D7):Prop:=t.All ψ
theorem MX(ψ:D7->Prop)(t:Tree D7):Ti ψ t=t.All ψ:=by unfold Ti;rfl
def KH:Nat->List It->Bool:=fun _ _=>ak
def Ry:BT Func->Bool:=BT.allB fun _ fn=>DZ (Ae fn)
section
variable{P:Program}{C:Ctx}{K:Kx}{H H' Oa H0:Mem}{E E' Oc E1:Env}{w w' w'' w0:World}{h:Hp}
theorem agu(hx:Ry C.fns=aC):∀g fn,C.fns.get g=ay fn->DZ (Ae fn)=aC:=fun g fn hg=>(BT.SI hx).get hg
theorem aj9{r r':Option (Nat×Nat)}{q:List Bh}(hx:qRO r r'=ay q)(ha:dF q):r=r':=by
 unfold qRO at hx;split at hx
 ·rfl
 ·obtain ⟨h1,h2⟩:=AO hx
  cases h2;have h3:_=_:=ha.1;rw[h3,fG h1]
 ·cases hx
theorem anC{s t:Oi}(hx:anw s t=aC):s=t:=by
 cases s<;>cases t<;>simp[anw] at hx<;>simp_all
theorem anD{r r':Option (Nat×List Nat×Oi)}{q:List Bh}(hx:anx r r'=ay q)(ha:dF q):r=r':=by
 unfold anx at hx;split at hx
 ·rfl
 ·obtain ⟨h1,h2⟩:=AO hx
  cases h2;simp only[aH,beq_iff_eq] at h1;have h3:_=_:=ha.1;rw[h3,h1.1,anC h1.2]
 ·cases hx
def Wv(hp:List (Nat×SB))(ρ:List (Nat×Rn)):List Fw->List Fw->Prop
 |[],[]=>True |f::s,f'::s'=>f.g=f'.g/\f.td=f'.td/\f.r=f'.r/\f.lp=f'.lp/\leL hp ρ f.tm f'.tm/\Wv hp ρ s s' |_,_=>False
theorem adl{hp:List (Nat×SB)}{ρ:List (Nat×Rn)}:∀{s s':List Fw} {q:List Bh},XI hp ρ s s'=ay q->dF q->Wv hp ρ s s'
 |[],[],_,_,_=>trivial |f::s,f'::s',q,hx,ha=>by
  simp only[XI] at hx;obtain ⟨h1,h2⟩:=AO hx;obtain ⟨a,b,h3,h4,rfl⟩:=Bq h2;obtain ⟨a2,b2,h5,h6,rfl⟩:=Bq h4;obtain ⟨a3,b3,h7,h8,rfl⟩:=Bq h6;simp only[aH,beq_iff_eq] at h1;have e1:=eG ha;have e2:=eG e1.2;have e3:=eG e2.2;exact ⟨h1.1,L6 h1.2,aj9 h3 e1.1,anD h5 e2.1,Oe _ h7 e3.1,adl h8 e3.2⟩
 |[],_::_,_,hx,_=>by simp[XI] at hx |_::_,[],_,hx,_=>by simp[XI] at hx
theorem Fq.weak{hp:List (Nat×SB)}{ρ:List (Nat×Rn)}(hh:Ai K H E w hp):∀{s s':List Fw} {ms:List Frame} {B:List Nat},Fq C H E h s ms B->Wv hp ρ s s'->Fq C H (Fz ρ E) h s' ms B
 |[],[],[],_,x,_=>x |⟨g,r,td,tm,lp⟩::s,⟨g',r',FU,tm',lp'⟩::s',m::ms,B,⟨rs,B',hB,⟨fn,a,items,h1,h2,h3⟩,h6⟩,⟨e1,e2,e3,e4,e5,e6⟩=>by
  simp only at e1 e2 e3 e4 e5;subst e1 e2 e3 e4;exact ⟨rs,B',hB,⟨fn,a,items,h1,II hh _ e5 h2,h3⟩,Fq.weak hh h6 e6⟩
 |[],[],_::_,_,x,_=>x.elim |_::_,_,[],_,x,_=>x.elim |[],_::_,_,_,_,x=>x.elim |_::_,[],_::_,_,_,x=>x.elim
theorem agv{hp:List (Nat×SB)}{ρ:List (Nat×Rn)}:∀{s s':List Fw} {g:Nat},Wv hp ρ s s'->QD g s'=QD g s
 |[],[],_,_=>rfl |f::s,f'::s',_,⟨e1,_,_,_,_,e4⟩=>by simp only[QD];rw[e1];exact agv e4 |[],_::_,_,h=>h.elim |_::_,[],_,h=>h.elim
theorem agw{g:Nat}{r:Option (Nat×Nat)}{td:List It}{c c':Core}{stk Jy:List Fw}{φ:Sh->Prop}(ρ:List (Nat×Rn))(hle:leC ρ c c')(hs:Wv c.hp ρ stk Jy)(hg:FB P C K g r td c' Jy φ):FB P C K g r td c stk φ:=by
 intro H E w a items rs B ms cs fn h hfn st hi hm hst hnd hx;have:=hg H (Fz ρ E) w a items rs B ms cs fn h hfn (st.weak hle) hi hm (hst.weak st.hp hs) hnd (hx.weak st hle);rw[agv hs] at this;exact this
theorem UJ{φ:Sh->Prop}{ts:List OQ}{g:Nat}{r:Option (Nat×Nat)}{td:List It}{c:Core}{stk:List Fw}:∀{rs:List OQ} {k:Nat},(∀j,rs[j]?=ts[k+j]?)->(Wu g r td c stk k rs).All (anB P C K ts φ)->FB P C K g r td c stk φ
 |[],_,_,hx=>hx.elim |t::rs,k,hk,hx=>by
  have hr:∀j,rs[j]?=ts[k+1+j]?:=fun j=>by have:=hk (j+1);simp only[List.getElem?_cons_succ] at this;rw[this];congr 1;omega
  unfold Wu at hx;cases hb:(g==t.g&&IZ td t.td&&XJ stk t.stk)<;>simp only[hb,cond_true,cond_false] at hx
  ·exact UJ hr hx
  ·simp only[aH,beq_iff_eq] at hb
   obtain ⟨⟨h1,h2⟩,h3⟩:=hb;split at hx
   ·rename_i l hl
    obtain ⟨a0,b0,q0,q00,rfl⟩:=Bq hl;obtain ⟨a,b,q1,q2,rfl⟩:=Bq q00;obtain ⟨hl,t',ht,hg⟩:=hx;have:=hk 0;simp only[List.getElem?_cons_zero,Nat.add_zero] at this;rw[<-this] at ht;cases ht;have h2:=L6 h2;subst h1 h2;have e1:=eG hl;have e2:=eG e1.2;have hrr:=aj9 q0 e1.1;subst hrr;exact agw (t.rn c stk) (air q1 e2.1) (adl q2 e2.2) hg
   ·exact UJ hr hx
theorem NI(hC:A8 P C)(hF:Bz P C)(hN:Ry C.fns=aC){pause:Nat->List It->Bool}{m n g:Nat}{r:Option (Nat×Nat)}{td:List It}{c:Core}{stk:List Fw}{ts:List OQ}{φ:Sh->Prop}
  (hx:Ti (anB P C (K0 H0 w0) ts φ) (agt C pause m n g r td c stk ts)):FB P C (K0 H0 w0) g r td c stk φ:=by
 rw[MX] at hx;refine MW hC hF (agu hN) (pause:=pause) (m:=m) (n:=n) ((iD hx).mono fun o ho=>?_);cases o with
 |fin v c=>
  simp only[anA] at ho;split at ho
  ·rename_i s hs
   exact ⟨s,hs,ho⟩
  ·exact ho.elim
 |stop g r td c stk=>exact UJ (k:=0) (fun j=>by simp) ho
theorem YT{fn:Func}{g:Nat}{r:Option (Nat×Nat)}{td tb:List It}{c:Core}{stk:List Fw}{φ:Sh->Prop}(hfn:C.fns.get g=ay fn)(hx:ZG fn td=ay tb)(hg:FB P C K g r tb c stk φ):FB P C K g r td c stk φ:=by
 unfold ZG at hx;split at hx
 ·rename_i p k
  cases hb:V6 (AA (Ae fn) p)<;>simp only[hb,cond_true,cond_false] at hx
  ·cases hx
  ·cases hx
   unfold V6 at hb;split at hb
   ·rename_i x he
    intro H E w a items rs B ms cs fn' h hfn' st hi hm hst hnd hxt;rw[hfn] at hfn';cases hfn';have h0:AA (Ae fn) (0::p)=x:=by simp[AA,he,child]
    cases hi with
    |code p hk=>
     have:=iw (0::p) (oU p x he hk);rw[h0] at this;rw[he];exact (hg H E w a _ rs B ms cs fn h hfn st this hm hst hnd hxt).of (.one agl)
    |loop p y hl hk=>
     rw[he] at hl;cases hl;have:=iw (0::p) (oU p x he hk);rw[h0] at this;exact (hg H E w a _ rs B ms cs fn h hfn st this hm hst hnd hxt).of (.one aaT)
   ·cases hb
 ·cases hx
theorem aqT(hC:A8 P C){g:Nat}{fn:Func}{F:List Sh->Tree Sh}(hfn:C.fns.get g=ay fn)(hb:fn.body.isSome=aC)
  (h:∀(H:Mem) (w:World) (AX:List Sh) (args:List Value) (φ:Sh->Prop),Dq H AX args->(F AX).All φ->∃DR:List Sh,Dq H DR args/\∃L,FB P C (K0 H w) g aK [.code []] (zZ fn.ntmps DR L) [] φ):Aq P C.gls g F:=by
 refine KA hC hfn hb fun H w AX args φ hr hφ=>?_
 obtain ⟨DR,hr',L,hgo⟩:=h H w AX args φ hr hφ;refine ⟨DR,hr',L,fun H1 E w1 a items ms cs fn1 avc st hi hs hx=>?_⟩;cases ms with
 |cons _ _=>exact hs.elim |nil=>
  have:=hgo H1 E w1 a items [] [] [] cs fn1 (fun _=>aK) avc st hi (fun _ hy=>by cases hy) rfl (by simp) (fun b o e=>by cases e);obtain ⟨a',w',v,s,H',todo,fn0,q1,q2,q3⟩:=this;refine ⟨a',w',v,s,H',todo,fn0,q1,?_,q3⟩;have e:(base g).at a items=BR (bq g (TK aK) (marks [])) a items:=(XF g a items).symm;rw[e];exact q2
end
end Go.Sx
