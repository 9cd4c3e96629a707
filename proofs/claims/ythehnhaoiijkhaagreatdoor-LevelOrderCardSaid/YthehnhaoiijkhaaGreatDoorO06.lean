/- Own work. -/
import Derived.Test.YthehnhaoiijkhaaGreatDoorO05
open Int (ofNat)
open Array renaming replicate->bw,eq_empty_of_size_eq_zero->fD
open Bool renaming true->aj,false->ag,and_eq_true->al
open Go.Deferred renaming ofValue->cY
open Go.Frame renaming enter->bY,round->kF
open Go.Instr renaming endRound->eD
open Go.Item renaming code->l5
open Go.Sx.mW renaming any->ig
open Go.Sx.oC renaming all->aX,sK->bE
open Go.Sx.pq renaming code->cg,nil->gT,loop->gn
open Go.Sx.Tree renaming vk->bG
open Go.stepG renaming apply->b5
open List renaming replicate->bp,nodup_append->bH,mem_append->aU,mem_append_right->eB,append_nil->bQ
open Nat renaming beq->bA,eq_of_beq_eq_true->bW,ble->cm
open Option renaming some->ae,none->aq,isSome_iff_exists->bJ
open Option.some renaming inj->bd
namespace Go.Sx
def yv(l:Nat):Value:=.func (.yield l) #[] #[]
section moves
variable{P:Program}{b c:Frame}{a:Act}{k:List Item}{cs:List Frame}{w w':World}
theorem VE{l:Nat}(hb:b.roundOf=ae l)(hr:(Instr.beginRound l).run P w=.ok () w'):step P (lone (o9 b a (.beginRound::k)) cs w)=.next (lone (o9 b a k) cs w'):=by
 simp_all [AX,stepR_beginRound]
theorem XE{l:Nat}{v:Value}(hb:b.roundOf=ae l)(hk:b.kind=.normal)(hr:(eD l aq).run P w=.ok v w'):step P (lone (o9 b a []) (c::cs) w)=.next (lone (c.finish v) cs w'):=by
 grind [AX,stepR_round_end]
theorem XF{l:Nat}{v:Value}(hb:b.roundOf=ae l)(hk:b.kind=.normal)(hr:(eD l (ae .ret)).run P w=.ok v w'):step P (lone (o9 b a (.code .ret::k)) (c::cs) w)=.next (lone (c.finish v) cs w'):=by
 grind [AX,stepR_round_ret]
theorem VF{l id:Nat}{v:Value}(hb:b.roundOf=ae l)(hk:b.kind=.normal)(hx:exitTo id k=aq)(hr:(eD l (ae (.exit id))).run P w=.ok v w'):
  step P (lone (o9 b a (.code (.exit id)::k)) (c::cs) w)=.next (lone (c.finish v) cs w'):=by
 grind [AX,stepR_round_exit]
theorem TJ(l:Nat)(v:Value):(o9 b a (.inRangeFunc l::k)).finish v=o9 b a (.endRangeFunc l::k):=by rfl
theorem ZH{l:Nat}{jump:Option Code}(h:(Instr.endLoop l).run P w=.ok jump w'):step P (lone (o9 b a (.endRangeFunc l::k)) cs w)=.next (lone (o9 b a ((jump.map l5).toList++k)) cs w'):=by
 grind [AX,stepR_endRangeFunc]
end moves
inductive ajp where
 |fin (v:SV) (c:Core)
 |stop (g:Nat) (r:Option (Nat×Nat)) (td:List It) (c:Core) (stk:List Fw)
inductive EvW where
 |plain|bad|halt
 |next (g:Nat) (r:Option (Nat×Nat)) (td:List It) (c:Core) (stk:List Fw) (q:List oC)
def O1:FB->FB->Bool
 | .ready,.ready=>aj | .busy,.busy=>aj |_,_=>ag
def setW(g d:Nat)(s0 s1:FB):List Fw->Option (Nat×List Fw)
 |[]=>aq |f::s=>bif bA s.length d then match f.lp with
   |some (l,p,st)=>bif bA f.g g&&O1 st s0 then ae (l,{f with lp:=ae (l,p,s1)}::s) else aq
   |none=>aq
  else match setW g d s0 s1 s with
   |some (l,s')=>ae (l,f::s') |none=>aq
def yW:List Fw->Option (Nat×Nat×Fw×List Nat)
 |[]=>aq |f::s=>match f.lp with
  |some (l,p,.ready)=>ae (l,s.length,f,p) |_=>yW s
def yieldOf(fn:Func)(td:List It)(c:Core):Option (Nat×List SV):=
 match td with
 | .reg p (i::_)::_=>match nP (mX fn) p with
  | .region _ ops _=>match opAt ops.toList i with
   |some o=>match EF ops.toList c.tm o with
    | .yes=>match o.op with
     | .call k=>match k.callee with
      | .value f=>match oz c.tm f with
       | .val (.func (.yield l) x y)=>bif bA x.size 0&&bA y.size 0 then ae (l,k.args.toList.map (oz c.tm)) else aq |_=>aq
      |_=>aq
     |_=>aq
    |_=>aq
   |none=>aq
  |_=>aq
 |_=>aq
def Ht(C:Ctx)(g l d:Nat)(s1:FB)(b:Bool)(c:Core)(stk:List Fw):EvW:=
 match setW g d .busy s1 stk with
 |some (l',f::s)=>match f.lp with
  |none=>match Jk C ⟨f.g,f.td,f.tm⟩ (.bool b) c with
   |some x=>.next f.g f.r x.1 x.2 s [.nat l l'] |none=>.bad
  |some _=>.bad
 |_=>.bad
def evW(C:Ctx)(fn:Func)(g:Nat)(r:Option (Nat×Nat))(td:List It)(c:Core)(stk:List Fw):EvW:=
 match td with
 |[]=>match r with
  |none=>.plain |some (l,d)=>Ht C g l d .ready aj c stk
 | .Qj::k=>match r with
  |none=>.bad |some (l,d)=>match setW g d .ready .busy stk with
   |some (l',s)=>.next g r k c s [.nat l l'] |none=>.bad
 | .code p::k=>match nP (mX fn) p with
  | .rangeFunc _ _ _ _=>.halt | .ret=>match r with
   |none=>.plain |some (l,d)=>Ht C g l d (.done p) ag c stk
  | .exit id=>match r with
   |none=>.plain |some (l,d)=>match yw id k with
    |some _=>.plain |none=>Ht C g l d (.done p) ag c stk
  |_=>.plain
 | .reg _ (_::_)::_=>match yieldOf fn td c with
  |some (l,args)=>match yW stk with
   |some (l',d,f,p)=>match C.fns.get f.g with
    |some Fz=>match nP (mX Fz) p with
     | .rangeFunc _ ps _ _=>bif bA ps.size args.length then
       .next f.g (ae (l',d)) [.code (0::p),.Qj,.code (1::p)] {c with tm:=(ps.toList.zip args).foldl (fun t x=>t.set x.1 x.2) f.tm} ({g,r,td,tm:=c.tm,lp:=aq}::stk) [.nat l l'] else .bad
     |_=>.bad
    |none=>.bad
   |none=>.bad
  |none=>match Hf C fn td c with
   |some x=>.next x.1 aq [.code []] {c with tm:=x.2.2++bp (x.2.1.ntmps - x.2.2.length) .any} ({g,r,td,tm:=c.tm,lp:=aq}::stk) []
   |none=>.plain
 |_=>.plain
def afQ(f:Fw):FB->List It
 | .done q=>.code q::f.td |_=>f.td
def afR:FB->Bool
 | .busy=>aj |_=>ag
def VG(C:Ctx)(pause:Nat->List It->Bool)(m:Nat):Nat->Nat->Option (Nat×Nat)->List It->Core->List Fw->Tree ajp
 |0,g,r,td,c,stk=>.leaf (.stop g r td c stk) |n+1,g,r,td,c,stk=>match C.fns.get g with
  |none=>.fail |some fn=>bif pause g td then .leaf (.stop g r td c stk) else match evW C fn g r td c stk with
   | .bad=>.fail | .halt=>.leaf (.stop g r td c stk) | .next g' r' vS c' zW q=>Qh q (VG C pause m n g' r' vS c' zW) | .plain=>(Ja C (Dt C (run C m ag)) aj g fn td c).bind fun s=>match s with
    | .go td c=>VG C pause m n g r td c stk | .halt td c=>.leaf (.stop g r td c stk) | .done v c=>match r with
     |some _=>.fail |none=>match stk with
      |[]=>.leaf (.fin v c) |f::s=>match f.lp with
       |none=>match Jk C ⟨f.g,f.td,f.tm⟩ v c with
        |some x=>VG C pause m n f.g f.r x.1 x.2 s |none=>.fail
       |some (_,_,st)=>bif afR st then .fail else VG C pause m n f.g f.r (afQ f st) {c with tm:=f.tm} s
def am9(P:Program)(C:Ctx)(K:Kx)(φ:Sh->Prop):ajp->Prop
 | .fin v c=>∃s,finish c v=ae s/\φ s | .stop g r td c stk=>rE P C K g r td c stk φ
section
variable{P:Program}{C:Ctx}{K:Kx}{H H' Fj H0:Mem}{E E' Fp E1:Env}{w w' w'' w0:World}{h:Hp}
theorem aeg{α:Type}{φ:α->Prop}{l:List oC}{t:Tree α}(hx:(Qh l t).All φ):aX l/\t.All φ:=by
 unfold Qh at hx;split at hx
 ·exact ⟨trivial,hx⟩
 ·exact hx
theorem abO.loop{fn:Func}{g:Nat}{tmps:Array Value}{p:List Nat}{s:FB}{o:Obj}(hx:abO fn g tmps p s o):∃lp,o=.loop lp/\lp.state=AY s/\lp.pending=vI (mX fn) s/\∀s',abO fn g tmps p s' (.loop {lp with state:=AY s',pending:=vI (mX fn) s'}):=by
 obtain ⟨x,ps,ca,cb,df,h1,rfl⟩:=hx;exact ⟨_,rfl,rfl,rfl,fun s'=>⟨x,ps,ca,cb,df,h1,rfl⟩⟩
theorem aeh{s t:FB}(hx:O1 s t=aj):s=t:=by
 cases s<;>cases t<;>simp[O1] at hx<;>rfl
theorem VH{g d:Nat}{s0 s1:FB}{fn:Func}(hfn:C.fns.get g=ae fn):∀{s s':List Fw} {ms:List Frame} {B:List Nat} {l:Nat},setW g d s0 s1 s=ae (l,s')->uX C H E h s ms B->B.Nodup->
  ∃lp,h l=ae (.loop lp)/\lp.state=AY s0/\lp.pending=vI (mX fn) s0/\l∈B/\uX C H E (yH h l (.loop {lp with state:=AY s1,pending:=vI (mX fn) s1})) s' ms B
 |[],_,_,_,_,hx,_,_=>by simp[setW] at hx |f::s,s',[],_,_,_,hs,_=>hs.elim |f::s,s',mf::ms,B,l,hx,⟨rs,B',hB,h1,h2⟩,hnd=>by
  subst hB;simp only[setW] at hx;cases hd:bA s.length d<;>simp only[hd,cond_true,cond_false] at hx
  ·split at hx
   ·rename_i l2 s2 hs2
    cases hx;have Jv:B'.Nodup:=(bH.1 hnd).2.1;obtain ⟨lp,q1,q2,q3,q4,q5⟩:=VH hfn hs2 h2 Jv;have hno:l ∉ rs++IW f:=fun hm=>(bH.1 hnd).2.2 l hm l q4 rfl;simp only[aU,not_or] at hno;exact ⟨lp,q1,q2,q3,eB _ q4,rs,B',rfl,h1.put hno.1 hno.2,q5⟩
   ·cases hx
  ·split at hx
   ·rename_i l2 p st hl
    cases hb:(bA f.g g&&O1 st s0)<;>simp only[hb,cond_true,cond_false] at hx
    ·cases hx
    ·cases hx
     simp only[al] at hb;have hg:f.g=g:=bW hb.1;have hst:st=s0:=aeh hb.2;subst hst;obtain ⟨fn',a,items,q1,q2,q3,q4,q5,q6⟩:=h1;rw[hg,hfn] at q1;cases q1;rw[hl] at q6;obtain ⟨q7,o,q8,q9⟩:=q6;obtain ⟨lp,rfl,r1,r2,r3⟩:=q9.loop;have hlB:IW f=[l]:=by simp[IW,hl]
     rw[hlB] at hnd ⊢;have hn1:l ∉ rs:=fun hm=>(bH.1 (bH.1 hnd).1).2.2 l hm l (by simp) rfl;have hn2:l ∉ B':=fun hm=>(bH.1 hnd).2.2 l (by simp) l hm rfl;refine ⟨lp,q8,r1,r2,by simp,rs,B',by simp[IW],⟨fn,a,items,by simp_all,q2,q3,q4,fun x hx=>by grind [uN],?_⟩,h2.put hn2⟩;simp_all [D7]
   ·cases hx
theorem ajr:∀{s:List Fw} {ms:List Frame} {B:List Nat} {l d:Nat} {f:Fw} {p:List Nat},yW s=ae (l,d,f,p)->uX C H E h s ms B->
  ∃(fn:Func) (a:Act) (o:Obj),C.fns.get f.g=ae fn/\mW H E f.tm a.tmps.toList/\h l=ae o/\abO fn f.g a.tmps p .ready o/\l∈B
 |[],_,_,_,_,_,_,hx,_=>by simp[yW] at hx |f0::s,[],_,_,_,_,_,_,hs=>hs.elim |f0::s,mf::ms,B,l,d,f,p,hx,⟨rs,B',hB,h1,h2⟩=>by
  subst hB;simp only[yW] at hx;split at hx
  ·rename_i l2 p2 hl
   cases hx;obtain ⟨fn,a,items,q1,q2,q3,q4,q5,q6⟩:=h1;grind [IW]
  ·obtain ⟨fn,a,o,q1,q2,q3,q4,q5⟩:=ajr hx h2
   grind
theorem VI:∀{l:List (Nat×SV)} {vl:List (Nat×Value)} {tm:List SV} {ts:Array Value},mW H E tm ts.toList->(∀(i:Nat) x y,l[i]?=ae x->vl[i]?=ae y->x.1=y.1/\Den H E x.2 y.2)->l.length=vl.length->
  mW H E (l.foldl (fun t x=>t.set x.1 x.2) tm) (vl.foldl (fun t x=>t.setIfInBounds x.1 x.2) ts).toList
 |[],[],_,_,hd,_,_=>hd |x::l,y::vl,tm,ts,hd,hx,hlen=>by
  obtain ⟨e1,e2⟩:=hx 0 x y rfl rfl;have hd2:mW H E (tm.set x.1 x.2) (ts.setIfInBounds y.1 y.2).toList:=by
   have:=zU (c:={tm:=tm,hp:=[],nx:=0,lim:=0,tc:=[]}) (a:={tmps:=ts,defers:=[]}) hd (ae x.1) e2;rw[<-e1];exact this
  simp only[List.foldl_cons];exact VI (l:=l) (vl:=vl) hd2 (fun i a b ha hb=>hx (i+1) a b ha hb) (by simp_all)
 |[],_::_,_,_,_,_,hl=>by simp at hl |_::_,[],_,_,_,_,hl=>by simp at hl
end
section
variable{P:Program}{C:Ctx}{K:Kx}{H H' Fj H0:Mem}{E E' Fp E1:Env}{w w' w'' w0:World}{h:Hp}
theorem Qz{g d:Nat}{s0 s1:FB}:∀{s s':List Fw} {l g0:Nat},setW g d s0 s1 s=ae (l,s')->IG g0 s'=IG g0 s
 |[],_,_,_,hx=>by simp[setW] at hx |f::s,s',l,g0,hx=>by
  simp only[setW] at hx;cases hd:bA s.length d<;>simp only[hd,cond_true,cond_false] at hx
  ·split at hx
   ·rename_i hs2
    cases hx;show IG f.g _=IG f.g _;exact Qz hs2
   ·cases hx
  ·split at hx
   ·rename_i l2 p st hl
    cases hb:(bA f.g g&&O1 st s0)<;>simp only[hb,cond_true,cond_false] at hx
    ·cases hx
    ·cases hx;rfl
   ·cases hx
theorem aei{body:Code}{id:Nat}:∀{td:List It} {k:List Item},pq body td k->yw id td=aq->exitTo id k=aq:=by
 intro td k h;induction h with
 |nil=>intro _;rfl |code p _ ih=>intro h;simp only[yw] at h;simpa[exitTo] using ih h |Qj _ ih=>intro h;simp only[yw] at h;simpa[exitTo] using ih h |loop p x _ _ ih=>intro h;simp only[yw] at h;simpa[exitTo] using ih h |reg p l id ops _ _ ih=>intro h;simp only[yw] at h;simpa[exitTo] using ih h |inBlock j h0 ih=>
  intro h;simp only[yw] at h;cases hj:(j==id)<;>simp only[hj,cond_true,cond_false] at h
  ·have:j≠id:=by simpa using hj
   simp only[exitTo];rw[if_neg (by simpa using this)];exact ih h
  ·cases h
theorem afS{f:Fw}{mf:Frame}{rs:List Nat}{x:List It×Core}{c:Core}{sv:SV}{v:Value}(hf:SI C H E h f mf rs)(hl:f.lp=aq)(hp:Jk C ⟨f.g,f.td,f.tm⟩ sv c=ae x)(hv:Den H E sv v){a:Act}(st:St C K H E w c a):
  ∃(fn:Func) (a':Act) (items:List Item),C.fns.get f.g=ae fn/\St C K H E w x.2 a'/\pq (mX fn) x.1 items/\mf.finish v=o9 (bq f.g (Ju f.r) (marks rs)) a' items/\x.2.hp=c.hp:=by
 obtain ⟨fn,a3,afK,g1,g2,g3,g4,_,g5⟩:=hf;rw[hl] at g5;unfold Jk at hp;rw[g1] at hp;simp only at hp;split at hp
 ·rename_i p i rest k htd
  split at hp
  ·rename_i rid ops dr hcode
   cases hp;rw[htd] at g4;cases g4 with
   |reg p l id ops2 hc hk=>
    rw[hc] at hcode;cases hcode;rename_i k';have g5:mf=_:=g5;subst g5;refine ⟨fn,a3.put ((opAt ops.toList i).bind (·.dst)) v,_,g1,⟨zU (c:={c with tm:=f.tm}) g2 _ hv,st.hp,st.oQ,st.free,st.gl,by rw[put_defers];exact g3⟩,.reg p rest _ ops hc hk,?_,rfl⟩
    rw[Jr];simp[opAt]
  ·cases hp
 ·cases hp
theorem MQ{fn:Func}{g l d:Nat}{s1:FB}{bb:Bool}{c c':Core}{stk zW:List Fw}{g':Nat}{r':Option (Nat×Nat)}{vS:List It}{q:List oC}{φ:Sh->Prop}(hfn:C.fns.get g=ae fn)
  (hev:Ht C g l d s1 bb c stk=.next g' r' vS c' zW q) (hq:aX q) (ih:rE P C K g' r' vS c' zW φ) (hj:(vI (mX fn) s1).isNone=bb) (hst:AY s1=if bb then .ready else .done)
  {a:Act} {items:List Item} {rs B:List Nat} {ms cs:List Frame} (st:St C K H E w c a) (hs:uX C H E h stk ms B) (hnd:(rs++B).Nodup) (hx:x9 h K H E w c.hp)
  (hstep:∀(c':Frame) cs' v w',(eD l (vI (mX fn) s1)).run P w=.ok v w'->step P (lone (o9 (bq g (ae l) (marks rs)) a items) (c'::cs') w)=.next (lone (c'.finish v) cs' w')) :
  abP P C K (IG g stk) φ (lone (o9 (bq g (ae l) (marks rs)) a items) (ms++cs) w) cs:=by
 unfold Ht at hev;split at hev
 ·rename_i l' f s hset
  split at hev
  ·rename_i hlp
   split at hev
   ·rename_i x hpop
    cases hev;obtain ⟨hll,_⟩:=hq;have hll:l=l':=hll;subst hll;obtain ⟨lp,q1,q2,q3,q4,q5⟩:=VH hfn hset hs (bH.1 hnd).2.1;have arw:=Qz (g0:=g) hset;have hw:=(hx l _ q1).1;have hrun:=run_endRound (P:=P) (vI (mX fn) s1) hw;rw[hj] at hrun;cases ms with
    |nil=>exact q5.elim |cons mf ms=>
     obtain ⟨rs',B',hB,q6,q7⟩:=q5;have e:({lp with state:=if bb then LoopState.ready else LoopState.done,pending:=vI (mX fn) s1}:Loop)={lp with state:=AY s1,pending:=vI (mX fn) s1}:=by rw[hst]
     rw[e] at hrun;have st2:=st.putObj (o':=.loop {lp with state:=AY s1,pending:=vI (mX fn) s1}) hx q1
     have hx2:=hx.put (o':=.loop {lp with state:=AY s1,pending:=vI (mX fn) s1}) q1
     obtain ⟨Fz,a',items',p1,p2,p3,p4,p5⟩:=afS q6 hlp hpop (v:=.bool bb) rfl st2;have hm':∀y∈rs',yH h l (.loop {lp with state:=AY s1,pending:=vI (mX fn) s1}) y=ae (.deferred (ae [])):=by
      obtain ⟨_,_,_,_,_,_,_,z,_⟩:=q6;exact z
     subst hB;have hB2:IW f=[]:=by simp[IW,hlp]
     rw[hB2,bQ] at hnd;have Jv:(rs'++B').Nodup:=(bH.1 hnd).2.1;have hs1:=hstep mf (ms++cs) _ _ hrun;rw[p4] at hs1;have:=ih H E _ a' items' rs' B' ms cs Fz _ p1 p2 p3 hm' q7 Jv (by rw[p5];exact hx2);rw[show IG g stk=IG f.g zW from arw.symm];exact this.of (.one hs1)
   ·cases hev
  ·cases hev
 ·cases hev
end
section
variable{P:Program}{C:Ctx}{K:Kx}{H H' Fj H0:Mem}{E E' Fp E1:Env}{w w' w'' w0:World}{h:Hp}
theorem Yl{g:Nat}{fn:Func}{body:Code}(hP:P.funcs[g]?=ae fn)(hb:fn.body=ae body)(args:Array Value):
  bY P g args .normal=o9 (bq g aq []) {tmps:=args++bw (fn.ntmps - args.size) undef,defers:=[]} [.code body]:=by
 simp_all [KC,BJ]
theorem ahg(l g:Nat)(tmps:Array Value)(ca cb:Code):kF l g tmps ca cb .normal=o9 (bq g (ae l) []) {tmps,defers:=[]} [.code ca,.beginRound,.code cb]:=by
 rfl
theorem VJ{b:Frame}{p:List Nat}{i:Nat}{rest:List Nat}{k:List It}{fn:Func}{items:List Item}{c:Core}{a:Act}{rid:Nat}{ops:Array Oper}{dr:Bool}{o:Oper}{kk:Call}(st:St C K H E w c a)(hi:pq (mX fn) (.reg p (i::rest)::k) items)
  (hcode:nP (mX fn) p=.region rid ops dr) (ho:opAt ops.toList i=ae o) (hwant:EF ops.toList c.tm o=.yes) (hop:o.op=.call kk) (cs:List Frame) :
  ∃k',items=.inRegion ops (i::rest)::k'/\pq (mX fn) k k'/\dr=ag/\stepG P aj {frame:=o9 b a (.inRegion ops (i::rest)::k'),callers:=cs,status:=.running,dying:=aq} w=b5 P aj (o9 b a (.inRegion ops (i::rest)::k')) cs aq (execOp a.eval o) w:=by
 cases hi with
 |reg p l id ops2 hc hk=>
  rw[hc] at hcode;cases hcode;rename_i k';have ho':ops[i]?=ae o:=by grind [opAt]
  have hw':=wX (ops:=ops) st.den o;rw[hwant] at hw';refine ⟨k',rfl,hk,rfl,?_⟩;have hg:=stepGR_op (P:=P) (b:=b) (a:=Jq b a) (k:=k') (cs:=cs) (w:=w) (rest:=rest) ho' hw';simp_all [Oper.semAt_eq,Hr,AX]
theorem ajs(hC:oh P C)(hF:oH P C){fn:Func}{g:Nat}{r:Option (Nat×Nat)}{td:List It}{c:Core}{stk:List Fw}{x:Nat×Func×List SV}{φ:Sh->Prop}(hfn:C.fns.get g=ae fn)(hr:Hf C fn td c=ae x)
  (ih:rE P C K x.1 aq [.code []] {c with tm:=x.2.2++bp (x.2.1.ntmps - x.2.2.length) .any} ({g,r,td,tm:=c.tm,lp:=aq}::stk) φ):rE P C K g r td c stk φ:=by
 intro H E w a items rs B ms cs fn' h hfn' st hi hm hs hnd hx;rw[hfn] at hfn';cases hfn';unfold Hf at hr;split at hr
 ·rename_i p i rest k
  split at hr
  ·rename_i rid ops dr hcode
   split at hr
   ·rename_i o ho
    split at hr
    ·rename_i hwant
     split at hr
     ·rename_i kk hop
      split at hr
      ·rename_i f afJ
       split at hr
       ·rename_i g2 caps hev
        split at hr
        ·cases hr
        ·rename_i hspec
         split at hr
         ·rename_i uO hfn2
          cases hb:(cm (kk.args.toList.map (oz c.tm)++caps).length uO.ntmps&&uO.body.isSome)<;>simp only[hb,cond_true,cond_false] at hr
          ·cases hr
          cases hr;simp only[al] at hb;obtain ⟨body2,Hg⟩:=bJ.1 hb.2;have hP2:=hC.fn g2 uO hfn2;obtain ⟨k',rfl,hk,rfl,hg⟩:=VJ (P:=P) (b:=bq g (Ju r) (marks rs)) (w:=w) st hi hcode ho hwant hop (ms++cs);have df:=nU (H:=H) (E:=E) st.den f;rw[hev] at df;obtain ⟨vs,ef,hvs⟩:=df;have hargs:=(DZ st.den kk.args.toList).append hvs;have hent:=hF.en g2 (.inr (by grind));have hrun:(execOp a.eval o).run P w=.ok (.enter g2 (kk.args.map a.eval++vs)) w:=by
           simp_all [execOp,resolve,cY,invoke,xG]
          have henter:step P (lone (o9 (bq g (Ju r) (marks rs)) a (.inRegion ops (i::rest)::k')) (ms++cs) w)=.next (lone (bY P g2 (kk.args.map a.eval++vs) .normal) (o9 (bq g (Ju r) (marks rs)) a (.inRegion ops (i::rest)::k')::(ms++cs)) w):=
           step_lone_go (by simp_all [b5,o9])
          rw[Yl hP2 Hg] at henter;have hl:=hargs.length;have hlen:(kk.args.map a.eval++vs).size=(kk.args.toList.map (oz c.tm)++caps).length:=by
           simp_all
          have st2:St C K H E w {c with tm:=(kk.args.toList.map (oz c.tm)++caps)++bp (uO.ntmps - (kk.args.toList.map (oz c.tm)++caps).length) .any} {tmps:=(kk.args.map a.eval++vs)++bw (uO.ntmps - (kk.args.map a.eval++vs).size) undef,defers:=[]}:=by
           refine ⟨?_,st.hp,st.oQ,st.free,st.gl,rfl⟩;have:((kk.args.map a.eval++vs)++bw (uO.ntmps - (kk.args.map a.eval++vs).size) undef).toList=(kk.args.toList.map a.eval++vs.toList)++bp (uO.ntmps - (kk.args.toList.map (oz c.tm)++caps).length) undef:=by
            rw[hlen];simp
           simp only[this];exact hargs.append (ig _ _ (by simp))
          have hit2:pq (mX uO) [.code []] [.code body2]:=by
           have:=cg (body:=mX uO) [] gT;simp_all [nP,mX]
          have hs2:uX C H E h ({g,r,td:=.reg p (i::rest)::k,tm:=c.tm,lp:=aq}::stk) (o9 (bq g (Ju r) (marks rs)) a (.inRegion ops (i::rest)::k')::ms) (rs++B):=
           ⟨rs,B,by simp[IW],⟨fn,a,_,hfn,st.den,st.defers,hi,hm,rfl⟩,hs⟩
          exact (ih H E w _ _ [] (rs++B) (_::ms) cs uO h hfn2 st2 hit2 (fun _ hy=>by cases hy) hs2 (by grind) hx).of (.one henter)
         ·cases hr
       ·cases hr
      ·cases hr
     ·cases hr
    ·cases hr
   ·cases hr
  ·cases hr
 ·cases hr
theorem ahh{fn:Func}{g:Nat}{r:Option (Nat×Nat)}{td:List It}{c:Core}{stk:List Fw}{l l' d:Nat}{args:List SV}{f:Fw}{p:List Nat}{Fz:Func}{x:Operand}{ps:Array Tmp}{ca cb:Code}{φ:Sh->Prop}(hfn:C.fns.get g=ae fn)(hr:yieldOf fn td c=ae (l,args))
  (hy:yW stk=ae (l',d,f,p)) (hff:C.fns.get f.g=ae Fz) (hcf:nP (mX Fz) p=.rangeFunc x ps ca cb) (hsz:bA ps.size args.length=aj) (hll:l=l')
  (ih:rE P C K f.g (ae (l',d)) [.code (0::p),.Qj,.code (1::p)] {c with tm:=(ps.toList.zip args).foldl (fun t x=>t.set x.1 x.2) f.tm} ({g,r,td,tm:=c.tm,lp:=aq}::stk) φ):rE P C K g r td c stk φ:=by
 intro H E w a items rs B ms cs fn' h hfn' st hi hm hs hnd hx;rw[hfn] at hfn';cases hfn';subst hll;unfold yieldOf at hr;split at hr
 ·rename_i q i rest k
  split at hr
  ·rename_i rid ops dr hcode
   split at hr
   ·rename_i o ho
    split at hr
    ·rename_i hwant
     split at hr
     ·rename_i kk hop
      split at hr
      ·rename_i fo afJ
       split at hr
       ·rename_i l2 xa ya hev
        cases hb:(bA xa.size 0&&bA ya.size 0)<;>simp only[hb,cond_true,cond_false] at hr
        ·cases hr
        cases hr;simp only[al] at hb;obtain rfl:xa=#[]:=fD (bW hb.1);obtain rfl:ya=#[]:=fD (bW hb.2);obtain ⟨k',rfl,hk,rfl,hg⟩:=VJ (P:=P) (b:=bq g (Ju r) (marks rs)) (w:=w) st hi hcode ho hwant hop (ms++cs);have df:=nU (H:=H) (E:=E) st.den fo;rw[hev] at df;have ef:a.eval fo=.func (.yield l) #[] #[]:=by simp_all [Den]
        have hargs:=DZ st.den kk.args.toList;obtain ⟨avH,af,ob,y1,y2,y3,y4,y5⟩:=ajr hy hs;rw[hff] at y1;cases y1;obtain ⟨x',ps',ca',cb',df',e1,rfl⟩:=y4;rw[hcf] at e1;cases e1;have hw:=(hx _ _ y3).1;have hsz2:(kk.args.map a.eval).size=ps.size:=by
         simp_all
        have hrun:(execOp a.eval o).run P w=.ok (.round l f.g ((ps.zip (kk.args.map a.eval)).foldl (fun tmps (t,a)=>tmps.setIfInBounds t a) af.tmps) ca cb) w:=by
         have h1:(execOp a.eval o).run P w=(Instr.yield l (kk.args.map a.eval)).run P w:=by
          simp_all [execOp,resolve,cY,invoke]
         simp_all [run_yield]
        have afT:step P (lone (o9 (bq g (Ju r) (marks rs)) a (.inRegion ops (i::rest)::k')) (ms++cs) w)=.next (lone (kF l f.g ((ps.zip (kk.args.map a.eval)).foldl (fun tmps (t,a)=>tmps.setIfInBounds t a) af.tmps) ca cb .normal) (o9 (bq g (Ju r) (marks rs)) a (.inRegion ops (i::rest)::k')::(ms++cs)) w):=
         step_lone_go (by simp_all [b5])
        rw[ahg] at afT;have hfold:mW H E ((ps.toList.zip (kk.args.toList.map (oz c.tm))).foldl (fun t x=>t.set x.1 x.2) f.tm) ((ps.zip (kk.args.map a.eval)).foldl (fun tmps (t,a)=>tmps.setIfInBounds t a) af.tmps).toList:=by
         have e:(ps.zip (kk.args.map a.eval)).foldl (fun tmps (t,a)=>tmps.setIfInBounds t a) af.tmps=(ps.toList.zip (kk.args.toList.map a.eval)).foldl (fun ts x=>ts.setIfInBounds x.1 x.2) af.tmps:=by
          rw[<-Array.foldl_toList];simp
         rw[e];refine VI y2 (fun j u v hu hv=>?_) (by simp);rw[List.getElem?_zip_eq_some] at hu hv;obtain ⟨u1,u2⟩:=hu;obtain ⟨v1,v2⟩:=hv;rw[u1] at v1;refine ⟨bd v1,?_⟩;obtain ⟨vv,w1,w2⟩:=hargs.get u2;simp_all
        have st2:St C K H E w {c with tm:=(ps.toList.zip (kk.args.toList.map (oz c.tm))).foldl (fun t x=>t.set x.1 x.2) f.tm} {tmps:=(ps.zip (kk.args.map a.eval)).foldl (fun tmps (t,a)=>tmps.setIfInBounds t a) af.tmps,defers:=[]}:=
         ⟨hfold,st.hp,st.oQ,st.free,st.gl,rfl⟩
        have hit2:pq (mX Fz) [.code (0::p),.Qj,.code (1::p)] [.code ca,.beginRound,.code cb]:=by
         have h0:nP (mX Fz) (0::p)=ca:=by simp[nP,hcf,child]
         have h1:nP (mX Fz) (1::p)=cb:=by simp[nP,hcf,child]
         have:=cg (body:=mX Fz) (0::p) (.Qj (.code (1::p) .nil));simp_all
        have hs2:uX C H E h ({g,r,td:=.reg q (i::rest)::k,tm:=c.tm,lp:=aq}::stk) (o9 (bq g (Ju r) (marks rs)) a (.inRegion ops (i::rest)::k')::ms) (rs++B):=
         ⟨rs,B,by simp[IW],⟨fn,a,_,hfn,st.den,st.defers,hi,hm,rfl⟩,hs⟩
        exact (ih H E w _ _ [] (rs++B) (_::ms) cs Fz h hff st2 hit2 (fun _ hy=>by cases hy) hs2 (by grind) hx).of (.one afT)
       ·cases hr
      ·cases hr
     ·cases hr
    ·cases hr
   ·cases hr
  ·cases hr
 ·cases hr
theorem anb(hC:oh P C)(hF:oH P C){fn:Func}{g g':Nat}{r r':Option (Nat×Nat)}{td vS:List It}{c c':Core}{stk zW:List Fw}{q:List oC}{φ:Sh->Prop}(hfn:C.fns.get g=ae fn)
  (hev:evW C fn g r td c stk=.next g' r' vS c' zW q) (hq:aX q) (ih:rE P C K g' r' vS c' zW φ):rE P C K g r td c stk φ:=by
 unfold evW at hev;split at hev
 ·split at hev
  ·cases hev
  ·rename_i l d
   intro H E w a items rs B ms cs fn' h hfn' st hi hm hs hnd hx;rw[hfn] at hfn';cases hfn';cases hi;exact MQ hfn hev hq ih rfl rfl st hs hnd hx fun c' cs' v w' hrun=>XE rfl rfl hrun
 ·rename_i k
  split at hev
  ·cases hev
  ·rename_i l d
   split at hev
   ·rename_i l' s hset
    cases hev;obtain ⟨hll,_⟩:=hq;have hll:l=l':=hll;subst hll;intro H E w a items rs B ms cs fn' h hfn' st hi hm hs hnd hx;rw[hfn] at hfn';cases hfn';cases hi with
    |Qj hk=>
     rename_i k';obtain ⟨lp,q1,q2,q3,q4,q5⟩:=VH hfn hset hs (bH.1 hnd).2.1;have hw:=(hx _ _ q1).1;have hrun:=run_beginRound (P:=P) hw q2;have e:({lp with state:=LoopState.busy}:Loop)={lp with state:=AY .busy,pending:=vI (mX fn) .busy}:=by
      cases lp;simp only at q3;subst q3;rfl
     rw[e] at hrun;have hs1:=VE (P:=P) (b:=bq g (ae l) (marks rs)) (a:=a) (k:=k') (cs:=ms++cs) rfl hrun;have hno:l ∉ rs:=fun hmm=>(bH.1 hnd).2.2 l hmm l q4 rfl;have:=ih H E _ a k' rs B ms cs fn _ hfn (st.putObj (o':=.loop {lp with state:=AY .busy,pending:=vI (mX fn) .busy}) hx q1) hk (fun y hy=>by
      grind [uN]) q5 hnd (hx.put q1)
     rw[Qz hset] at this;exact this.of (.one hs1)
   ·cases hev
 ·rename_i p k
  split at hev
  ·cases hev
  ·rename_i hret
   split at hev
   ·cases hev
   ·rename_i l d
    intro H E w a items rs B ms cs fn' h hfn' st hi hm hs hnd hx;rw[hfn] at hfn';cases hfn';have O4:∃k',items=.code .ret::k':=by
     cases hi with
     |code p hk=>simp_all |loop p y hl hk=>simp_all
    obtain ⟨k',rfl⟩:=O4;refine MQ hfn hev hq ih rfl rfl st hs hnd hx fun c' cs' v w' hrun=>?_
    simp only[vI,hret] at hrun;exact XF rfl rfl hrun
  ·rename_i id ao4
   split at hev
   ·cases hev
   ·rename_i l d
    split at hev
    ·cases hev
    ·rename_i hno
     intro H E w a items rs B ms cs fn' h hfn' st hi hm hs hnd hx;rw[hfn] at hfn';cases hfn';have O4:∃k',items=.code (.exit id)::k'/\pq (mX fn) k k':=by
      cases hi with
      |code p hk=>simp_all |loop p y hl hk=>simp_all
     obtain ⟨k',rfl,hk⟩:=O4;refine MQ hfn hev hq ih rfl rfl st hs hnd hx fun c' cs' v w' hrun=>?_
     simp only[vI,ao4] at hrun;exact VF rfl rfl (aei hk hno) hrun
  ·cases hev
 ·rename_i p i rest k
  split at hev
  ·rename_i l args hy
   split at hev
   ·rename_i l' d f pf hyw
    split at hev
    ·rename_i Fz hff
     split at hev
     ·rename_i x ps ca cb hcf
      cases hb:bA ps.size args.length<;>simp only[hb,cond_true,cond_false] at hev
      ·cases hev
      ·cases hev
       exact ahh hfn hy hyw hff hcf hb hq.1 ih
     ·cases hev
    ·cases hev
   ·cases hev
  grind [ajs]
 ·cases hev
end
section
variable{P:Program}{C:Ctx}{K:Kx}{H H' Fj H0:Mem}{E E' Fp E1:Env}{w w' w'' w0:World}{h:Hp}
theorem abQ{fn:Func}{g:Nat}{r:Option (Nat×Nat)}{td:List It}{c:Core}{stk:List Fw}(hev:evW C fn g r td c stk=.plain):r=aq\/endsB fn td=ag:=by
 cases r with
 |none=>simp |some x=>
  right;obtain ⟨l,d⟩:=x;unfold evW at hev;split at hev
  ·grind [Ht]
  ·rfl
  ·grind [endsB,Ht]
  ·rfl
  ·rename_i hne1 hne2 arx avI
   unfold endsB;split
   ·exact (hne1 rfl).elim
   ·exact (arx _ _ rfl).elim
   ·rfl
theorem D8(hC:oh P C)(hF:oH P C)(hN:∀g fn,C.fns.get g=ae fn->rY (mX fn)=aj){pause:Nat->List It->Bool}{m:Nat}{φ:Sh->Prop}:∀{n g:Nat} {r:Option (Nat×Nat)} {td:List It} {c:Core} {stk:List Fw},
  (VG C pause m n g r td c stk).All (am9 P C (K0 H0 w0) φ)->rE P C (K0 H0 w0) g r td c stk φ
 |0,g,r,td,c,stk,h=>h |n+1,g,r,td,c,stk,h=>by
  intro H E w a items rs B ms cs fn hp hfn st hi hm hs hnd hx;simp only[VG,hfn] at h;cases hpz:pause g td<;>simp only[hpz,cond_true,cond_false] at h
  rotate_left
  ·exact h H E w a items rs B ms cs fn hp hfn st hi hm hs hnd hx
  split at h
  ·exact h.elim
  ·exact h H E w a items rs B ms cs fn hp hfn st hi hm hs hnd hx
  ·rename_i hev
   obtain ⟨hq,h⟩:=aeg h;exact anb hC hF hfn hev hq (D8 hC hF hN h) H E w a items rs B ms cs fn hp hfn st hi hm hs hnd hx
  ·rename_i hev
   have hK:=Kw (K:=IU H E w c.hp) hC hF (Ky hC hF m);obtain ⟨sig,h1,h2⟩:=ahf hC hF hK (hN g fn hfn) (bG h) st.re hi (bq g (Ju r) (marks rs)) (ms++cs) (by
    rcases abQ hev with e|e
    ·left;rw[e];rfl
    grind)
   cases sig with
   |go vS c'=>
    obtain ⟨a',w',H',E',items',q1,q2,q3,q4⟩:=h2;exact (D8 hC hF hN h1 H' E' w' a' items' rs B ms cs fn hp hfn (st.un q2) q4 hm (hs.le q3.yF q3.Dc) hnd (hx.keep st q2)).of q1
   |halt vS c'=>
    obtain ⟨a',w',H',E',items',q1,q2,q3,q4⟩:=h2;exact (h1 H' E' w' a' items' rs B ms cs fn hp hfn (st.un q2) q4 hm (hs.le q3.yF q3.Dc) hnd (hx.keep st q2)).of q1
   |done sv c'=>
    obtain ⟨a',w',H',E',todo,q1,q2,q3,q5⟩:=h2;cases r with
    |some _=>exact h1.elim |none=>
    have st':=st.un q2;obtain ⟨w2,hp2,c1,st2,hx2,hs2⟩:=collects g todo (ms++cs) st' (hx.keep st q2) hm (hs.le q3.yF q3.Dc) hnd;obtain ⟨v,q4,q6⟩:=q5 _ _ st2;have q1':Steps P (lone (o9 (bq g (Ju aq) (marks rs)) a items) (ms++cs) w) (lone {(base g).at a' todo with mode:=.returning} (ms++cs) w2):=q1.trans c1
    cases stk with
    |nil=>
     cases ms with
     |cons _ _=>exact hs.elim |nil=>
      obtain ⟨s,e1,e2⟩:=h1;obtain ⟨H2,r2⟩:=G9 st2 e1 q4;exact ⟨a',w2,v,s,H2,todo,fn,hfn,q1',st2.defers,e2,r2,q6⟩
    |cons f stk=>
     cases ms with
     |nil=>exact hs.elim |cons mf ms=>
      have hleave:step P (lone {(base g).at a' todo with mode:=.returning} (mf::(ms++cs)) w2)=.next (lone (mf.finish v) (ms++cs) w2):=
       step_leave_returned ⟨rfl,st2.defers,rfl,fn,hC.fn g fn hfn,q6⟩
      obtain ⟨rs',B',hB,p1,p2⟩:=hs2;subst hB;have hm':∀y∈rs',hp2 y=ae (.deferred (ae [])):=by
       obtain ⟨_,_,_,_,_,_,_,z,_⟩:=p1;exact z
      have Jv:=(bH.1 hnd).2.1;simp only at h1;split at h1
      ·rename_i hlp
       split at h1
       ·rename_i x hpop
        obtain ⟨Fz,a2,Ug,g1,g2,g3,g4,g5⟩:=afS p1 hlp hpop q4 st2;rw[g4] at hleave;have hB2:IW f=[]:=by simp[IW,hlp]
        rw[hB2,bQ] at Jv;exact (D8 hC hF hN h1 H' E' w2 a2 Ug rs' B' ms cs Fz hp2 g1 g2 g3 hm' p2 Jv (by simp_all)).of (q1'.trans (.one hleave))
       ·exact h1.elim
      ·rename_i l p s hlp
       cases hbz:afR s<;>simp only[hbz,cond_true,cond_false] at h1
       rotate_left
       ·exact h1.elim
       obtain ⟨Fz,a2,Ug,g1,g2,g3,g4,g5,g6⟩:=p1;rw[hlp] at g6;obtain ⟨g7,o,g8,g9⟩:=g6;obtain ⟨lp,rfl,r1,r2,_⟩:=g9.loop;have hw:=(hx2 _ _ g8).1;have hrun:=run_endLoop (P:=P) hw (by rw[r1];cases s<;>simp[AY] at hbz ⊢;cases hbz)
       subst g7;rw[TJ] at hleave;have hend:=ZH (b:=bq f.g (Ju f.r) (marks rs')) (a:=a2) (k:=Ug) (cs:=ms++cs) hrun;have hB2:IW f=[l]:=by simp[IW,hlp]
       rw[hB2] at Jv;have hl1:l ∉ rs':=fun hmm=>(bH.1 (bH.1 Jv).1).2.2 l hmm l (by simp) rfl;have hl2:l ∉ B':=fun hmm=>(bH.1 Jv).2.2 l (by simp) l hmm rfl;have arz:(rs'++B').Nodup:=by
        grind
       have XC:=st2.putObj (o':=.loop {lp with state:=.exhausted}) hx2 g8
       have st4:St C (K0 H0 w0) H' E' (w2.putObj l (.loop {lp with state:=.exhausted})) {c' with tm:=f.tm} a2:=⟨g2,XC.hp,XC.oQ,XC.free,XC.gl,g3⟩
       have hit:pq (mX Fz) (afQ f s) ((lp.pending.map l5).toList++Ug):=by
        rw[r2];cases s with
        |done q=>exact .code q g4 |ready=>exact g4 |busy=>exact g4
       exact (D8 hC hF hN h1 H' E' _ a2 _ rs' B' ms cs Fz _ g1 st4 hit (fun y hy=>by grind [uN]) (p2.put hl2) arz (hx2.put g8)).of ((q1'.trans (.one hleave)).trans (.one hend))
theorem Hu(hC:oh P C)(hF:oH P C){fn uO:Func}{g g2:Nat}{p:List Nat}{k:List It}{c:Core}{stk:List Fw}{x:Operand}{ps:Array Tmp}{ca cb:Code}{caps:List SV}{φ:Sh->Prop}(hfn:C.fns.get g=ae fn)
  (hcode:nP (mX fn) p=.rangeFunc x ps ca cb) (hx:oz c.tm x=.fn g2 caps) (hfn2:C.fns.get g2=ae uO) (hb:(cm (1+caps.length) uO.ntmps&&uO.body.isSome)=aj)
  (ih:∀l,rE P C K g2 aq [.code []] {c with tm:=(.val (yv l)::caps)++bp (uO.ntmps - (1+caps.length)) .any} ({g,r:=aq,td:=k,tm:=c.tm,lp:=ae (l,p,.ready)}::stk) φ):rE P C K g aq (.code p::k) c stk φ:=by
 intro H E w a items rs B ms cs fn' h hfn' st hi hm hs hnd hxt;rw[hfn] at hfn';cases hfn';simp only[al] at hb;obtain ⟨body2,Hg⟩:=bJ.1 hb.2;have hP2:=hC.fn g2 uO hfn2;have O4:∃k',items=.code (.rangeFunc x ps ca cb)::k'/\pq (mX fn) k k':=by
  cases hi with
  |code p hk=>simp_all |loop p y hl hk=>simp_all
 obtain ⟨k',rfl,hk⟩:=O4;have df:=nU (H:=H) (E:=E) st.den x;rw[hx] at df;obtain ⟨vs,ef,hvs⟩:=df;have hent:=hF.en g2 (.inr (by grind));let ob:Obj:=.loop {state:=.ready,pending:=aq,fn:=g,tmps:=a.tmps,params:=ps,assign:=ca,body:=cb,defers:=w.heap.size}
 let w2:World:=(w.alloc (.deferred (ae []))).alloc ob
 have he:(Instr.enterLoop g a.tmps ps ca cb aq).run P w=.ok (w.heap.size+1,[{target:=.collected w.heap.size,args:=#[]}]) w2:=run_enterLoop_outer g a.tmps ps ca cb;have hstep:step P (lone (o9 (bq g aq (marks rs)) a (.code (.rangeFunc x ps ca cb)::k')) (ms++cs) w) =
   .next (lone (bY P g2 (#[yv (w.heap.size+1)]++vs) .normal) (o9 (bq g aq (marks (w.heap.size::rs))) a (.inRangeFunc (w.heap.size+1)::k')::(ms++cs)) w2):=by
  have h0:=stepR_rangeFunc (P:=P) (b:=bq g aq (marks rs)) (a:=Jq (bq g aq (marks rs)) a) (k:=k') (cs:=ms++cs) (w:=w) (g:=x) (ps:=ps) (assign:=ca) (body:=cb) (l:=w.heap.size+1) (mark:=[{target:=.collected w.heap.size,args:=#[]}])
   (w₁:=w2) (w₁':=w2) (w₂:=w2) (d:={target:=.fn (.func g2) vs,args:=#[yv (w.heap.size+1)]}) (f:=g2) (args:=#[yv (w.heap.size+1)]++vs) he
   (by rw[Hr];simp[resolve,cY,ef,yv,show ∀v,a.eval (.const v)=v from fun _=>rfl]) (by simp[invoke,xG hent])
  rw[AX,h0];simp[o9,Frame.atR,Jq,bq,marks,st.defers]
 rw[Yl hP2 Hg] at hstep;have hl:=hvs.length;have st1:=(st.Qy (.deferred (ae []))).Qy ob;have hx1:=(hxt.alloc st (.deferred (ae []))).alloc (st.Qy _) ob;have hsz:(w.alloc (.deferred (ae []))).heap.size=w.heap.size+1:=World.size_alloc ..;rw[hsz] at hx1;have hB:∀y∈rs++B,y<w.heap.size:=fun y hy=>by
  have:∃o,h y=ae o:=by
   rcases aU.1 hy with hy|hy
   ·simp_all
   ·exact hs.has y hy
  obtain ⟨o,ho⟩:=this;exact (Array.getElem?_eq_some_iff.1 (hxt y o ho).1).1
 have hold:∀y,y<w.heap.size->yH (yH h w.heap.size (.deferred (ae []))) (w.heap.size+1) ob y=h y:=fun y hy=>by
  grind [uN]
 have hs1:uX C H E (yH (yH h w.heap.size (.deferred (ae []))) (w.heap.size+1) ob) stk ms B:=
  (hs.put (fun hm=>by have:=hB _ (eB _ hm);omega)).put (fun hm=>by have:=hB _ (eB _ hm);omega)
 have st2:St C K H E w2 {c with tm:=(.val (yv (w.heap.size+1))::caps)++bp (uO.ntmps - (1+caps.length)) .any} {tmps:=(#[yv (w.heap.size+1)]++vs)++bw (uO.ntmps - (#[yv (w.heap.size+1)]++vs).size) undef,defers:=[]}:=by
  refine ⟨?_,st1.hp,st1.oQ,st1.free,st1.gl,rfl⟩;have:((#[yv (w.heap.size+1)]++vs)++bw (uO.ntmps - (#[yv (w.heap.size+1)]++vs).size) undef).toList=(yv (w.heap.size+1)::vs.toList)++bp (uO.ntmps - (1+caps.length)) undef:=by
   simp_all
  simp only[this];exact mW.append (l:=.val (yv (w.heap.size+1))::caps) (vs:=yv (w.heap.size+1)::vs.toList) ⟨⟨rfl,rfl⟩,hvs⟩ (ig _ _ (by simp))
 have hit2:pq (mX uO) [.code []] [.code body2]:=by
  have:=cg (body:=mX uO) [] gT;simp_all [nP,mX]
 have hs2:uX C H E (yH (yH h w.heap.size (.deferred (ae []))) (w.heap.size+1) ob) ({g,r:=aq,td:=k,tm:=c.tm,lp:=ae (w.heap.size+1,p,.ready)}::stk) (o9 (bq g aq (marks (w.heap.size::rs))) a (.inRangeFunc (w.heap.size+1)::k')::ms) ((w.heap.size::rs)++[w.heap.size+1]++B):=by
  refine ⟨w.heap.size::rs,B,by simp[IW],⟨fn,a,k',hfn,st.den,st.defers,hk,fun y hy=>?_,?_⟩,hs1⟩
  ·rcases List.mem_cons.1 hy with rfl|hy
   ·rw[uN (by omega),D7]
   ·rw[hold y (hB y (List.mem_append_left _ hy))];exact hm y hy
  ·exact ⟨rfl,ob,D7,x,ps,ca,cb,w.heap.size,hcode,rfl⟩
 have Jv:(([]:List Nat)++((w.heap.size::rs)++[w.heap.size+1]++B)).Nodup:=by
  grind
 exact (ih (w.heap.size+1) H E w2 _ _ [] _ (_::ms) cs uO _ hfn2 st2 hit2 (fun _ hy=>by cases hy) hs2 Jv hx1).of (.one hstep)
end
structure D9 where
 g:Nat
 r:Option (Nat×Nat)
 td:List It
 c:Core
 stk:List Fw
def qRO:Option (Nat×Nat)->Option (Nat×Nat)->Option (List oC)
 |none,aq=>ae [] |some (l,d),ae (l',d')=>qc (bA d d') (ae [.nat l l']) |_,_=>aq
def ajt:FB->FB->Bool
 | .ready,.ready=>aj | .busy,.busy=>aj | .done p,.done q=>p==q |_,_=>ag
def aju:Option (Nat×List Nat×FB)->Option (Nat×List Nat×FB)->Option (List oC)
 |none,aq=>ae [] |some (l,p,s),ae (l',p',s')=>qc (p==p'&&ajt s s') (ae [.nat l l']) |_,_=>aq
def QA(hp:List (Nat×SB))(ρ:List (Nat×Rn)):List Fw->List Fw->Option (List oC)
 |[],[]=>ae [] |f::s,f'::s'=>qc (f.g==f'.g&&zi f.td f'.td) (uq (qRO f.r f'.r) (uq (aju f.lp f'.lp) (uq (qL hp ρ f.tm f'.tm) (QA hp ρ s s')))) |_,_=>aq
def QB:List Fw->List Fw->Bool
 |[],[]=>aj |f::s,f'::s'=>f.g==f'.g&&zi f.td f'.td&&(f.r.isSome==f'.r.isSome)&&(f.lp.isSome==f'.lp.isSome)&&QB s s' |_,_=>ag
def ajv:List Fw->List Fw->List (Nat×Rn)
 |f::s,f'::s'=>D6 f.tm f'.tm++ajv s s' |_,_=>[]
def D9.rn(t:D9)(c:Core)(stk:List Fw):List (Nat×Rn):=infer t.c.hp c.hp 4000 (D6 t.c.tm c.tm++ajv t.stk stk) []
def O5(g:Nat)(r:Option (Nat×Nat))(td:List It)(c:Core)(stk:List Fw):Nat->List D9->Tree rQ
 |_,[]=>.fail |k,t::ts=>bif g==t.g&&zi td t.td&&QB stk t.stk then match uq (qRO r t.r) (uq (qC (t.rn c stk) c t.c) (QA c.hp (t.rn c stk) stk t.stk)) with
   |some l=>.leaf (.at_ k l) |none=>O5 g r td c stk (k+1) ts
  else O5 g r td c stk (k+1) ts
def ajw(ts:List D9):ajp->Tree rQ
 | .fin v c=>match finish c v with
  |some s=>.leaf (.ret s) |none=>.fail
 | .stop g r td c stk=>O5 g r td c stk 0 ts
def abR(C:Ctx)(pause:Nat->List It->Bool)(m n g:Nat)(r:Option (Nat×Nat))(td:List It)(c:Core)(stk:List Fw)(ts:List D9):Tree rQ:=(VG C pause m n g r td c stk).bind (ajw ts)
def aej(P:Program)(C:Ctx)(K:Kx)(ts:List D9)(φ:Sh->Prop):rQ->Prop
 | .ret s=>φ s | .at_ k l=>aX l/\∃t,ts[k]?=ae t/\rE P C K t.g t.r t.td t.c t.stk φ
@[irreducible] def Hw (ψ:rQ->Prop) (t:Tree rQ):Prop:=t.All ψ
theorem AZ(ψ:rQ->Prop)(t:Tree rQ):Hw ψ t=t.All ψ:=by unfold Hw;rfl
def wF:Nat->List It->Bool:=fun _ _=>ag
def EL:BT Func->Bool:=BT.allB fun _ fn=>rY (mX fn)
section
variable{P:Program}{C:Ctx}{K:Kx}{H H' Fj H0:Mem}{E E' Fp E1:Env}{w w' w'' w0:World}{h:Hp}
theorem abS(hx:EL C.fns=aj):∀g fn,C.fns.get g=ae fn->rY (mX fn)=aj:=fun _ _ hg=>(BT.J8 hx).get hg
theorem afU{r r':Option (Nat×Nat)}{q:List oC}(hx:qRO r r'=ae q)(ha:aX q):r=r':=by
 unfold qRO at hx;split at hx
 ·rfl
 ·obtain ⟨h1,h2⟩:=nO hx
  cases h2;have h3:_=_:=ha.1;simp_all
 ·cases hx
theorem ajx{s t:FB}(hx:ajt s t=aj):s=t:=by
 cases s<;>cases t<;>simp[ajt] at hx<;>simp_all
theorem ajy{r r':Option (Nat×List Nat×FB)}{q:List oC}(hx:aju r r'=ae q)(ha:aX q):r=r':=by
 unfold aju at hx;split at hx
 ·rfl
 ·obtain ⟨h1,h2⟩:=nO hx
  cases h2;simp only[al,beq_iff_eq] at h1;have h3:_=_:=ha.1;grind [ajx]
 ·cases hx
def O6(hp:List (Nat×SB))(ρ:List (Nat×Rn)):List Fw->List Fw->Prop
 |[],[]=>True |f::s,f'::s'=>f.g=f'.g/\f.td=f'.td/\f.r=f'.r/\f.lp=f'.lp/\Vg hp ρ f.tm f'.tm/\O6 hp ρ s s' |_,_=>False
theorem Ym{hp:List (Nat×SB)}{ρ:List (Nat×Rn)}:∀{s s':List Fw} {q:List oC},QA hp ρ s s'=ae q->aX q->O6 hp ρ s s'
 |[],[],_,_,_=>trivial |f::s,f'::s',q,hx,ha=>by
  simp only[QA] at hx;obtain ⟨h1,h2⟩:=nO hx;obtain ⟨a,b,h3,h4,rfl⟩:=oK h2;obtain ⟨a2,b2,h5,h6,rfl⟩:=oK h4;obtain ⟨a3,b3,h7,h8,rfl⟩:=oK h6;simp only[al,beq_iff_eq] at h1;have e1:=bE ha;have e2:=bE e1.2;have e3:=bE e2.2;exact ⟨h1.1,Dx h1.2,afU h3 e1.1,ajy h5 e2.1,Fq _ h7 e3.1,Ym h8 e3.2⟩
 |[],_::_,_,hx,_=>by simp[QA] at hx |_::_,[],_,hx,_=>by simp[QA] at hx
theorem uX.weak{hp:List (Nat×SB)}{ρ:List (Nat×Rn)}(hh:mZ K H E w hp):∀{s s':List Fw} {ms:List Frame} {B:List Nat},uX C H E h s ms B->O6 hp ρ s s'->uX C H (vg ρ E) h s' ms B
 |[],[],[],_,x,_=>x |⟨g,r,td,tm,lp⟩::s,⟨g',r',vS,tm',lp'⟩::s',m::ms,B,⟨rs,B',hB,⟨fn,a,items,h1,h2,h3⟩,h6⟩,⟨e1,e2,e3,e4,e5,e6⟩=>by
  simp only at e1 e2 e3 e4 e5;subst e1 e2 e3 e4;exact ⟨rs,B',hB,⟨fn,a,items,h1,yO hh _ e5 h2,h3⟩,uX.weak hh h6 e6⟩
 |[],[],_::_,_,x,_=>x.elim |_::_,_,[],_,x,_=>x.elim |[],_::_,_,_,_,x=>x.elim |_::_,[],_::_,_,_,x=>x.elim
theorem abT{hp:List (Nat×SB)}{ρ:List (Nat×Rn)}:∀{s s':List Fw} {g:Nat},O6 hp ρ s s'->IG g s'=IG g s
 |[],[],_,_=>rfl |f::s,f'::s',_,⟨e1,_,_,_,_,e4⟩=>by simp only[IG];rw[e1];exact abT e4 |[],_::_,_,h=>h.elim |_::_,[],_,h=>h.elim
theorem abU{g:Nat}{r:Option (Nat×Nat)}{td:List It}{c c':Core}{stk zW:List Fw}{φ:Sh->Prop}(ρ:List (Nat×Rn))(hle:leC ρ c c')(hs:O6 c.hp ρ stk zW)(hg:rE P C K g r td c' zW φ):rE P C K g r td c stk φ:=by
 intro H E w a items rs B ms cs fn h hfn st hi hm hst hnd hx;have:=hg H (vg ρ E) w a items rs B ms cs fn h hfn (st.weak hle) hi hm (hst.weak st.hp hs) hnd (hx.weak st hle);grind [abT]
theorem MR{φ:Sh->Prop}{ts:List D9}{g:Nat}{r:Option (Nat×Nat)}{td:List It}{c:Core}{stk:List Fw}:∀{rs:List D9} {k:Nat},(∀j,rs[j]?=ts[k+j]?)->(O5 g r td c stk k rs).All (aej P C K ts φ)->rE P C K g r td c stk φ
 |[],_,_,hx=>hx.elim |t::rs,k,hk,hx=>by
  have hr:∀j,rs[j]?=ts[k+1+j]?:=fun j=>by have:=hk (j+1);grind
  unfold O5 at hx;cases hb:(g==t.g&&zi td t.td&&QB stk t.stk)<;>simp only[hb,cond_true,cond_false] at hx
  ·exact MR hr hx
  ·simp only[al,beq_iff_eq] at hb
   obtain ⟨⟨h1,h2⟩,h3⟩:=hb;split at hx
   ·rename_i l hl
    obtain ⟨a0,b0,q0,q00,rfl⟩:=oK hl;obtain ⟨a,b,q1,q2,rfl⟩:=oK q00;obtain ⟨hl,t',ht,hg⟩:=hx;have:=hk 0;simp only[List.getElem?_cons_zero,Nat.add_zero] at this;rw[<-this] at ht;cases ht;have h2:=Dx h2;subst h1 h2;have e1:=bE hl;have e2:=bE e1.2;have hrr:=afU q0 e1.1;subst hrr;exact abU (t.rn c stk) (ad7 q1 e2.1) (Ym q2 e2.2) hg
   ·exact MR hr hx
theorem vJ(hC:oh P C)(hF:oH P C)(hN:EL C.fns=aj){pause:Nat->List It->Bool}{m n g:Nat}{r:Option (Nat×Nat)}{td:List It}{c:Core}{stk:List Fw}{ts:List D9}{φ:Sh->Prop}
  (hx:Hw (aej P C (K0 H0 w0) ts φ) (abR C pause m n g r td c stk ts)):rE P C (K0 H0 w0) g r td c stk φ:=by
 rw[AZ] at hx;refine D8 hC hF (abS hN) (pause:=pause) (m:=m) (n:=n) ((bG hx).mono fun o ho=>?_);cases o with
 |fin v c=>
  simp only[ajw] at ho;split at ho
  ·rename_i s hs
   exact ⟨s,hs,ho⟩
  ·exact ho.elim
 |stop g r td c stk=>exact MR (k:=0) (fun j=>by simp) ho
theorem EM{fn:Func}{g:Nat}{r:Option (Nat×Nat)}{td tb:List It}{c:Core}{stk:List Fw}{φ:Sh->Prop}(hfn:C.fns.get g=ae fn)(hx:Uc fn td=ae tb)(hg:rE P C K g r tb c stk φ):rE P C K g r td c stk φ:=by
 unfold Uc at hx;split at hx
 ·rename_i p k
  cases hb:OO (nP (mX fn) p)<;>simp only[hb,cond_true,cond_false] at hx
  ·cases hx
  ·cases hx
   unfold OO at hb;split at hb
   ·rename_i x he
    intro H E w a items rs B ms cs fn' h hfn' st hi hm hst hnd hxt;rw[hfn] at hfn';cases hfn';have h0:nP (mX fn) (0::p)=x:=by simp[nP,he,child]
    cases hi with
    |code p hk=>
     have:=cg (0::p) (gn p x he hk);rw[h0] at this;rw[he];exact (hg H E w a _ rs B ms cs fn h hfn st this hm hst hnd hxt).of (.one abL)
    |loop p y hl hk=>
     rw[he] at hl;cases hl;have:=cg (0::p) (gn p x he hk);rw[h0] at this;exact (hg H E w a _ rs B ms cs fn h hfn st this hm hst hnd hxt).of (.one VB)
   ·cases hb
 ·cases hx
theorem ane(hC:oh P C){g:Nat}{fn:Func}{F:List Sh->Tree Sh}(hfn:C.fns.get g=ae fn)(hb:fn.body.isSome=aj)
  (h:∀(H:Mem) (w:World) (nV:List Sh) (args:List Value) (φ:Sh->Prop),qQ H nV args->(F nV).All φ->∃qV:List Sh,qQ H qV args/\∃L,rE P C (K0 H w) g aq [.code []] (mM fn.ntmps qV L) [] φ):nG P C.gls g F:=by
 refine BA hC hfn hb fun H w nV args φ hr hφ=>?_
 obtain ⟨qV,hr',L,hgo⟩:=h H w nV args φ hr hφ;refine ⟨qV,hr',L,fun H1 E w1 a items ms cs fn1 ajz st hi hs hx=>?_⟩;cases ms with
 |cons _ _=>exact hs.elim |nil=>
  have:=hgo H1 E w1 a items [] [] [] cs fn1 (fun _=>aq) ajz st hi (fun _ hy=>by cases hy) rfl (by simp) (fun b o e=>by cases e);obtain ⟨a',w',v,s,H',todo,fn0,q1,q2,q3⟩:=this;refine ⟨a',w',v,s,H',todo,fn0,q1,?_,q3⟩;have e:(base g).at a items=o9 (bq g (Ju aq) (marks [])) a items:=(KC g a items).symm;rw[e];exact q2
end
end Go.Sx
