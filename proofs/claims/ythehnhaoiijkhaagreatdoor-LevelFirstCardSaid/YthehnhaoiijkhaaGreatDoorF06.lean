/- Own work. -/
import Derived.Test.YthehnhaoiijkhaaGreatDoorF05
open Int (ofNat)
open Array renaming replicate->dN,eq_empty_of_size_eq_zero->mG
open Bool renaming true->aC,false->ay,and_eq_true->aG
open Go.Deferred renaming ofValue->jd
open Go.Frame renaming enter->fM,round->wL
open Go.Instr renaming endRound->kU
open Go.Item renaming code->yU
open Go.Sx.zO renaming any->qj
open Go.Sx.AQ renaming all->cu,DR->dV
open Go.Sx.BA renaming code->gB,nil->pz,loop->nU
open Go.Sx.Tree renaming ET->dX
open Go.stepG renaming apply->fP
open List renaming replicate->dL,nodup_append->dY,mem_append->cZ,mem_append_right->kR,append_nil->fA
open Nat renaming beq->dQ,eq_of_beq_eq_true->fJ,ble->gJ
open Option renaming some->ak,none->aK,isSome_iff_exists->eF
open Option.some renaming inj->dw
namespace Go.Sx
def yv(l:Nat):Value:=.func (.yield l) #[] #[]
section moves
variable{P:Program}{b c:Frame}{a:Act}{k:List Item}{cs:List Frame}{w w':World}
theorem aa4{l:Nat}(hb:b.roundOf=ak l)(hr:(Instr.beginRound l).run P w=.ok () w'):step P (lone (Bz b a (.beginRound::k)) cs w)=.next (lone (Bz b a k) cs w'):=by
 simp_all [JL,stepR_beginRound]
theorem acG{l:Nat}{v:Value}(hb:b.roundOf=ak l)(hk:b.kind=.normal)(hr:(kU l aK).run P w=.ok v w'):step P (lone (Bz b a []) (c::cs) w)=.next (lone (c.finish v) cs w'):=by
 grind [JL,stepR_round_end]
theorem acH{l:Nat}{v:Value}(hb:b.roundOf=ak l)(hk:b.kind=.normal)(hr:(kU l (ak .ret)).run P w=.ok v w'):step P (lone (Bz b a (.code .ret::k)) (c::cs) w)=.next (lone (c.finish v) cs w'):=by
 grind [JL,stepR_round_ret]
theorem aa5{l id:Nat}{v:Value}(hb:b.roundOf=ak l)(hk:b.kind=.normal)(hx:exitTo id k=aK)(hr:(kU l (ak (.exit id))).run P w=.ok v w'):
  step P (lone (Bz b a (.code (.exit id)::k)) (c::cs) w)=.next (lone (c.finish v) cs w'):=by
 grind [JL,stepR_round_exit]
theorem Zu(l:Nat)(v:Value):(Bz b a (.inRangeFunc l::k)).finish v=Bz b a (.endRangeFunc l::k):=by rfl
theorem aeI{l:Nat}{jump:Option Code}(h:(Instr.endLoop l).run P w=.ok jump w'):step P (lone (Bz b a (.endRangeFunc l::k)) cs w)=.next (lone (Bz b a ((jump.map yU).toList++k)) cs w'):=by
 grind [JL,stepR_endRangeFunc]
end moves
inductive an1 where
 |fin (v:SV) (c:Core)
 |stop (g:Nat) (r:Option (Nat×Nat)) (td:List It) (c:Core) (stk:List Fw)
inductive EvW where
 |plain|bad|halt
 |next (g:Nat) (r:Option (Nat×Nat)) (td:List It) (c:Core) (stk:List Fw) (q:List AQ)
def WO:Ox->Ox->Bool
 | .ready,.ready=>aC | .busy,.busy=>aC |_,_=>ay
def setW(g d:Nat)(s0 s1:Ox):List Fw->Option (Nat×List Fw)
 |[]=>aK |f::s=>bif dQ s.length d then match f.lp with
   |some (l,p,st)=>bif dQ f.g g&&WO st s0 then ak (l,{f with lp:=ak (l,p,s1)}::s) else aK
   |none=>aK
  else match setW g d s0 s1 s with
   |some (l,s')=>ak (l,f::s') |none=>aK
def yW:List Fw->Option (Nat×Nat×Fw×List Nat)
 |[]=>aK |f::s=>match f.lp with
  |some (l,p,.ready)=>ak (l,s.length,f,p) |_=>yW s
def yieldOf(fn:Func)(td:List It)(c:Core):Option (Nat×List SV):=
 match td with
 | .reg p (i::_)::_=>match Ai (zS fn) p with
  | .region _ ops _=>match opAt ops.toList i with
   |some o=>match NG ops.toList c.tm o with
    | .yes=>match o.op with
     | .call k=>match k.callee with
      | .value f=>match AP c.tm f with
       | .val (.func (.yield l) x y)=>bif dQ x.size 0&&dQ y.size 0 then ak (l,k.args.toList.map (AP c.tm)) else aK |_=>aK
      |_=>aK
     |_=>aK
    |_=>aK
   |none=>aK
  |_=>aK
 |_=>aK
def Qe(C:Ctx)(g l d:Nat)(s1:Ox)(b:Bool)(c:Core)(stk:List Fw):EvW:=
 match setW g d .busy s1 stk with
 |some (l',f::s)=>match f.lp with
  |none=>match Rq C ⟨f.g,f.td,f.tm⟩ (.bool b) c with
   |some x=>.next f.g f.r x.1 x.2 s [.nat l l'] |none=>.bad
  |some _=>.bad
 |_=>.bad
def evW(C:Ctx)(fn:Func)(g:Nat)(r:Option (Nat×Nat))(td:List It)(c:Core)(stk:List Fw):EvW:=
 match td with
 |[]=>match r with
  |none=>.plain |some (l,d)=>Qe C g l d .ready aC c stk
 | .XE::k=>match r with
  |none=>.bad |some (l,d)=>match setW g d .ready .busy stk with
   |some (l',s)=>.next g r k c s [.nat l l'] |none=>.bad
 | .code p::k=>match Ai (zS fn) p with
  | .rangeFunc _ _ _ _=>.halt | .ret=>match r with
   |none=>.plain |some (l,d)=>Qe C g l d (.done p) ay c stk
  | .exit id=>match r with
   |none=>.plain |some (l,d)=>match Hu id k with
    |some _=>.plain |none=>Qe C g l d (.done p) ay c stk
  |_=>.plain
 | .reg _ (_::_)::_=>match yieldOf fn td c with
  |some (l,args)=>match yW stk with
   |some (l',d,f,p)=>match C.fns.get f.g with
    |some Ov=>match Ai (zS Ov) p with
     | .rangeFunc _ ps _ _=>bif dQ ps.size args.length then
       .next f.g (ak (l',d)) [.code (0::p),.XE,.code (1::p)] {c with tm:=(ps.toList.zip args).foldl (fun t x=>t.set x.1 x.2) f.tm} ({g,r,td,tm:=c.tm,lp:=aK}::stk) [.nat l l'] else .bad
     |_=>.bad
    |none=>.bad
   |none=>.bad
  |none=>match P8 C fn td c with
   |some x=>.next x.1 aK [.code []] {c with tm:=x.2.2++dL (x.2.1.ntmps - x.2.2.length) .any} ({g,r,td,tm:=c.tm,lp:=aK}::stk) []
   |none=>.plain
 |_=>.plain
def akv(f:Fw):Ox->List It
 | .done q=>.code q::f.td |_=>f.td
def akw:Ox->Bool
 | .busy=>aC |_=>ay
def aa6(C:Ctx)(pause:Nat->List It->Bool)(m:Nat):Nat->Nat->Option (Nat×Nat)->List It->Core->List Fw->Tree an1
 |0,g,r,td,c,stk=>.leaf (.stop g r td c stk) |n+1,g,r,td,c,stk=>match C.fns.get g with
  |none=>.fail |some fn=>bif pause g td then .leaf (.stop g r td c stk) else match evW C fn g r td c stk with
   | .bad=>.fail | .halt=>.leaf (.stop g r td c stk) | .next g' r' Fj c' Jk q=>XC q (aa6 C pause m n g' r' Fj c' Jk) | .plain=>(Q5 C (LV C (run C m ay)) aC g fn td c).bind fun s=>match s with
    | .go td c=>aa6 C pause m n g r td c stk | .halt td c=>.leaf (.stop g r td c stk) | .done v c=>match r with
     |some _=>.fail |none=>match stk with
      |[]=>.leaf (.fin v c) |f::s=>match f.lp with
       |none=>match Rq C ⟨f.g,f.td,f.tm⟩ v c with
        |some x=>aa6 C pause m n f.g f.r x.1 x.2 s |none=>.fail
       |some (_,_,st)=>bif akw st then .fail else aa6 C pause m n f.g f.r (akv f st) {c with tm:=f.tm} s
def arL(P:Program)(C:Ctx)(K:Kx)(φ:Sh->Prop):an1->Prop
 | .fin v c=>∃s,finish c v=ak s/\φ s | .stop g r td c stk=>Df P C K g r td c stk φ
section
variable{P:Program}{C:Ctx}{K:Kx}{H H' Oo H0:Mem}{E E' Oq E1:Env}{w w' w'' w0:World}{h:Hp}
theorem aiV{α:Type}{φ:α->Prop}{l:List AQ}{t:Tree α}(hx:(XC l t).All φ):cu l/\t.All φ:=by
 unfold XC at hx;split at hx
 ·exact ⟨trivial,hx⟩
 ·exact hx
theorem agF.loop{fn:Func}{g:Nat}{tmps:Array Value}{p:List Nat}{s:Ox}{o:Obj}(hx:agF fn g tmps p s o):∃lp,o=.loop lp/\lp.state=JM s/\lp.pending=EZ (zS fn) s/\∀s',agF fn g tmps p s' (.loop {lp with state:=JM s',pending:=EZ (zS fn) s'}):=by
 obtain ⟨x,ps,ca,cb,df,h1,rfl⟩:=hx;exact ⟨_,rfl,rfl,rfl,fun s'=>⟨x,ps,ca,cb,df,h1,rfl⟩⟩
theorem aiW{s t:Ox}(hx:WO s t=aC):s=t:=by
 cases s<;>cases t<;>simp[WO] at hx<;>rfl
theorem aa7{g d:Nat}{s0 s1:Ox}{fn:Func}(hfn:C.fns.get g=ak fn):∀{s s':List Fw} {ms:List Frame} {B:List Nat} {l:Nat},setW g d s0 s1 s=ak (l,s')->EN C H E h s ms B->B.Nodup->
  ∃lp,h l=ak (.loop lp)/\lp.state=JM s0/\lp.pending=EZ (zS fn) s0/\l∈B/\EN C H E (H9 h l (.loop {lp with state:=JM s1,pending:=EZ (zS fn) s1})) s' ms B
 |[],_,_,_,_,hx,_,_=>by simp[setW] at hx |f::s,s',[],_,_,_,hs,_=>hs.elim |f::s,s',mf::ms,B,l,hx,⟨rs,B',hB,h1,h2⟩,hnd=>by
  subst hB;simp only[setW] at hx;cases hd:dQ s.length d<;>simp only[hd,cond_true,cond_false] at hx
  ·split at hx
   ·rename_i l2 s2 hs2
    cases hx;have RH:B'.Nodup:=(dY.1 hnd).2.1;obtain ⟨lp,q1,q2,q3,q4,q5⟩:=aa7 hfn hs2 h2 RH;have hno:l ∉ rs++QT f:=fun hm=>(dY.1 hnd).2.2 l hm l q4 rfl;simp only[cZ,not_or] at hno;exact ⟨lp,q1,q2,q3,kR _ q4,rs,B',rfl,h1.put hno.1 hno.2,q5⟩
   ·cases hx
  ·split at hx
   ·rename_i l2 p st hl
    cases hb:(dQ f.g g&&WO st s0)<;>simp only[hb,cond_true,cond_false] at hx
    ·cases hx
    ·cases hx
     simp only[aG] at hb;have hg:f.g=g:=fJ hb.1;have hst:st=s0:=aiW hb.2;subst hst;obtain ⟨fn',a,items,q1,q2,q3,q4,q5,q6⟩:=h1;rw[hg,hfn] at q1;cases q1;rw[hl] at q6;obtain ⟨q7,o,q8,q9⟩:=q6;obtain ⟨lp,rfl,r1,r2,r3⟩:=q9.loop;have hlB:QT f=[l]:=by simp[QT,hl]
     rw[hlB] at hnd ⊢;have hn1:l ∉ rs:=fun hm=>(dY.1 (dY.1 hnd).1).2.2 l hm l (by simp) rfl;have hn2:l ∉ B':=fun hm=>(dY.1 hnd).2.2 l (by simp) l hm rfl;refine ⟨lp,q8,r1,r2,by simp,rs,B',by simp[QT],⟨fn,a,items,by simp_all,q2,q3,q4,fun x hx=>by grind [ED],?_⟩,h2.put hn2⟩;simp_all [MS]
   ·cases hx
theorem an3:∀{s:List Fw} {ms:List Frame} {B:List Nat} {l d:Nat} {f:Fw} {p:List Nat},yW s=ak (l,d,f,p)->EN C H E h s ms B->
  ∃(fn:Func) (a:Act) (o:Obj),C.fns.get f.g=ak fn/\zO H E f.tm a.tmps.toList/\h l=ak o/\agF fn f.g a.tmps p .ready o/\l∈B
 |[],_,_,_,_,_,_,hx,_=>by simp[yW] at hx |f0::s,[],_,_,_,_,_,_,hs=>hs.elim |f0::s,mf::ms,B,l,d,f,p,hx,⟨rs,B',hB,h1,h2⟩=>by
  subst hB;simp only[yW] at hx;split at hx
  ·rename_i l2 p2 hl
   cases hx;obtain ⟨fn,a,items,q1,q2,q3,q4,q5,q6⟩:=h1;grind [QT]
  ·obtain ⟨fn,a,o,q1,q2,q3,q4,q5⟩:=an3 hx h2
   grind
theorem aa8:∀{l:List (Nat×SV)} {vl:List (Nat×Value)} {tm:List SV} {ts:Array Value},zO H E tm ts.toList->(∀(i:Nat) x y,l[i]?=ak x->vl[i]?=ak y->x.1=y.1/\Den H E x.2 y.2)->l.length=vl.length->
  zO H E (l.foldl (fun t x=>t.set x.1 x.2) tm) (vl.foldl (fun t x=>t.setIfInBounds x.1 x.2) ts).toList
 |[],[],_,_,hd,_,_=>hd |x::l,y::vl,tm,ts,hd,hx,hlen=>by
  obtain ⟨e1,e2⟩:=hx 0 x y rfl rfl;have hd2:zO H E (tm.set x.1 x.2) (ts.setIfInBounds y.1 y.2).toList:=by
   have:=Ji (c:={tm:=tm,hp:=[],nx:=0,lim:=0,tc:=[]}) (a:={tmps:=ts,defers:=[]}) hd (ak x.1) e2;rw[<-e1];exact this
  simp only[List.foldl_cons];exact aa8 (l:=l) (vl:=vl) hd2 (fun i a b ha hb=>hx (i+1) a b ha hb) (by simp_all)
 |[],_::_,_,_,_,_,hl=>by simp at hl |_::_,[],_,_,_,_,hl=>by simp at hl
end
section
variable{P:Program}{C:Ctx}{K:Kx}{H H' Oo H0:Mem}{E E' Oq E1:Env}{w w' w'' w0:World}{h:Hp}
theorem XV{g d:Nat}{s0 s1:Ox}:∀{s s':List Fw} {l g0:Nat},setW g d s0 s1 s=ak (l,s')->QH g0 s'=QH g0 s
 |[],_,_,_,hx=>by simp[setW] at hx |f::s,s',l,g0,hx=>by
  simp only[setW] at hx;cases hd:dQ s.length d<;>simp only[hd,cond_true,cond_false] at hx
  ·split at hx
   ·rename_i hs2
    cases hx;show QH f.g _=QH f.g _;exact XV hs2
   ·cases hx
  ·split at hx
   ·rename_i l2 p st hl
    cases hb:(dQ f.g g&&WO st s0)<;>simp only[hb,cond_true,cond_false] at hx
    ·cases hx
    ·cases hx;rfl
   ·cases hx
theorem aiX{body:Code}{id:Nat}:∀{td:List It} {k:List Item},BA body td k->Hu id td=aK->exitTo id k=aK:=by
 intro td k h;induction h with
 |nil=>intro _;rfl |code p _ ih=>intro h;simp only[Hu] at h;simpa[exitTo] using ih h |XE _ ih=>intro h;simp only[Hu] at h;simpa[exitTo] using ih h |loop p x _ _ ih=>intro h;simp only[Hu] at h;simpa[exitTo] using ih h |reg p l id ops _ _ ih=>intro h;simp only[Hu] at h;simpa[exitTo] using ih h |inBlock j h0 ih=>
  intro h;simp only[Hu] at h;cases hj:(j==id)<;>simp only[hj,cond_true,cond_false] at h
  ·have:j≠id:=by simpa using hj
   simp only[exitTo];rw[if_neg (by simpa using this)];exact ih h
  ·cases h
theorem akx{f:Fw}{mf:Frame}{rs:List Nat}{x:List It×Core}{c:Core}{sv:SV}{v:Value}(hf:Y3 C H E h f mf rs)(hl:f.lp=aK)(hp:Rq C ⟨f.g,f.td,f.tm⟩ sv c=ak x)(hv:Den H E sv v){a:Act}(st:St C K H E w c a):
  ∃(fn:Func) (a':Act) (items:List Item),C.fns.get f.g=ak fn/\St C K H E w x.2 a'/\BA (zS fn) x.1 items/\mf.finish v=Bz (bq f.g (RG f.r) (marks rs)) a' items/\x.2.hp=c.hp:=by
 obtain ⟨fn,a3,akp,g1,g2,g3,g4,_,g5⟩:=hf;rw[hl] at g5;unfold Rq at hp;rw[g1] at hp;simp only at hp;split at hp
 ·rename_i p i rest k htd
  split at hp
  ·rename_i rid ops dr hcode
   cases hp;rw[htd] at g4;cases g4 with
   |reg p l id ops2 hc hk=>
    rw[hc] at hcode;cases hcode;rename_i k';have g5:mf=_:=g5;subst g5;refine ⟨fn,a3.put ((opAt ops.toList i).bind (·.dst)) v,_,g1,⟨Ji (c:={c with tm:=f.tm}) g2 _ hv,st.hp,st.Bg,st.free,st.gl,by rw[put_defers];exact g3⟩,.reg p rest _ ops hc hk,?_,rfl⟩
    rw[Rz];simp[opAt]
  ·cases hp
 ·cases hp
theorem UZ{fn:Func}{g l d:Nat}{s1:Ox}{bb:Bool}{c c':Core}{stk Jk:List Fw}{g':Nat}{r':Option (Nat×Nat)}{Fj:List It}{q:List AQ}{φ:Sh->Prop}(hfn:C.fns.get g=ak fn)
  (hev:Qe C g l d s1 bb c stk=.next g' r' Fj c' Jk q) (hq:cu q) (ih:Df P C K g' r' Fj c' Jk φ) (hj:(EZ (zS fn) s1).isNone=bb) (hst:JM s1=if bb then .ready else .done)
  {a:Act} {items:List Item} {rs B:List Nat} {ms cs:List Frame} (st:St C K H E w c a) (hs:EN C H E h stk ms B) (hnd:(rs++B).Nodup) (hx:Hf h K H E w c.hp)
  (hstep:∀(c':Frame) cs' v w',(kU l (EZ (zS fn) s1)).run P w=.ok v w'->step P (lone (Bz (bq g (ak l) (marks rs)) a items) (c'::cs') w)=.next (lone (c'.finish v) cs' w')) :
  agG P C K (QH g stk) φ (lone (Bz (bq g (ak l) (marks rs)) a items) (ms++cs) w) cs:=by
 unfold Qe at hev;split at hev
 ·rename_i l' f s hset
  split at hev
  ·rename_i hlp
   split at hev
   ·rename_i x hpop
    cases hev;obtain ⟨hll,_⟩:=hq;have hll:l=l':=hll;subst hll;obtain ⟨lp,q1,q2,q3,q4,q5⟩:=aa7 hfn hset hs (dY.1 hnd).2.1;have awk:=XV (g0:=g) hset;have hw:=(hx l _ q1).1;have hrun:=run_endRound (P:=P) (EZ (zS fn) s1) hw;rw[hj] at hrun;cases ms with
    |nil=>exact q5.elim |cons mf ms=>
     obtain ⟨rs',B',hB,q6,q7⟩:=q5;have e:({lp with state:=if bb then LoopState.ready else LoopState.done,pending:=EZ (zS fn) s1}:Loop)={lp with state:=JM s1,pending:=EZ (zS fn) s1}:=by rw[hst]
     rw[e] at hrun;have st2:=st.putObj (o':=.loop {lp with state:=JM s1,pending:=EZ (zS fn) s1}) hx q1
     have hx2:=hx.put (o':=.loop {lp with state:=JM s1,pending:=EZ (zS fn) s1}) q1
     obtain ⟨Ov,a',items',p1,p2,p3,p4,p5⟩:=akx q6 hlp hpop (v:=.bool bb) rfl st2;have hm':∀y∈rs',H9 h l (.loop {lp with state:=JM s1,pending:=EZ (zS fn) s1}) y=ak (.deferred (ak [])):=by
      obtain ⟨_,_,_,_,_,_,_,z,_⟩:=q6;exact z
     subst hB;have hB2:QT f=[]:=by simp[QT,hlp]
     rw[hB2,fA] at hnd;have RH:(rs'++B').Nodup:=(dY.1 hnd).2.1;have hs1:=hstep mf (ms++cs) _ _ hrun;rw[p4] at hs1;have:=ih H E _ a' items' rs' B' ms cs Ov _ p1 p2 p3 hm' q7 RH (by rw[p5];exact hx2);rw[show QH g stk=QH f.g Jk from awk.symm];exact this.of (.one hs1)
   ·cases hev
  ·cases hev
 ·cases hev
end
section
variable{P:Program}{C:Ctx}{K:Kx}{H H' Oo H0:Mem}{E E' Oq E1:Env}{w w' w'' w0:World}{h:Hp}
theorem adn{g:Nat}{fn:Func}{body:Code}(hP:P.funcs[g]?=ak fn)(hb:fn.body=ak body)(args:Array Value):
  fM P g args .normal=Bz (bq g aK []) {tmps:=args++dN (fn.ntmps - args.size) undef,defers:=[]} [.code body]:=by
 simp_all [Tv,Ku]
theorem alR(l g:Nat)(tmps:Array Value)(ca cb:Code):wL l g tmps ca cb .normal=Bz (bq g (ak l) []) {tmps,defers:=[]} [.code ca,.beginRound,.code cb]:=by
 rfl
theorem aa9{b:Frame}{p:List Nat}{i:Nat}{rest:List Nat}{k:List It}{fn:Func}{items:List Item}{c:Core}{a:Act}{rid:Nat}{ops:Array Oper}{dr:Bool}{o:Oper}{kk:Call}(st:St C K H E w c a)(hi:BA (zS fn) (.reg p (i::rest)::k) items)
  (hcode:Ai (zS fn) p=.region rid ops dr) (ho:opAt ops.toList i=ak o) (hwant:NG ops.toList c.tm o=.yes) (hop:o.op=.call kk) (cs:List Frame) :
  ∃k',items=.inRegion ops (i::rest)::k'/\BA (zS fn) k k'/\dr=ay/\stepG P aC {frame:=Bz b a (.inRegion ops (i::rest)::k'),callers:=cs,status:=.running,dying:=aK} w=fP P aC (Bz b a (.inRegion ops (i::rest)::k')) cs aK (execOp a.eval o) w:=by
 cases hi with
 |reg p l id ops2 hc hk=>
  rw[hc] at hcode;cases hcode;rename_i k';have ho':ops[i]?=ak o:=by grind [opAt]
  have hw':=Gj (ops:=ops) st.den o;rw[hwant] at hw';refine ⟨k',rfl,hk,rfl,?_⟩;have hg:=stepGR_op (P:=P) (b:=b) (a:=Ry b a) (k:=k') (cs:=cs) (w:=w) (rest:=rest) ho' hw';simp_all [Oper.semAt_eq,Qd,JL]
theorem an4(hC:Az P C)(hF:AU P C){fn:Func}{g:Nat}{r:Option (Nat×Nat)}{td:List It}{c:Core}{stk:List Fw}{x:Nat×Func×List SV}{φ:Sh->Prop}(hfn:C.fns.get g=ak fn)(hr:P8 C fn td c=ak x)
  (ih:Df P C K x.1 aK [.code []] {c with tm:=x.2.2++dL (x.2.1.ntmps - x.2.2.length) .any} ({g,r,td,tm:=c.tm,lp:=aK}::stk) φ):Df P C K g r td c stk φ:=by
 intro H E w a items rs B ms cs fn' h hfn' st hi hm hs hnd hx;rw[hfn] at hfn';cases hfn';unfold P8 at hr;split at hr
 ·rename_i p i rest k
  split at hr
  ·rename_i rid ops dr hcode
   split at hr
   ·rename_i o ho
    split at hr
    ·rename_i hwant
     split at hr
     ·rename_i kk hop
      split at hr
      ·rename_i f ako
       split at hr
       ·rename_i g2 caps hev
        split at hr
        ·cases hr
        ·rename_i hspec
         split at hr
         ·rename_i EF hfn2
          cases hb:(gJ (kk.args.toList.map (AP c.tm)++caps).length EF.ntmps&&EF.body.isSome)<;>simp only[hb,cond_true,cond_false] at hr
          ·cases hr
          cases hr;simp only[aG] at hb;obtain ⟨body2,P9⟩:=eF.1 hb.2;have hP2:=hC.fn g2 EF hfn2;obtain ⟨k',rfl,hk,rfl,hg⟩:=aa9 (P:=P) (b:=bq g (RG r) (marks rs)) (w:=w) st hi hcode ho hwant hop (ms++cs);have df:=Ap (H:=H) (E:=E) st.den f;rw[hev] at df;obtain ⟨vs,ef,hvs⟩:=df;have hargs:=(MP st.den kk.args.toList).append hvs;have hent:=hF.en g2 (.inr (by grind));have hrun:(execOp a.eval o).run P w=.ok (.enter g2 (kk.args.map a.eval++vs)) w:=by
           simp_all [execOp,resolve,jd,invoke,GK]
          have henter:step P (lone (Bz (bq g (RG r) (marks rs)) a (.inRegion ops (i::rest)::k')) (ms++cs) w)=.next (lone (fM P g2 (kk.args.map a.eval++vs) .normal) (Bz (bq g (RG r) (marks rs)) a (.inRegion ops (i::rest)::k')::(ms++cs)) w):=
           step_lone_go (by simp_all [fP,Bz])
          rw[adn hP2 P9] at henter;have hl:=hargs.length;have hlen:(kk.args.map a.eval++vs).size=(kk.args.toList.map (AP c.tm)++caps).length:=by
           simp_all
          have st2:St C K H E w {c with tm:=(kk.args.toList.map (AP c.tm)++caps)++dL (EF.ntmps - (kk.args.toList.map (AP c.tm)++caps).length) .any} {tmps:=(kk.args.map a.eval++vs)++dN (EF.ntmps - (kk.args.map a.eval++vs).size) undef,defers:=[]}:=by
           refine ⟨?_,st.hp,st.Bg,st.free,st.gl,rfl⟩;have:((kk.args.map a.eval++vs)++dN (EF.ntmps - (kk.args.map a.eval++vs).size) undef).toList=(kk.args.toList.map a.eval++vs.toList)++dL (EF.ntmps - (kk.args.toList.map (AP c.tm)++caps).length) undef:=by
            rw[hlen];simp
           simp only[this];exact hargs.append (qj _ _ (by simp))
          have hit2:BA (zS EF) [.code []] [.code body2]:=by
           have:=gB (body:=zS EF) [] pz;simp_all [Ai,zS]
          have hs2:EN C H E h ({g,r,td:=.reg p (i::rest)::k,tm:=c.tm,lp:=aK}::stk) (Bz (bq g (RG r) (marks rs)) a (.inRegion ops (i::rest)::k')::ms) (rs++B):=
           ⟨rs,B,by simp[QT],⟨fn,a,_,hfn,st.den,st.defers,hi,hm,rfl⟩,hs⟩
          exact (ih H E w _ _ [] (rs++B) (_::ms) cs EF h hfn2 st2 hit2 (fun _ hy=>by cases hy) hs2 (by grind) hx).of (.one henter)
         ·cases hr
       ·cases hr
      ·cases hr
     ·cases hr
    ·cases hr
   ·cases hr
  ·cases hr
 ·cases hr
theorem alS{fn:Func}{g:Nat}{r:Option (Nat×Nat)}{td:List It}{c:Core}{stk:List Fw}{l l' d:Nat}{args:List SV}{f:Fw}{p:List Nat}{Ov:Func}{x:Operand}{ps:Array Tmp}{ca cb:Code}{φ:Sh->Prop}(hfn:C.fns.get g=ak fn)(hr:yieldOf fn td c=ak (l,args))
  (hy:yW stk=ak (l',d,f,p)) (hff:C.fns.get f.g=ak Ov) (hcf:Ai (zS Ov) p=.rangeFunc x ps ca cb) (hsz:dQ ps.size args.length=aC) (hll:l=l')
  (ih:Df P C K f.g (ak (l',d)) [.code (0::p),.XE,.code (1::p)] {c with tm:=(ps.toList.zip args).foldl (fun t x=>t.set x.1 x.2) f.tm} ({g,r,td,tm:=c.tm,lp:=aK}::stk) φ):Df P C K g r td c stk φ:=by
 intro H E w a items rs B ms cs fn' h hfn' st hi hm hs hnd hx;rw[hfn] at hfn';cases hfn';subst hll;unfold yieldOf at hr;split at hr
 ·rename_i q i rest k
  split at hr
  ·rename_i rid ops dr hcode
   split at hr
   ·rename_i o ho
    split at hr
    ·rename_i hwant
     split at hr
     ·rename_i kk hop
      split at hr
      ·rename_i fo ako
       split at hr
       ·rename_i l2 xa ya hev
        cases hb:(dQ xa.size 0&&dQ ya.size 0)<;>simp only[hb,cond_true,cond_false] at hr
        ·cases hr
        cases hr;simp only[aG] at hb;obtain rfl:xa=#[]:=mG (fJ hb.1);obtain rfl:ya=#[]:=mG (fJ hb.2);obtain ⟨k',rfl,hk,rfl,hg⟩:=aa9 (P:=P) (b:=bq g (RG r) (marks rs)) (w:=w) st hi hcode ho hwant hop (ms++cs);have df:=Ap (H:=H) (E:=E) st.den fo;rw[hev] at df;have ef:a.eval fo=.func (.yield l) #[] #[]:=by simp_all [Den]
        have hargs:=MP st.den kk.args.toList;obtain ⟨aAb,af,ob,y1,y2,y3,y4,y5⟩:=an3 hy hs;rw[hff] at y1;cases y1;obtain ⟨x',ps',ca',cb',df',e1,rfl⟩:=y4;rw[hcf] at e1;cases e1;have hw:=(hx _ _ y3).1;have hsz2:(kk.args.map a.eval).size=ps.size:=by
         simp_all
        have hrun:(execOp a.eval o).run P w=.ok (.round l f.g ((ps.zip (kk.args.map a.eval)).foldl (fun tmps (t,a)=>tmps.setIfInBounds t a) af.tmps) ca cb) w:=by
         have h1:(execOp a.eval o).run P w=(Instr.yield l (kk.args.map a.eval)).run P w:=by
          simp_all [execOp,resolve,jd,invoke]
         simp_all [run_yield]
        have aky:step P (lone (Bz (bq g (RG r) (marks rs)) a (.inRegion ops (i::rest)::k')) (ms++cs) w)=.next (lone (wL l f.g ((ps.zip (kk.args.map a.eval)).foldl (fun tmps (t,a)=>tmps.setIfInBounds t a) af.tmps) ca cb .normal) (Bz (bq g (RG r) (marks rs)) a (.inRegion ops (i::rest)::k')::(ms++cs)) w):=
         step_lone_go (by simp_all [fP])
        rw[alR] at aky;have hfold:zO H E ((ps.toList.zip (kk.args.toList.map (AP c.tm))).foldl (fun t x=>t.set x.1 x.2) f.tm) ((ps.zip (kk.args.map a.eval)).foldl (fun tmps (t,a)=>tmps.setIfInBounds t a) af.tmps).toList:=by
         have e:(ps.zip (kk.args.map a.eval)).foldl (fun tmps (t,a)=>tmps.setIfInBounds t a) af.tmps=(ps.toList.zip (kk.args.toList.map a.eval)).foldl (fun ts x=>ts.setIfInBounds x.1 x.2) af.tmps:=by
          rw[<-Array.foldl_toList];simp
         rw[e];refine aa8 y2 (fun j u v hu hv=>?_) (by simp);rw[List.getElem?_zip_eq_some] at hu hv;obtain ⟨u1,u2⟩:=hu;obtain ⟨v1,v2⟩:=hv;rw[u1] at v1;refine ⟨dw v1,?_⟩;obtain ⟨vv,w1,w2⟩:=hargs.get u2;simp_all
        have st2:St C K H E w {c with tm:=(ps.toList.zip (kk.args.toList.map (AP c.tm))).foldl (fun t x=>t.set x.1 x.2) f.tm} {tmps:=(ps.zip (kk.args.map a.eval)).foldl (fun tmps (t,a)=>tmps.setIfInBounds t a) af.tmps,defers:=[]}:=
         ⟨hfold,st.hp,st.Bg,st.free,st.gl,rfl⟩
        have hit2:BA (zS Ov) [.code (0::p),.XE,.code (1::p)] [.code ca,.beginRound,.code cb]:=by
         have h0:Ai (zS Ov) (0::p)=ca:=by simp[Ai,hcf,child]
         have h1:Ai (zS Ov) (1::p)=cb:=by simp[Ai,hcf,child]
         have:=gB (body:=zS Ov) (0::p) (.XE (.code (1::p) .nil));simp_all
        have hs2:EN C H E h ({g,r,td:=.reg q (i::rest)::k,tm:=c.tm,lp:=aK}::stk) (Bz (bq g (RG r) (marks rs)) a (.inRegion ops (i::rest)::k')::ms) (rs++B):=
         ⟨rs,B,by simp[QT],⟨fn,a,_,hfn,st.den,st.defers,hi,hm,rfl⟩,hs⟩
        exact (ih H E w _ _ [] (rs++B) (_::ms) cs Ov h hff st2 hit2 (fun _ hy=>by cases hy) hs2 (by grind) hx).of (.one aky)
       ·cases hr
      ·cases hr
     ·cases hr
    ·cases hr
   ·cases hr
  ·cases hr
 ·cases hr
theorem arN(hC:Az P C)(hF:AU P C){fn:Func}{g g':Nat}{r r':Option (Nat×Nat)}{td Fj:List It}{c c':Core}{stk Jk:List Fw}{q:List AQ}{φ:Sh->Prop}(hfn:C.fns.get g=ak fn)
  (hev:evW C fn g r td c stk=.next g' r' Fj c' Jk q) (hq:cu q) (ih:Df P C K g' r' Fj c' Jk φ):Df P C K g r td c stk φ:=by
 unfold evW at hev;split at hev
 ·split at hev
  ·cases hev
  ·rename_i l d
   intro H E w a items rs B ms cs fn' h hfn' st hi hm hs hnd hx;rw[hfn] at hfn';cases hfn';cases hi;exact UZ hfn hev hq ih rfl rfl st hs hnd hx fun c' cs' v w' hrun=>acG rfl rfl hrun
 ·rename_i k
  split at hev
  ·cases hev
  ·rename_i l d
   split at hev
   ·rename_i l' s hset
    cases hev;obtain ⟨hll,_⟩:=hq;have hll:l=l':=hll;subst hll;intro H E w a items rs B ms cs fn' h hfn' st hi hm hs hnd hx;rw[hfn] at hfn';cases hfn';cases hi with
    |XE hk=>
     rename_i k';obtain ⟨lp,q1,q2,q3,q4,q5⟩:=aa7 hfn hset hs (dY.1 hnd).2.1;have hw:=(hx _ _ q1).1;have hrun:=run_beginRound (P:=P) hw q2;have e:({lp with state:=LoopState.busy}:Loop)={lp with state:=JM .busy,pending:=EZ (zS fn) .busy}:=by
      cases lp;simp only at q3;subst q3;rfl
     rw[e] at hrun;have hs1:=aa4 (P:=P) (b:=bq g (ak l) (marks rs)) (a:=a) (k:=k') (cs:=ms++cs) rfl hrun;have hno:l ∉ rs:=fun hmm=>(dY.1 hnd).2.2 l hmm l q4 rfl;have:=ih H E _ a k' rs B ms cs fn _ hfn (st.putObj (o':=.loop {lp with state:=JM .busy,pending:=EZ (zS fn) .busy}) hx q1) hk (fun y hy=>by
      grind [ED]) q5 hnd (hx.put q1)
     rw[XV hset] at this;exact this.of (.one hs1)
   ·cases hev
 ·rename_i p k
  split at hev
  ·cases hev
  ·rename_i hret
   split at hev
   ·cases hev
   ·rename_i l d
    intro H E w a items rs B ms cs fn' h hfn' st hi hm hs hnd hx;rw[hfn] at hfn';cases hfn';have WQ:∃k',items=.code .ret::k':=by
     cases hi with
     |code p hk=>simp_all |loop p y hl hk=>simp_all
    obtain ⟨k',rfl⟩:=WQ;refine UZ hfn hev hq ih rfl rfl st hs hnd hx fun c' cs' v w' hrun=>?_
    simp only[EZ,hret] at hrun;exact acH rfl rfl hrun
  ·rename_i id atM
   split at hev
   ·cases hev
   ·rename_i l d
    split at hev
    ·cases hev
    ·rename_i hno
     intro H E w a items rs B ms cs fn' h hfn' st hi hm hs hnd hx;rw[hfn] at hfn';cases hfn';have WQ:∃k',items=.code (.exit id)::k'/\BA (zS fn) k k':=by
      cases hi with
      |code p hk=>simp_all |loop p y hl hk=>simp_all
     obtain ⟨k',rfl,hk⟩:=WQ;refine UZ hfn hev hq ih rfl rfl st hs hnd hx fun c' cs' v w' hrun=>?_
     simp only[EZ,atM] at hrun;exact aa5 rfl rfl (aiX hk hno) hrun
  ·cases hev
 ·rename_i p i rest k
  split at hev
  ·rename_i l args hy
   split at hev
   ·rename_i l' d f pf hyw
    split at hev
    ·rename_i Ov hff
     split at hev
     ·rename_i x ps ca cb hcf
      cases hb:dQ ps.size args.length<;>simp only[hb,cond_true,cond_false] at hev
      ·cases hev
      ·cases hev
       exact alS hfn hy hyw hff hcf hb hq.1 ih
     ·cases hev
    ·cases hev
   ·cases hev
  grind [an4]
 ·cases hev
end
section
variable{P:Program}{C:Ctx}{K:Kx}{H H' Oo H0:Mem}{E E' Oq E1:Env}{w w' w'' w0:World}{h:Hp}
theorem agH{fn:Func}{g:Nat}{r:Option (Nat×Nat)}{td:List It}{c:Core}{stk:List Fw}(hev:evW C fn g r td c stk=.plain):r=aK\/endsB fn td=ay:=by
 cases r with
 |none=>simp |some x=>
  right;obtain ⟨l,d⟩:=x;unfold evW at hev;split at hev
  ·grind [Qe]
  ·rfl
  ·grind [endsB,Qe]
  ·rfl
  ·rename_i hne1 hne2 awl aAc
   unfold endsB;split
   ·exact (hne1 rfl).elim
   ·exact (awl _ _ rfl).elim
   ·rfl
theorem MV(hC:Az P C)(hF:AU P C)(hN:∀g fn,C.fns.get g=ak fn->Dw (zS fn)=aC){pause:Nat->List It->Bool}{m:Nat}{φ:Sh->Prop}:∀{n g:Nat} {r:Option (Nat×Nat)} {td:List It} {c:Core} {stk:List Fw},
  (aa6 C pause m n g r td c stk).All (arL P C (K0 H0 w0) φ)->Df P C (K0 H0 w0) g r td c stk φ
 |0,g,r,td,c,stk,h=>h |n+1,g,r,td,c,stk,h=>by
  intro H E w a items rs B ms cs fn hp hfn st hi hm hs hnd hx;simp only[aa6,hfn] at h;cases hpz:pause g td<;>simp only[hpz,cond_true,cond_false] at h
  rotate_left
  ·exact h H E w a items rs B ms cs fn hp hfn st hi hm hs hnd hx
  split at h
  ·exact h.elim
  ·exact h H E w a items rs B ms cs fn hp hfn st hi hm hs hnd hx
  ·rename_i hev
   obtain ⟨hq,h⟩:=aiV h;exact arN hC hF hfn hev hq (MV hC hF hN h) H E w a items rs B ms cs fn hp hfn st hi hm hs hnd hx
  ·rename_i hev
   have hK:=Tm (K:=QO H E w c.hp) hC hF (Tn hC hF m);obtain ⟨sig,h1,h2⟩:=alQ hC hF hK (hN g fn hfn) (dX h) st.re hi (bq g (RG r) (marks rs)) (ms++cs) (by
    rcases agH hev with e|e
    ·left;rw[e];rfl
    grind)
   cases sig with
   |go Fj c'=>
    obtain ⟨a',w',H',E',items',q1,q2,q3,q4⟩:=h2;exact (MV hC hF hN h1 H' E' w' a' items' rs B ms cs fn hp hfn (st.un q2) q4 hm (hs.le q3.H7 q3.Ll) hnd (hx.keep st q2)).of q1
   |halt Fj c'=>
    obtain ⟨a',w',H',E',items',q1,q2,q3,q4⟩:=h2;exact (h1 H' E' w' a' items' rs B ms cs fn hp hfn (st.un q2) q4 hm (hs.le q3.H7 q3.Ll) hnd (hx.keep st q2)).of q1
   |done sv c'=>
    obtain ⟨a',w',H',E',todo,q1,q2,q3,q5⟩:=h2;cases r with
    |some _=>exact h1.elim |none=>
    have st':=st.un q2;obtain ⟨w2,hp2,c1,st2,hx2,hs2⟩:=collects g todo (ms++cs) st' (hx.keep st q2) hm (hs.le q3.H7 q3.Ll) hnd;obtain ⟨v,q4,q6⟩:=q5 _ _ st2;have q1':Steps P (lone (Bz (bq g (RG aK) (marks rs)) a items) (ms++cs) w) (lone {(base g).at a' todo with mode:=.returning} (ms++cs) w2):=q1.trans c1
    cases stk with
    |nil=>
     cases ms with
     |cons _ _=>exact hs.elim |nil=>
      obtain ⟨s,e1,e2⟩:=h1;obtain ⟨H2,r2⟩:=P6 st2 e1 q4;exact ⟨a',w2,v,s,H2,todo,fn,hfn,q1',st2.defers,e2,r2,q6⟩
    |cons f stk=>
     cases ms with
     |nil=>exact hs.elim |cons mf ms=>
      have hleave:step P (lone {(base g).at a' todo with mode:=.returning} (mf::(ms++cs)) w2)=.next (lone (mf.finish v) (ms++cs) w2):=
       step_leave_returned ⟨rfl,st2.defers,rfl,fn,hC.fn g fn hfn,q6⟩
      obtain ⟨rs',B',hB,p1,p2⟩:=hs2;subst hB;have hm':∀y∈rs',hp2 y=ak (.deferred (ak [])):=by
       obtain ⟨_,_,_,_,_,_,_,z,_⟩:=p1;exact z
      have RH:=(dY.1 hnd).2.1;simp only at h1;split at h1
      ·rename_i hlp
       split at h1
       ·rename_i x hpop
        obtain ⟨Ov,a2,ZO,g1,g2,g3,g4,g5⟩:=akx p1 hlp hpop q4 st2;rw[g4] at hleave;have hB2:QT f=[]:=by simp[QT,hlp]
        rw[hB2,fA] at RH;exact (MV hC hF hN h1 H' E' w2 a2 ZO rs' B' ms cs Ov hp2 g1 g2 g3 hm' p2 RH (by simp_all)).of (q1'.trans (.one hleave))
       ·exact h1.elim
      ·rename_i l p s hlp
       cases hbz:akw s<;>simp only[hbz,cond_true,cond_false] at h1
       rotate_left
       ·exact h1.elim
       obtain ⟨Ov,a2,ZO,g1,g2,g3,g4,g5,g6⟩:=p1;rw[hlp] at g6;obtain ⟨g7,o,g8,g9⟩:=g6;obtain ⟨lp,rfl,r1,r2,_⟩:=g9.loop;have hw:=(hx2 _ _ g8).1;have hrun:=run_endLoop (P:=P) hw (by rw[r1];cases s<;>simp[JM] at hbz ⊢;cases hbz)
       subst g7;rw[Zu] at hleave;have hend:=aeI (b:=bq f.g (RG f.r) (marks rs')) (a:=a2) (k:=ZO) (cs:=ms++cs) hrun;have hB2:QT f=[l]:=by simp[QT,hlp]
       rw[hB2] at RH;have hl1:l ∉ rs':=fun hmm=>(dY.1 (dY.1 RH).1).2.2 l hmm l (by simp) rfl;have hl2:l ∉ B':=fun hmm=>(dY.1 RH).2.2 l (by simp) l hmm rfl;have awm:(rs'++B').Nodup:=by
        grind
       have st3:=st2.putObj (o':=.loop {lp with state:=.exhausted}) hx2 g8
       have st4:St C (K0 H0 w0) H' E' (w2.putObj l (.loop {lp with state:=.exhausted})) {c' with tm:=f.tm} a2:=⟨g2,st3.hp,st3.Bg,st3.free,st3.gl,g3⟩
       have hit:BA (zS Ov) (akv f s) ((lp.pending.map yU).toList++ZO):=by
        rw[r2];cases s with
        |done q=>exact .code q g4 |ready=>exact g4 |busy=>exact g4
       exact (MV hC hF hN h1 H' E' _ a2 _ rs' B' ms cs Ov _ g1 st4 hit (fun y hy=>by grind [ED]) (p2.put hl2) awm (hx2.put g8)).of ((q1'.trans (.one hleave)).trans (.one hend))
theorem Qg(hC:Az P C)(hF:AU P C){fn EF:Func}{g g2:Nat}{p:List Nat}{k:List It}{c:Core}{stk:List Fw}{x:Operand}{ps:Array Tmp}{ca cb:Code}{caps:List SV}{φ:Sh->Prop}(hfn:C.fns.get g=ak fn)
  (hcode:Ai (zS fn) p=.rangeFunc x ps ca cb) (hx:AP c.tm x=.fn g2 caps) (hfn2:C.fns.get g2=ak EF) (hb:(gJ (1+caps.length) EF.ntmps&&EF.body.isSome)=aC)
  (ih:∀l,Df P C K g2 aK [.code []] {c with tm:=(.val (yv l)::caps)++dL (EF.ntmps - (1+caps.length)) .any} ({g,r:=aK,td:=k,tm:=c.tm,lp:=ak (l,p,.ready)}::stk) φ):Df P C K g aK (.code p::k) c stk φ:=by
 intro H E w a items rs B ms cs fn' h hfn' st hi hm hs hnd hxt;rw[hfn] at hfn';cases hfn';simp only[aG] at hb;obtain ⟨body2,P9⟩:=eF.1 hb.2;have hP2:=hC.fn g2 EF hfn2;have WQ:∃k',items=.code (.rangeFunc x ps ca cb)::k'/\BA (zS fn) k k':=by
  cases hi with
  |code p hk=>simp_all |loop p y hl hk=>simp_all
 obtain ⟨k',rfl,hk⟩:=WQ;have df:=Ap (H:=H) (E:=E) st.den x;rw[hx] at df;obtain ⟨vs,ef,hvs⟩:=df;have hent:=hF.en g2 (.inr (by grind));let ob:Obj:=.loop {state:=.ready,pending:=aK,fn:=g,tmps:=a.tmps,params:=ps,assign:=ca,body:=cb,defers:=w.heap.size}
 let w2:World:=(w.alloc (.deferred (ak []))).alloc ob
 have he:(Instr.enterLoop g a.tmps ps ca cb aK).run P w=.ok (w.heap.size+1,[{target:=.collected w.heap.size,args:=#[]}]) w2:=run_enterLoop_outer g a.tmps ps ca cb;have hstep:step P (lone (Bz (bq g aK (marks rs)) a (.code (.rangeFunc x ps ca cb)::k')) (ms++cs) w) =
   .next (lone (fM P g2 (#[yv (w.heap.size+1)]++vs) .normal) (Bz (bq g aK (marks (w.heap.size::rs))) a (.inRangeFunc (w.heap.size+1)::k')::(ms++cs)) w2):=by
  have h0:=stepR_rangeFunc (P:=P) (b:=bq g aK (marks rs)) (a:=Ry (bq g aK (marks rs)) a) (k:=k') (cs:=ms++cs) (w:=w) (g:=x) (ps:=ps) (assign:=ca) (body:=cb) (l:=w.heap.size+1) (mark:=[{target:=.collected w.heap.size,args:=#[]}])
   (w₁:=w2) (w₁':=w2) (w₂:=w2) (d:={target:=.fn (.func g2) vs,args:=#[yv (w.heap.size+1)]}) (f:=g2) (args:=#[yv (w.heap.size+1)]++vs) he
   (by rw[Qd];simp[resolve,jd,ef,yv,show ∀v,a.eval (.const v)=v from fun _=>rfl]) (by simp[invoke,GK hent])
  rw[JL,h0];simp[Bz,Frame.atR,Ry,bq,marks,st.defers]
 rw[adn hP2 P9] at hstep;have hl:=hvs.length;have st1:=(st.XU (.deferred (ak []))).XU ob;have hx1:=(hxt.alloc st (.deferred (ak []))).alloc (st.XU _) ob;have hsz:(w.alloc (.deferred (ak []))).heap.size=w.heap.size+1:=World.size_alloc ..;rw[hsz] at hx1;have hB:∀y∈rs++B,y<w.heap.size:=fun y hy=>by
  have:∃o,h y=ak o:=by
   rcases cZ.1 hy with hy|hy
   ·simp_all
   ·exact hs.has y hy
  obtain ⟨o,ho⟩:=this;exact (Array.getElem?_eq_some_iff.1 (hxt y o ho).1).1
 have hold:∀y,y<w.heap.size->H9 (H9 h w.heap.size (.deferred (ak []))) (w.heap.size+1) ob y=h y:=fun y hy=>by
  grind [ED]
 have hs1:EN C H E (H9 (H9 h w.heap.size (.deferred (ak []))) (w.heap.size+1) ob) stk ms B:=
  (hs.put (fun hm=>by have:=hB _ (kR _ hm);omega)).put (fun hm=>by have:=hB _ (kR _ hm);omega)
 have st2:St C K H E w2 {c with tm:=(.val (yv (w.heap.size+1))::caps)++dL (EF.ntmps - (1+caps.length)) .any} {tmps:=(#[yv (w.heap.size+1)]++vs)++dN (EF.ntmps - (#[yv (w.heap.size+1)]++vs).size) undef,defers:=[]}:=by
  refine ⟨?_,st1.hp,st1.Bg,st1.free,st1.gl,rfl⟩;have:((#[yv (w.heap.size+1)]++vs)++dN (EF.ntmps - (#[yv (w.heap.size+1)]++vs).size) undef).toList=(yv (w.heap.size+1)::vs.toList)++dL (EF.ntmps - (1+caps.length)) undef:=by
   simp_all
  simp only[this];exact zO.append (l:=.val (yv (w.heap.size+1))::caps) (vs:=yv (w.heap.size+1)::vs.toList) ⟨⟨rfl,rfl⟩,hvs⟩ (qj _ _ (by simp))
 have hit2:BA (zS EF) [.code []] [.code body2]:=by
  have:=gB (body:=zS EF) [] pz;simp_all [Ai,zS]
 have hs2:EN C H E (H9 (H9 h w.heap.size (.deferred (ak []))) (w.heap.size+1) ob) ({g,r:=aK,td:=k,tm:=c.tm,lp:=ak (w.heap.size+1,p,.ready)}::stk) (Bz (bq g aK (marks (w.heap.size::rs))) a (.inRangeFunc (w.heap.size+1)::k')::ms) ((w.heap.size::rs)++[w.heap.size+1]++B):=by
  refine ⟨w.heap.size::rs,B,by simp[QT],⟨fn,a,k',hfn,st.den,st.defers,hk,fun y hy=>?_,?_⟩,hs1⟩
  ·rcases List.mem_cons.1 hy with rfl|hy
   ·rw[ED (by omega),MS]
   ·rw[hold y (hB y (List.mem_append_left _ hy))];exact hm y hy
  ·exact ⟨rfl,ob,MS,x,ps,ca,cb,w.heap.size,hcode,rfl⟩
 have RH:(([]:List Nat)++((w.heap.size::rs)++[w.heap.size+1]++B)).Nodup:=by
  grind
 exact (ih (w.heap.size+1) H E w2 _ _ [] _ (_::ms) cs EF _ hfn2 st2 hit2 (fun _ hy=>by cases hy) hs2 RH hx1).of (.one hstep)
end
structure MW where
 g:Nat
 r:Option (Nat×Nat)
 td:List It
 c:Core
 stk:List Fw
def qRO:Option (Nat×Nat)->Option (Nat×Nat)->Option (List AQ)
 |none,aK=>ak [] |some (l,d),ak (l',d')=>BQ (dQ d d') (ak [.nat l l']) |_,_=>aK
def an5:Ox->Ox->Bool
 | .ready,.ready=>aC | .busy,.busy=>aC | .done p,.done q=>p==q |_,_=>ay
def an6:Option (Nat×List Nat×Ox)->Option (Nat×List Nat×Ox)->Option (List AQ)
 |none,aK=>ak [] |some (l,p,s),ak (l',p',s')=>BQ (p==p'&&an5 s s') (ak [.nat l l']) |_,_=>aK
def XW(hp:List (Nat×SB))(ρ:List (Nat×Rn)):List Fw->List Fw->Option (List AQ)
 |[],[]=>ak [] |f::s,f'::s'=>BQ (f.g==f'.g&&IC f.td f'.td) (Em (qRO f.r f'.r) (Em (an6 f.lp f'.lp) (Em (qL hp ρ f.tm f'.tm) (XW hp ρ s s')))) |_,_=>aK
def XY:List Fw->List Fw->Bool
 |[],[]=>aC |f::s,f'::s'=>f.g==f'.g&&IC f.td f'.td&&(f.r.isSome==f'.r.isSome)&&(f.lp.isSome==f'.lp.isSome)&&XY s s' |_,_=>ay
def an7:List Fw->List Fw->List (Nat×Rn)
 |f::s,f'::s'=>MR f.tm f'.tm++an7 s s' |_,_=>[]
def MW.rn(t:MW)(c:Core)(stk:List Fw):List (Nat×Rn):=infer t.c.hp c.hp 4000 (MR t.c.tm c.tm++an7 t.stk stk) []
def WR(g:Nat)(r:Option (Nat×Nat))(td:List It)(c:Core)(stk:List Fw):Nat->List MW->Tree DF
 |_,[]=>.fail |k,t::ts=>bif g==t.g&&IC td t.td&&XY stk t.stk then match Em (qRO r t.r) (Em (qC (t.rn c stk) c t.c) (XW c.hp (t.rn c stk) stk t.stk)) with
   |some l=>.leaf (.at_ k l) |none=>WR g r td c stk (k+1) ts
  else WR g r td c stk (k+1) ts
def an8(ts:List MW):an1->Tree DF
 | .fin v c=>match finish c v with
  |some s=>.leaf (.ret s) |none=>.fail
 | .stop g r td c stk=>WR g r td c stk 0 ts
def agI(C:Ctx)(pause:Nat->List It->Bool)(m n g:Nat)(r:Option (Nat×Nat))(td:List It)(c:Core)(stk:List Fw)(ts:List MW):Tree DF:=(aa6 C pause m n g r td c stk).bind (an8 ts)
def aiY(P:Program)(C:Ctx)(K:Kx)(ts:List MW)(φ:Sh->Prop):DF->Prop
 | .ret s=>φ s | .at_ k l=>cu l/\∃t,ts[k]?=ak t/\Df P C K t.g t.r t.td t.c t.stk φ
@[irreducible] def Qh (ψ:DF->Prop) (t:Tree DF):Prop:=t.All ψ
theorem JO(ψ:DF->Prop)(t:Tree DF):Qh ψ t=t.All ψ:=by unfold Qh;rfl
def FP:Nat->List It->Bool:=fun _ _=>ay
def NP:BT Func->Bool:=BT.allB fun _ fn=>Dw (zS fn)
section
variable{P:Program}{C:Ctx}{K:Kx}{H H' Oo H0:Mem}{E E' Oq E1:Env}{w w' w'' w0:World}{h:Hp}
theorem agJ(hx:NP C.fns=aC):∀g fn,C.fns.get g=ak fn->Dw (zS fn)=aC:=fun _ _ hg=>(BT.SX hx).get hg
theorem akz{r r':Option (Nat×Nat)}{q:List AQ}(hx:qRO r r'=ak q)(ha:cu q):r=r':=by
 unfold qRO at hx;split at hx
 ·rfl
 ·obtain ⟨h1,h2⟩:=Ah hx
  cases h2;have h3:_=_:=ha.1;simp_all
 ·cases hx
theorem an9{s t:Ox}(hx:an5 s t=aC):s=t:=by
 cases s<;>cases t<;>simp[an5] at hx<;>simp_all
theorem aoa{r r':Option (Nat×List Nat×Ox)}{q:List AQ}(hx:an6 r r'=ak q)(ha:cu q):r=r':=by
 unfold an6 at hx;split at hx
 ·rfl
 ·obtain ⟨h1,h2⟩:=Ah hx
  cases h2;simp only[aG,beq_iff_eq] at h1;have h3:_=_:=ha.1;grind [an9]
 ·cases hx
def WS(hp:List (Nat×SB))(ρ:List (Nat×Rn)):List Fw->List Fw->Prop
 |[],[]=>True |f::s,f'::s'=>f.g=f'.g/\f.td=f'.td/\f.r=f'.r/\f.lp=f'.lp/\leL hp ρ f.tm f'.tm/\WS hp ρ s s' |_,_=>False
theorem ado{hp:List (Nat×SB)}{ρ:List (Nat×Rn)}:∀{s s':List Fw} {q:List AQ},XW hp ρ s s'=ak q->cu q->WS hp ρ s s'
 |[],[],_,_,_=>trivial |f::s,f'::s',q,hx,ha=>by
  simp only[XW] at hx;obtain ⟨h1,h2⟩:=Ah hx;obtain ⟨a,b,h3,h4,rfl⟩:=AZ h2;obtain ⟨a2,b2,h5,h6,rfl⟩:=AZ h4;obtain ⟨a3,b3,h7,h8,rfl⟩:=AZ h6;simp only[aG,beq_iff_eq] at h1;have e1:=dV ha;have e2:=dV e1.2;have e3:=dV e2.2;exact ⟨h1.1,L6 h1.2,akz h3 e1.1,aoa h5 e2.1,Ot _ h7 e3.1,ado h8 e3.2⟩
 |[],_::_,_,hx,_=>by simp[XW] at hx |_::_,[],_,hx,_=>by simp[XW] at hx
theorem EN.weak{hp:List (Nat×SB)}{ρ:List (Nat×Rn)}(hh:zU K H E w hp):∀{s s':List Fw} {ms:List Frame} {B:List Nat},EN C H E h s ms B->WS hp ρ s s'->EN C H (ER ρ E) h s' ms B
 |[],[],[],_,x,_=>x |⟨g,r,td,tm,lp⟩::s,⟨g',r',Fj,tm',lp'⟩::s',m::ms,B,⟨rs,B',hB,⟨fn,a,items,h1,h2,h3⟩,h6⟩,⟨e1,e2,e3,e4,e5,e6⟩=>by
  simp only at e1 e2 e3 e4 e5;subst e1 e2 e3 e4;exact ⟨rs,B',hB,⟨fn,a,items,h1,Ii hh _ e5 h2,h3⟩,EN.weak hh h6 e6⟩
 |[],[],_::_,_,x,_=>x.elim |_::_,_,[],_,x,_=>x.elim |[],_::_,_,_,_,x=>x.elim |_::_,[],_::_,_,_,x=>x.elim
theorem agK{hp:List (Nat×SB)}{ρ:List (Nat×Rn)}:∀{s s':List Fw} {g:Nat},WS hp ρ s s'->QH g s'=QH g s
 |[],[],_,_=>rfl |f::s,f'::s',_,⟨e1,_,_,_,_,e4⟩=>by simp only[QH];rw[e1];exact agK e4 |[],_::_,_,h=>h.elim |_::_,[],_,h=>h.elim
theorem agL{g:Nat}{r:Option (Nat×Nat)}{td:List It}{c c':Core}{stk Jk:List Fw}{φ:Sh->Prop}(ρ:List (Nat×Rn))(hle:leC ρ c c')(hs:WS c.hp ρ stk Jk)(hg:Df P C K g r td c' Jk φ):Df P C K g r td c stk φ:=by
 intro H E w a items rs B ms cs fn h hfn st hi hm hst hnd hx;have:=hg H (ER ρ E) w a items rs B ms cs fn h hfn (st.weak hle) hi hm (hst.weak st.hp hs) hnd (hx.weak st hle);grind [agK]
theorem U0{φ:Sh->Prop}{ts:List MW}{g:Nat}{r:Option (Nat×Nat)}{td:List It}{c:Core}{stk:List Fw}:∀{rs:List MW} {k:Nat},(∀j,rs[j]?=ts[k+j]?)->(WR g r td c stk k rs).All (aiY P C K ts φ)->Df P C K g r td c stk φ
 |[],_,_,hx=>hx.elim |t::rs,k,hk,hx=>by
  have hr:∀j,rs[j]?=ts[k+1+j]?:=fun j=>by have:=hk (j+1);grind
  unfold WR at hx;cases hb:(g==t.g&&IC td t.td&&XY stk t.stk)<;>simp only[hb,cond_true,cond_false] at hx
  ·exact U0 hr hx
  ·simp only[aG,beq_iff_eq] at hb
   obtain ⟨⟨h1,h2⟩,h3⟩:=hb;split at hx
   ·rename_i l hl
    obtain ⟨a0,b0,q0,q00,rfl⟩:=AZ hl;obtain ⟨a,b,q1,q2,rfl⟩:=AZ q00;obtain ⟨hl,t',ht,hg⟩:=hx;have:=hk 0;simp only[List.getElem?_cons_zero,Nat.add_zero] at this;rw[<-this] at ht;cases ht;have h2:=L6 h2;subst h1 h2;have e1:=dV hl;have e2:=dV e1.2;have hrr:=akz q0 e1.1;subst hrr;exact agL (t.rn c stk) (aiM q1 e2.1) (ado q2 e2.2) hg
   ·exact U0 hr hx
theorem E5(hC:Az P C)(hF:AU P C)(hN:NP C.fns=aC){pause:Nat->List It->Bool}{m n g:Nat}{r:Option (Nat×Nat)}{td:List It}{c:Core}{stk:List Fw}{ts:List MW}{φ:Sh->Prop}
  (hx:Qh (aiY P C (K0 H0 w0) ts φ) (agI C pause m n g r td c stk ts)):Df P C (K0 H0 w0) g r td c stk φ:=by
 rw[JO] at hx;refine MV hC hF (agJ hN) (pause:=pause) (m:=m) (n:=n) ((dX hx).mono fun o ho=>?_);cases o with
 |fin v c=>
  simp only[an8] at ho;split at ho
  ·rename_i s hs
   exact ⟨s,hs,ho⟩
  ·exact ho.elim
 |stop g r td c stk=>exact U0 (k:=0) (fun j=>by simp) ho
theorem NQ{fn:Func}{g:Nat}{r:Option (Nat×Nat)}{td tb:List It}{c:Core}{stk:List Fw}{φ:Sh->Prop}(hfn:C.fns.get g=ak fn)(hx:ZK fn td=ak tb)(hg:Df P C K g r tb c stk φ):Df P C K g r td c stk φ:=by
 unfold ZK at hx;split at hx
 ·rename_i p k
  cases hb:WB (Ai (zS fn) p)<;>simp only[hb,cond_true,cond_false] at hx
  ·cases hx
  ·cases hx
   unfold WB at hb;split at hb
   ·rename_i x he
    intro H E w a items rs B ms cs fn' h hfn' st hi hm hst hnd hxt;rw[hfn] at hfn';cases hfn';have h0:Ai (zS fn) (0::p)=x:=by simp[Ai,he,child]
    cases hi with
    |code p hk=>
     have:=gB (0::p) (nU p x he hk);rw[h0] at this;rw[he];exact (hg H E w a _ rs B ms cs fn h hfn st this hm hst hnd hxt).of (.one agC)
    |loop p y hl hk=>
     rw[he] at hl;cases hl;have:=gB (0::p) (nU p x he hk);rw[h0] at this;exact (hg H E w a _ rs B ms cs fn h hfn st this hm hst hnd hxt).of (.one aa2)
   ·cases hb
 ·cases hx
theorem arP(hC:Az P C){g:Nat}{fn:Func}{F:List Sh->Tree Sh}(hfn:C.fns.get g=ak fn)(hb:fn.body.isSome=aC)
  (h:∀(H:Mem) (w:World) (Aq:List Sh) (args:List Value) (φ:Sh->Prop),CU H Aq args->(F Aq).All φ->∃C9:List Sh,CU H C9 args/\∃L,Df P C (K0 H w) g aK [.code []] (zL fn.ntmps C9 L) [] φ):zZ P C.gls g F:=by
 refine J8 hC hfn hb fun H w Aq args φ hr hφ=>?_
 obtain ⟨C9,hr',L,hgo⟩:=h H w Aq args φ hr hφ;refine ⟨C9,hr',L,fun H1 E w1 a items ms cs fn1 aob st hi hs hx=>?_⟩;cases ms with
 |cons _ _=>exact hs.elim |nil=>
  have:=hgo H1 E w1 a items [] [] [] cs fn1 (fun _=>aK) aob st hi (fun _ hy=>by cases hy) rfl (by simp) (fun b o e=>by cases e);obtain ⟨a',w',v,s,H',todo,fn0,q1,q2,q3⟩:=this;refine ⟨a',w',v,s,H',todo,fn0,q1,?_,q3⟩;have e:(base g).at a items=Bz (bq g (RG aK) (marks [])) a items:=(Tv g a items).symm;rw[e];exact q2
end
end Go.Sx
