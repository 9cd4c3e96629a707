/- Own work. -/
import Derived.Test.YtldllpmodnbbiaaGreatDoorP05
open Int (ofNat)
open Array renaming replicate->dX,eq_empty_of_size_eq_zero->mM
open Bool renaming false->aA,true->ay,and_eq_true->aB
open Go.Deferred renaming ofValue->jL
open Go.Frame renaming enter->gX,round->xQ
open Go.Sx.AP renaming any->zi
open Go.Sx.BL renaming all->bZ,EO->dV
open Go.Sx.Dp renaming code->gu,nil->tN,loop->nT
open Go.Sx.Tree renaming Gx->dZ
open Go.stepG renaming apply->fV
open List renaming replicate->dD,nodup_append->dY,mem_append_right->qg
open Nat renaming ble->gy,beq->dK,eq_of_beq_eq_true->gU
open Option renaming some->aj,none->aF,isSome_iff_exists->dO
open Option.some renaming inj->bP
namespace Go.Sx
section
variable{P:Program}{C:Ctx}{K:Kx}{H H' RG H0:Mem}{E E' RH E1:Env}{w w' w'' w0:World}{h:Hp}
theorem agT{g:Nat}{fn:Func}{body:Code}(hP:P.funcs[g]?=aj fn)(hb:fn.body=aj body)(args:Array Value):
  gX P g args .normal=Dc (bq g aF []) {tmps:=args++dX (fn.ntmps - args.size) undef,defers:=[]} [.code body]:=by
 simp_all [Ws,Qp]
theorem aq1(l g:Nat)(tmps:Array Value)(ca cb:Code):xQ l g tmps ca cb .normal=Dc (bq g (aj l) []) {tmps,defers:=[]} [.code ca,.beginRound,.code cb]:=by
 rfl
theorem adX{b:Frame}{p:List Nat}{i:Nat}{rest:List Nat}{k:List It}{fn:Func}{items:List Item}{c:Core}{a:Act}{rid:Nat}{ops:Array Oper}{dr:Bool}{o:Oper}{kk:Call}(st:St C K H E w c a)(hi:Dp (AU fn) (.reg p (i::rest)::k) items)
  (hcode:BA (AU fn) p=.region rid ops dr) (ho:opAt ops.toList i=aj o) (hwant:Qm ops.toList c.tm o=.yes) (hop:o.op=.call kk) (cs:List Frame) :
  ∃k',items=.inRegion ops (i::rest)::k'/\Dp (AU fn) k k'/\dr=aA/\stepG P ay {frame:=Dc b a (.inRegion ops (i::rest)::k'),callers:=cs,status:=.running,dying:=aF} w=fV P ay (Dc b a (.inRegion ops (i::rest)::k')) cs aF (execOp a.eval o) w:=by
 cases hi with
 |reg p l id ops2 hc hk=>
  rw[hc] at hcode;cases hcode;rename_i k';have ho':ops[i]?=aj o:=by grind [opAt]
  have hw':=Jz (ops:=ops) st.den o;rw[hwant] at hw';refine ⟨k',rfl,hk,rfl,?_⟩;have hg:=stepGR_op (P:=P) (b:=b) (a:=Vd b a) (k:=k') (cs:=cs) (w:=w) (rest:=rest) ho' hw';simp_all [Oper.semAt_eq,Tz,MO]
theorem atC(hC:BP P C)(hF:BJ P C){fn:Func}{g:Nat}{r:Option (Nat×Nat)}{td:List It}{c:Core}{stk:List Fw}{x:Nat×Func×List SV}{φ:Sh->Prop}(hfn:C.fns.get g=aj fn)(hr:YJ C fn td c=aj x)
  (ih:Di P C K x.1 aF [.code []] {c with tm:=x.2.2++dD (x.2.1.ntmps - x.2.2.length) .any} ({g,r,td,tm:=c.tm,lp:=aF}::stk) φ):Di P C K g r td c stk φ:=by
 intro H E w a items rs B ms cs fn' h hfn' st hi hm hs hnd hx;rw[hfn] at hfn';cases hfn';unfold YJ at hr;split at hr
 ·rename_i p i rest k
  split at hr
  ·rename_i rid ops dr hcode
   split at hr
   ·rename_i o ho
    split at hr
    ·rename_i hwant
     split at hr
     ·rename_i kk hop
      split at hr
      ·rename_i f atn
       split at hr
       ·rename_i g2 caps hev
        split at hr
        ·cases hr
        ·rename_i hspec
         split at hr
         ·rename_i Hq hfn2
          cases hb:(gy (kk.args.toList.map (BU c.tm)++caps).length Hq.ntmps&&Hq.body.isSome)<;>simp only[hb,ϰ,ϗ] at hr
          ·cases hr
          cases hr;simp only[aB] at hb;obtain ⟨body2,YK⟩:=dO.1 hb.2;have hP2:=hC.fn g2 Hq hfn2;obtain ⟨k',rfl,hk,rfl,hg⟩:=adX (P:=P) (b:=bq g (Vh r) (marks rs)) (w:=w) st hi hcode ho hwant hop (ms++cs);have df:=BM (H:=H) (E:=E) st.den f;rw[hev] at df;obtain ⟨vs,ef,hvs⟩:=df;have hargs:=(RI st.den kk.args.toList).append hvs;have hent:=hF.en g2 (.inr (by grind));have hrun:(execOp a.eval o).run P w=.ok (.enter g2 (kk.args.map a.eval++vs)) w:=by
           simp_all [execOp,resolve,jL,invoke,JX]
          have henter:step P (lone (Dc (bq g (Vh r) (marks rs)) a (.inRegion ops (i::rest)::k')) (ms++cs) w)=.next (lone (gX P g2 (kk.args.map a.eval++vs) .normal) (Dc (bq g (Vh r) (marks rs)) a (.inRegion ops (i::rest)::k')::(ms++cs)) w):=
           step_lone_go (by simp_all [fV,Dc])
          rw[agT hP2 YK] at henter;have hl:=hargs.length;have hlen:(kk.args.map a.eval++vs).size=(kk.args.toList.map (BU c.tm)++caps).length:=by
           simp_all
          have st2:St C K H E w {c with tm:=(kk.args.toList.map (BU c.tm)++caps)++dD (Hq.ntmps - (kk.args.toList.map (BU c.tm)++caps).length) .any} {tmps:=(kk.args.map a.eval++vs)++dX (Hq.ntmps - (kk.args.map a.eval++vs).size) undef,defers:=[]}:=by
           refine ⟨?_,st.hp,st.CP,st.free,st.gl,rfl⟩;have:((kk.args.map a.eval++vs)++dX (Hq.ntmps - (kk.args.map a.eval++vs).size) undef).toList=(kk.args.toList.map a.eval++vs.toList)++dD (Hq.ntmps - (kk.args.toList.map (BU c.tm)++caps).length) undef:=by
            rw[hlen];simp
           simp only[this];exact hargs.append (zi _ _ (by simp))
          have hit2:Dp (AU Hq) [.code []] [.code body2]:=by
           have:=gu (body:=AU Hq) [] tN;simp_all [BA,AU]
          have hs2:Gq C H E h ({g,r,td:=.reg p (i::rest)::k,tm:=c.tm,lp:=aF}::stk) (Dc (bq g (Vh r) (marks rs)) a (.inRegion ops (i::rest)::k')::ms) (rs++B):=
           ⟨rs,B,by simp[UD],⟨fn,a,_,hfn,st.den,st.defers,hi,hm,rfl⟩,hs⟩
          exact (ih H E w _ _ [] (rs++B) (_::ms) cs Hq h hfn2 st2 hit2 (fun _ hy=>by cases hy) hs2 (by grind) hx).of (.one henter)
         ·cases hr
       ·cases hr
      ·cases hr
     ·cases hr
    ·cases hr
   ·cases hr
  ·cases hr
 ·cases hr
theorem aq2{fn:Func}{g:Nat}{r:Option (Nat×Nat)}{td:List It}{c:Core}{stk:List Fw}{l l' d:Nat}{args:List SV}{f:Fw}{p:List Nat}{Tn:Func}{x:Operand}{ps:Array Tmp}{ca cb:Code}{φ:Sh->Prop}(hfn:C.fns.get g=aj fn)(hr:yieldOf fn td c=aj (l,args))
  (hy:yW stk=aj (l',d,f,p)) (hff:C.fns.get f.g=aj Tn) (hcf:BA (AU Tn) p=.rangeFunc x ps ca cb) (hsz:dK ps.size args.length=ay) (hll:l=l')
  (ih:Di P C K f.g (aj (l',d)) [.code (0::p),.ZX,.code (1::p)] {c with tm:=(ps.toList.zip args).foldl (fun t x=>t.set x.1 x.2) f.tm} ({g,r,td,tm:=c.tm,lp:=aF}::stk) φ):Di P C K g r td c stk φ:=by
 intro H E w a items rs B ms cs fn' h hfn' st hi hm hs hnd hx;rw[hfn] at hfn';cases hfn';subst hll;unfold yieldOf at hr;split at hr
 ·rename_i q i rest k
  split at hr
  ·rename_i rid ops dr hcode
   split at hr
   ·rename_i o ho
    split at hr
    ·rename_i hwant
     split at hr
     ·rename_i kk hop
      split at hr
      ·rename_i fo atn
       split at hr
       ·rename_i l2 xa ya hev
        cases hb:(dK xa.size 0&&dK ya.size 0)<;>simp only[hb,ϰ,ϗ] at hr
        ·cases hr
        cases hr;simp only[aB] at hb;obtain rfl:xa=#[]:=mM (gU hb.1);obtain rfl:ya=#[]:=mM (gU hb.2);obtain ⟨k',rfl,hk,rfl,hg⟩:=adX (P:=P) (b:=bq g (Vh r) (marks rs)) (w:=w) st hi hcode ho hwant hop (ms++cs);have df:=BM (H:=H) (E:=E) st.den fo;rw[hev] at df;have ef:a.eval fo=.func (.yield l) #[] #[]:=by simp_all [Den]
        have hargs:=RI st.den kk.args.toList;obtain ⟨aGo,af,ob,y1,y2,y3,y4,y5⟩:=atB hy hs;rw[hff] at y1;cases y1;obtain ⟨x',ps',ca',cb',df',e1,rfl⟩:=y4;rw[hcf] at e1;cases e1;have hw:=(hx _ _ y3).1;have hsz2:(kk.args.map a.eval).size=ps.size:=by
         simp_all
        have hrun:(execOp a.eval o).run P w=.ok (.round l f.g ((ps.zip (kk.args.map a.eval)).foldl (fun tmps (t,a)=>tmps.setIfInBounds t a) af.tmps) ca cb) w:=by
         have h1:(execOp a.eval o).run P w=(Instr.yield l (kk.args.map a.eval)).run P w:=by
          simp_all [execOp,resolve,jL,invoke]
         simp_all [run_yield]
        have apf:step P (lone (Dc (bq g (Vh r) (marks rs)) a (.inRegion ops (i::rest)::k')) (ms++cs) w)=.next (lone (xQ l f.g ((ps.zip (kk.args.map a.eval)).foldl (fun tmps (t,a)=>tmps.setIfInBounds t a) af.tmps) ca cb .normal) (Dc (bq g (Vh r) (marks rs)) a (.inRegion ops (i::rest)::k')::(ms++cs)) w):=
         step_lone_go (by simp_all [fV])
        rw[aq1] at apf;have hfold:AP H E ((ps.toList.zip (kk.args.toList.map (BU c.tm))).foldl (fun t x=>t.set x.1 x.2) f.tm) ((ps.zip (kk.args.map a.eval)).foldl (fun tmps (t,a)=>tmps.setIfInBounds t a) af.tmps).toList:=by
         have e:(ps.zip (kk.args.map a.eval)).foldl (fun tmps (t,a)=>tmps.setIfInBounds t a) af.tmps=(ps.toList.zip (kk.args.toList.map a.eval)).foldl (fun ts x=>ts.setIfInBounds x.1 x.2) af.tmps:=by
          rw[<-Array.foldl_toList];simp
         rw[e];refine adW y2 (fun j u v hu hv=>?_) (by simp);rw[List.getElem?_zip_eq_some] at hu hv;obtain ⟨u1,u2⟩:=hu;obtain ⟨v1,v2⟩:=hv;rw[u1] at v1;refine ⟨bP v1,?_⟩;obtain ⟨vv,w1,w2⟩:=hargs.get u2;simp_all
        have st2:St C K H E w {c with tm:=(ps.toList.zip (kk.args.toList.map (BU c.tm))).foldl (fun t x=>t.set x.1 x.2) f.tm} {tmps:=(ps.zip (kk.args.map a.eval)).foldl (fun tmps (t,a)=>tmps.setIfInBounds t a) af.tmps,defers:=[]}:=
         ⟨hfold,st.hp,st.CP,st.free,st.gl,rfl⟩
        have hit2:Dp (AU Tn) [.code (0::p),.ZX,.code (1::p)] [.code ca,.beginRound,.code cb]:=by
         have h0:BA (AU Tn) (0::p)=ca:=by simp[BA,hcf,child]
         have h1:BA (AU Tn) (1::p)=cb:=by simp[BA,hcf,child]
         have:=gu (body:=AU Tn) (0::p) (.ZX (.code (1::p) .nil));simp_all
        have hs2:Gq C H E h ({g,r,td:=.reg q (i::rest)::k,tm:=c.tm,lp:=aF}::stk) (Dc (bq g (Vh r) (marks rs)) a (.inRegion ops (i::rest)::k')::ms) (rs++B):=
         ⟨rs,B,by simp[UD],⟨fn,a,_,hfn,st.den,st.defers,hi,hm,rfl⟩,hs⟩
        exact (ih H E w _ _ [] (rs++B) (_::ms) cs Tn h hff st2 hit2 (fun _ hy=>by cases hy) hs2 (by grind) hx).of (.one apf)
       ·cases hr
      ·cases hr
     ·cases hr
    ·cases hr
   ·cases hr
  ·cases hr
 ·cases hr
theorem axv(hC:BP P C)(hF:BJ P C){fn:Func}{g g':Nat}{r r':Option (Nat×Nat)}{td Ih:List It}{c c':Core}{stk KL:List Fw}{q:List BL}{φ:Sh->Prop}(hfn:C.fns.get g=aj fn)
  (hev:evW C fn g r td c stk=.next g' r' Ih c' KL q) (hq:bZ q) (ih:Di P C K g' r' Ih c' KL φ):Di P C K g r td c stk φ:=by
 unfold evW at hev;split at hev
 ·split at hev
  ·cases hev
  ·rename_i l d
   intro H E w a items rs B ms cs fn' h hfn' st hi hm hs hnd hx;rw[hfn] at hfn';cases hfn';cases hi;exact XI hfn hev hq ih rfl rfl st hs hnd hx fun c' cs' v w' hrun=>af4 rfl rfl hrun
 ·rename_i k
  split at hev
  ·cases hev
  ·rename_i l d
   split at hev
   ·rename_i l' s hset
    cases hev;obtain ⟨hll,_⟩:=hq;have hll:l=l':=hll;subst hll;intro H E w a items rs B ms cs fn' h hfn' st hi hm hs hnd hx;rw[hfn] at hfn';cases hfn';cases hi with
    |ZX hk=>
     rename_i k';obtain ⟨lp,q1,q2,q3,q4,q5⟩:=adV hfn hset hs (dY.1 hnd).2.1;have hw:=(hx _ _ q1).1;have hrun:=run_beginRound (P:=P) hw q2;have e:({lp with state:=LoopState.busy}:Loop)={lp with state:=MP .busy,pending:=GN (AU fn) .busy}:=by
      cases lp;simp only at q3;subst q3;rfl
     rw[e] at hrun;have hs1:=adS (P:=P) (b:=bq g (aj l) (marks rs)) (a:=a) (k:=k') (cs:=ms++cs) rfl hrun;have hno:l ∉ rs:=fun hmm=>(dY.1 hnd).2.2 l hmm l q4 rfl;have:=ih H E _ a k' rs B ms cs fn _ hfn (st.putObj (o':=.loop {lp with state:=MP .busy,pending:=GN (AU fn) .busy}) hx q1) hk (fun y hy=>by
      grind [FZ]) q5 hnd (hx.put q1)
     rw[aal hset] at this;exact this.of (.one hs1)
   ·cases hev
 ·rename_i p k
  split at hev
  ·cases hev
  ·rename_i hret
   split at hev
   ·cases hev
   ·rename_i l d
    intro H E w a items rs B ms cs fn' h hfn' st hi hm hs hnd hx;rw[hfn] at hfn';cases hfn';have YT:∃k',items=.code .ret::k':=by
     cases hi with
     |code p hk=>simp_all |loop p y hl hk=>simp_all
    obtain ⟨k',rfl⟩:=YT;refine XI hfn hev hq ih rfl rfl st hs hnd hx fun c' cs' v w' hrun=>?_
    simp only[GN,hret] at hrun;exact af5 rfl rfl hrun
  ·rename_i id az1
   split at hev
   ·cases hev
   ·rename_i l d
    split at hev
    ·cases hev
    ·rename_i hno
     intro H E w a items rs B ms cs fn' h hfn' st hi hm hs hnd hx;rw[hfn] at hfn';cases hfn';have YT:∃k',items=.code (.exit id)::k'/\Dp (AU fn) k k':=by
      cases hi with
      |code p hk=>simp_all |loop p y hl hk=>simp_all
     obtain ⟨k',rfl,hk⟩:=YT;refine XI hfn hev hq ih rfl rfl st hs hnd hx fun c' cs' v w' hrun=>?_
     simp only[GN,az1] at hrun;exact adT rfl rfl (anB hk hno) hrun
  ·cases hev
 ·rename_i p i rest k
  split at hev
  ·rename_i l args hy
   split at hev
   ·rename_i l' d f pf hyw
    split at hev
    ·rename_i Tn hff
     split at hev
     ·rename_i x ps ca cb hcf
      cases hb:dK ps.size args.length<;>simp only[hb,ϰ,ϗ] at hev
      ·cases hev
      ·cases hev
       exact aq2 hfn hy hyw hff hcf hb hq.1 ih
     ·cases hev
    ·cases hev
   ·cases hev
  grind [atC]
 ·cases hev
end
section
variable{P:Program}{C:Ctx}{K:Kx}{H H' RG H0:Mem}{E E' RH E1:Env}{w w' w'' w0:World}{h:Hp}
theorem akM{fn:Func}{g:Nat}{r:Option (Nat×Nat)}{td:List It}{c:Core}{stk:List Fw}(hev:evW C fn g r td c stk=.plain):r=aF\/endsB fn td=aA:=by
 cases r with
 |none=>simp |some x=>
  right;obtain ⟨l,d⟩:=x;unfold evW at hev;split at hev
  ·grind [TA]
  ·rfl
  ·grind [endsB,TA]
  ·rfl
  ·rename_i hne1 hne2 aCr aGp
   unfold endsB;split
   ·exact (hne1 rfl).elim
   ·exact (aCr _ _ rfl).elim
   ·rfl
theorem PI(hC:BP P C)(hF:BJ P C)(hN:∀g fn,C.fns.get g=aj fn->EH (AU fn)=ay){pause:Nat->List It->Bool}{m:Nat}{φ:Sh->Prop}:∀{n g:Nat} {r:Option (Nat×Nat)} {td:List It} {c:Core} {stk:List Fw},
  (adU C pause m n g r td c stk).All (axt P C (K0 H0 w0) φ)->Di P C (K0 H0 w0) g r td c stk φ
 |0,g,r,td,c,stk,h=>h |n+1,g,r,td,c,stk,h=>by
  intro H E w a items rs B ms cs fn hp hfn st hi hm hs hnd hx;simp only[adU,hfn] at h;cases hpz:pause g td<;>simp only[hpz,ϰ,ϗ] at h
  rotate_left
  ·exact h H E w a items rs B ms cs fn hp hfn st hi hm hs hnd hx
  split at h
  ·exact h.elim
  ·exact h H E w a items rs B ms cs fn hp hfn st hi hm hs hnd hx
  ·rename_i hev
   obtain ⟨hq,h⟩:=anz h;exact axv hC hF hfn hev hq (PI hC hF hN h) H E w a items rs B ms cs fn hp hfn st hi hm hs hnd hx
  ·rename_i hev
   have hK:=aag (K:=U6 H E w c.hp) hC hF (acA hC hF m);obtain ⟨sig,h1,h2⟩:=aq0 hC hF hK (hN g fn hfn) (dZ h) st.re hi (bq g (Vh r) (marks rs)) (ms++cs) (by
    rcases akM hev with e|e
    ·left;rw[e];rfl
    grind)
   cases sig with
   |go Ih c'=>
    obtain ⟨a',w',H',E',items',q1,q2,q3,q4⟩:=h2;exact (PI hC hF hN h1 H' E' w' a' items' rs B ms cs fn hp hfn (st.un q2) q4 hm (hs.le q3.Ji q3.Qc) hnd (hx.keep st q2)).of q1
   |halt Ih c'=>
    obtain ⟨a',w',H',E',items',q1,q2,q3,q4⟩:=h2;exact (h1 H' E' w' a' items' rs B ms cs fn hp hfn (st.un q2) q4 hm (hs.le q3.Ji q3.Qc) hnd (hx.keep st q2)).of q1
   |done sv c'=>
    obtain ⟨a',w',H',E',todo,q1,q2,q3,q5⟩:=h2;cases r with
    |some _=>exact h1.elim |none=>
    have st':=st.un q2;obtain ⟨w2,hp2,c1,st2,hx2,hs2⟩:=collects g todo (ms++cs) st' (hx.keep st q2) hm (hs.le q3.Ji q3.Qc) hnd;obtain ⟨v,q4,q6⟩:=q5 _ _ st2;have q1':Steps P (lone (Dc (bq g (Vh aF) (marks rs)) a items) (ms++cs) w) (lone {(base g).at a' todo with mode:=.returning} (ms++cs) w2):=q1.trans c1
    cases stk with
    |nil=>
     cases ms with
     |cons _ _=>exact hs.elim |nil=>
      obtain ⟨s,e1,e2⟩:=h1;obtain ⟨H2,r2⟩:=adz st2 e1 q4;exact ⟨a',w2,v,s,H2,todo,fn,hfn,q1',st2.defers,e2,r2,q6⟩
    |cons f stk=>
     cases ms with
     |nil=>exact hs.elim |cons mf ms=>
      have hleave:step P (lone {(base g).at a' todo with mode:=.returning} (mf::(ms++cs)) w2)=.next (lone (mf.finish v) (ms++cs) w2):=
       step_leave_returned ⟨rfl,st2.defers,rfl,fn,hC.fn g fn hfn,q6⟩
      obtain ⟨rs',B',hB,p1,p2⟩:=hs2;subst hB;have hm':∀y∈rs',hp2 y=aj (.deferred (aj [])):=by
       obtain ⟨_,_,_,_,_,_,_,z,_⟩:=p1;exact z
      have Vj:=(dY.1 hnd).2.1;simp only at h1;split at h1
      ·rename_i hlp
       split at h1
       ·rename_i x hpop
        obtain ⟨Tn,a2,acF,g1,g2,g3,g4,g5⟩:=ape p1 hlp hpop q4 st2;rw[g4] at hleave;have hB2:UD f=[]:=by simp[UD,hlp]
        rw[hB2,List.append_nil] at Vj;exact (PI hC hF hN h1 H' E' w2 a2 acF rs' B' ms cs Tn hp2 g1 g2 g3 hm' p2 Vj (by simp_all)).of (q1'.trans (.one hleave))
       ·exact h1.elim
      ·rename_i l p s hlp
       cases hbz:apd s<;>simp only[hbz,ϰ,ϗ] at h1
       rotate_left
       ·exact h1.elim
       obtain ⟨Tn,a2,acF,g1,g2,g3,g4,g5,g6⟩:=p1;rw[hlp] at g6;obtain ⟨g7,o,g8,g9⟩:=g6;obtain ⟨lp,rfl,r1,r2,_⟩:=g9.loop;have hw:=(hx2 _ _ g8).1;have hrun:=run_endLoop (P:=P) hw (by rw[r1];cases s<;>simp[MP] at hbz ⊢;cases hbz)
       subst g7;rw[ab9] at hleave;have hend:=aiu (b:=bq f.g (Vh f.r) (marks rs')) (a:=a2) (k:=acF) (cs:=ms++cs) hrun;have hB2:UD f=[l]:=by simp[UD,hlp]
       rw[hB2] at Vj;have hl1:l ∉ rs':=fun hmm=>(dY.1 (dY.1 Vj).1).2.2 l hmm l (by simp) rfl;have hl2:l ∉ B':=fun hmm=>(dY.1 Vj).2.2 l (by simp) l hmm rfl;have aCs:(rs'++B').Nodup:=by
        grind
       have st3:=st2.putObj (o':=.loop {lp with state:=.exhausted}) hx2 g8
       have st4:St C (K0 H0 w0) H' E' (w2.putObj l (.loop {lp with state:=.exhausted})) {c' with tm:=f.tm} a2:=⟨g2,st3.hp,st3.CP,st3.free,st3.gl,g3⟩
       have hit:Dp (AU Tn) (apc f s) ((lp.pending.map Item.code).toList++acF):=by
        rw[r2];cases s with
        |done q=>exact .code q g4 |ready=>exact g4 |busy=>exact g4
       exact (PI hC hF hN h1 H' E' _ a2 _ rs' B' ms cs Tn _ g1 st4 hit (fun y hy=>by grind [FZ]) (p2.put hl2) aCs (hx2.put g8)).of ((q1'.trans (.one hleave)).trans (.one hend))
theorem JB(hC:BP P C)(hF:BJ P C){fn Hq:Func}{g g2:Nat}{p:List Nat}{k:List It}{c:Core}{stk:List Fw}{x:Operand}{ps:Array Tmp}{ca cb:Code}{caps:List SV}{φ:Sh->Prop}(hfn:C.fns.get g=aj fn)
  (hcode:BA (AU fn) p=.rangeFunc x ps ca cb) (hx:BU c.tm x=.fn g2 caps) (hfn2:C.fns.get g2=aj Hq) (hb:(gy (1+caps.length) Hq.ntmps&&Hq.body.isSome)=ay)
  (ih:∀l,Di P C K g2 aF [.code []] {c with tm:=(.val (yv l)::caps)++dD (Hq.ntmps - (1+caps.length)) .any} ({g,r:=aF,td:=k,tm:=c.tm,lp:=aj (l,p,.ready)}::stk) φ):Di P C K g aF (.code p::k) c stk φ:=by
 intro H E w a items rs B ms cs fn' h hfn' st hi hm hs hnd hxt;rw[hfn] at hfn';cases hfn';simp only[aB] at hb;obtain ⟨body2,YK⟩:=dO.1 hb.2;have hP2:=hC.fn g2 Hq hfn2;have YT:∃k',items=.code (.rangeFunc x ps ca cb)::k'/\Dp (AU fn) k k':=by
  cases hi with
  |code p hk=>simp_all |loop p y hl hk=>simp_all
 obtain ⟨k',rfl,hk⟩:=YT;have df:=BM (H:=H) (E:=E) st.den x;rw[hx] at df;obtain ⟨vs,ef,hvs⟩:=df;have hent:=hF.en g2 (.inr (by grind));let ob:Obj:=.loop {state:=.ready,pending:=aF,fn:=g,tmps:=a.tmps,params:=ps,assign:=ca,body:=cb,defers:=w.heap.size}
 let w2:World:=(w.alloc (.deferred (aj []))).alloc ob
 have he:(Instr.enterLoop g a.tmps ps ca cb aF).run P w=.ok (w.heap.size+1,[{target:=.collected w.heap.size,args:=#[]}]) w2:=run_enterLoop_outer g a.tmps ps ca cb;have hstep:step P (lone (Dc (bq g aF (marks rs)) a (.code (.rangeFunc x ps ca cb)::k')) (ms++cs) w) =
   .next (lone (gX P g2 (#[yv (w.heap.size+1)]++vs) .normal) (Dc (bq g aF (marks (w.heap.size::rs))) a (.inRangeFunc (w.heap.size+1)::k')::(ms++cs)) w2):=by
  have h0:=stepR_rangeFunc (P:=P) (b:=bq g aF (marks rs)) (a:=Vd (bq g aF (marks rs)) a) (k:=k') (cs:=ms++cs) (w:=w) (g:=x) (ps:=ps) (assign:=ca) (body:=cb) (l:=w.heap.size+1) (mark:=[{target:=.collected w.heap.size,args:=#[]}])
   (w₁:=w2) (w₁':=w2) (w₂:=w2) (d:={target:=.fn (.func g2) vs,args:=#[yv (w.heap.size+1)]}) (f:=g2) (args:=#[yv (w.heap.size+1)]++vs) he
   (by rw[Tz];simp[resolve,jL,ef,yv,show ∀v,a.eval (.const v)=v from fun _=>rfl]) (by simp[invoke,JX hent])
  rw[MO,h0];simp[Dc,Frame.atR,Vd,bq,marks,st.defers]
 rw[agT hP2 YK] at hstep;have hl:=hvs.length;have st1:=(st.aak (.deferred (aj []))).aak ob;have hx1:=(hxt.alloc st (.deferred (aj []))).alloc (st.aak _) ob;have hsz:(w.alloc (.deferred (aj []))).heap.size=w.heap.size+1:=World.size_alloc ..;rw[hsz] at hx1;have hB:∀y∈rs++B,y<w.heap.size:=fun y hy=>by
  have:∃o,h y=aj o:=by
   rcases List.mem_append.1 hy with hy|hy
   ·simp_all
   ·exact hs.has y hy
  obtain ⟨o,ho⟩:=this;exact (Array.getElem?_eq_some_iff.1 (hxt y o ho).1).1
 have hold:∀y,y<w.heap.size->JK (JK h w.heap.size (.deferred (aj []))) (w.heap.size+1) ob y=h y:=fun y hy=>by
  grind [FZ]
 have hs1:Gq C H E (JK (JK h w.heap.size (.deferred (aj []))) (w.heap.size+1) ob) stk ms B:=
  (hs.put (fun hm=>by have:=hB _ (qg _ hm);omega)).put (fun hm=>by have:=hB _ (qg _ hm);omega)
 have st2:St C K H E w2 {c with tm:=(.val (yv (w.heap.size+1))::caps)++dD (Hq.ntmps - (1+caps.length)) .any} {tmps:=(#[yv (w.heap.size+1)]++vs)++dX (Hq.ntmps - (#[yv (w.heap.size+1)]++vs).size) undef,defers:=[]}:=by
  refine ⟨?_,st1.hp,st1.CP,st1.free,st1.gl,rfl⟩;have:((#[yv (w.heap.size+1)]++vs)++dX (Hq.ntmps - (#[yv (w.heap.size+1)]++vs).size) undef).toList=(yv (w.heap.size+1)::vs.toList)++dD (Hq.ntmps - (1+caps.length)) undef:=by
   simp_all
  simp only[this];exact AP.append (l:=.val (yv (w.heap.size+1))::caps) (vs:=yv (w.heap.size+1)::vs.toList) ⟨⟨rfl,rfl⟩,hvs⟩ (zi _ _ (by simp))
 have hit2:Dp (AU Hq) [.code []] [.code body2]:=by
  have:=gu (body:=AU Hq) [] tN;simp_all [BA,AU]
 have hs2:Gq C H E (JK (JK h w.heap.size (.deferred (aj []))) (w.heap.size+1) ob) ({g,r:=aF,td:=k,tm:=c.tm,lp:=aj (w.heap.size+1,p,.ready)}::stk) (Dc (bq g aF (marks (w.heap.size::rs))) a (.inRangeFunc (w.heap.size+1)::k')::ms) ((w.heap.size::rs)++[w.heap.size+1]++B):=by
  refine ⟨w.heap.size::rs,B,by simp[UD],⟨fn,a,k',hfn,st.den,st.defers,hk,fun y hy=>?_,?_⟩,hs1⟩
  ·rcases List.mem_cons.1 hy with rfl|hy
   ·rw[FZ (by omega),PG]
   ·rw[hold y (hB y (List.mem_append_left _ hy))];exact hm y hy
  ·exact ⟨rfl,ob,PG,x,ps,ca,cb,w.heap.size,hcode,rfl⟩
 have Vj:(([]:List Nat)++((w.heap.size::rs)++[w.heap.size+1]++B)).Nodup:=by
  grind
 exact (ih (w.heap.size+1) H E w2 _ _ [] _ (_::ms) cs Hq _ hfn2 st2 hit2 (fun _ hy=>by cases hy) hs2 Vj hx1).of (.one hstep)
end
structure LY where
 g:Nat
 r:Option (Nat×Nat)
 td:List It
 c:Core
 stk:List Fw
def qRO:Option (Nat×Nat)->Option (Nat×Nat)->Option (List BL)
 |none,aF=>aj [] |some (l,d),aj (l',d')=>Dw (dK d d') (aj [.nat l l']) |_,_=>aF
def atD:QW->QW->Bool
 | .ready,.ready=>ay | .busy,.busy=>ay | .done p,.done q=>p==q |_,_=>aA
def atE:Option (Nat×List Nat×QW)->Option (Nat×List Nat×QW)->Option (List BL)
 |none,aF=>aj [] |some (l,p,s),aj (l',p',s')=>Dw (p==p'&&atD s s') (aj [.nat l l']) |_,_=>aF
def aam(hp:List (Nat×SB))(ρ:List (Nat×Rn)):List Fw->List Fw->Option (List BL)
 |[],[]=>aj [] |f::s,f'::s'=>Dw (f.g==f'.g&&ML f.td f'.td) (FM (qRO f.r f'.r) (FM (atE f.lp f'.lp) (FM (qL hp ρ f.tm f'.tm) (aam hp ρ s s')))) |_,_=>aF
def aan:List Fw->List Fw->Bool
 |[],[]=>ay |f::s,f'::s'=>f.g==f'.g&&ML f.td f'.td&&(f.r.isSome==f'.r.isSome)&&(f.lp.isSome==f'.lp.isSome)&&aan s s' |_,_=>aA
def atF:List Fw->List Fw->List (Nat×Rn)
 |f::s,f'::s'=>Pz f.tm f'.tm++atF s s' |_,_=>[]
def LY.rn(t:LY)(c:Core)(stk:List Fw):List (Nat×Rn):=infer t.c.hp c.hp 4000 (Pz t.c.tm c.tm++atF t.stk stk) []
def YU(g:Nat)(r:Option (Nat×Nat))(td:List It)(c:Core)(stk:List Fw):Nat->List LY->Tree C9
 |_,[]=>.fail |k,t::ts=>bif g==t.g&&ML td t.td&&aan stk t.stk then match FM (qRO r t.r) (FM (qC (t.rn c stk) c t.c) (aam c.hp (t.rn c stk) stk t.stk)) with
   |some l=>.leaf (.at_ k l) |none=>YU g r td c stk (k+1) ts
  else YU g r td c stk (k+1) ts
def atG(ts:List LY):atz->Tree C9
 | .fin v c=>match finish c v with
  |some s=>.leaf (.ret s) |none=>.fail
 | .stop g r td c stk=>YU g r td c stk 0 ts
def agU(C:Ctx)(pause:Nat->List It->Bool)(m n g:Nat)(r:Option (Nat×Nat))(td:List It)(c:Core)(stk:List Fw)(ts:List LY):Tree C9:=(adU C pause m n g r td c stk).bind (atG ts)
def aao(P:Program)(C:Ctx)(K:Kx)(ts:List LY)(φ:Sh->Prop):C9->Prop
 | .ret s=>φ s | .at_ k l=>bZ l/\∃t,ts[k]?=aj t/\Di P C K t.g t.r t.td t.c t.stk φ
@[irreducible] def Nq (ψ:C9->Prop) (t:Tree C9):Prop:=t.All ψ
theorem Jo(ψ:C9->Prop)(t:Tree C9):Nq ψ t=t.All ψ:=by unfold Nq;rfl
def GR:Nat->List It->Bool:=fun _ _=>aA
def Qq:BT Func->Bool:=BT.allB fun _ fn=>EH (AU fn)
section
variable{P:Program}{C:Ctx}{K:Kx}{H H' RG H0:Mem}{E E' RH E1:Env}{w w' w'' w0:World}{h:Hp}
theorem akN(hx:Qq C.fns=ay):∀g fn,C.fns.get g=aj fn->EH (AU fn)=ay:=fun _ _ hg=>(BT.V3 hx).get hg
theorem apg{r r':Option (Nat×Nat)}{q:List BL}(hx:qRO r r'=aj q)(ha:bZ q):r=r':=by
 unfold qRO at hx;split at hx
 ·rfl
 ·obtain ⟨h1,h2⟩:=BF hx
  cases h2;have h3:_=_:=ha.1;simp_all
 ·cases hx
theorem atH{s t:QW}(hx:atD s t=ay):s=t:=by
 cases s<;>cases t<;>simp[atD] at hx<;>simp_all
theorem atI{r r':Option (Nat×List Nat×QW)}{q:List BL}(hx:atE r r'=aj q)(ha:bZ q):r=r':=by
 unfold atE at hx;split at hx
 ·rfl
 ·obtain ⟨h1,h2⟩:=BF hx
  cases h2;simp only[aB,ϡ] at h1;have h3:_=_:=ha.1;grind [atH]
 ·cases hx
def YV(hp:List (Nat×SB))(ρ:List (Nat×Rn)):List Fw->List Fw->Prop
 |[],[]=>True |f::s,f'::s'=>f.g=f'.g/\f.td=f'.td/\f.r=f'.r/\f.lp=f'.lp/\leL hp ρ f.tm f'.tm/\YV hp ρ s s' |_,_=>False
theorem agV{hp:List (Nat×SB)}{ρ:List (Nat×Rn)}:∀{s s':List Fw} {q:List BL},aam hp ρ s s'=aj q->bZ q->YV hp ρ s s'
 |[],[],_,_,_=>trivial |f::s,f'::s',q,hx,ha=>by
  simp only[aam] at hx;obtain ⟨h1,h2⟩:=BF hx;obtain ⟨a,b,h3,h4,rfl⟩:=Ci h2;obtain ⟨a2,b2,h5,h6,rfl⟩:=Ci h4;obtain ⟨a3,b3,h7,h8,rfl⟩:=Ci h6;simp only[aB,ϡ] at h1;have e1:=dV ha;have e2:=dV e1.2;have e3:=dV e2.2;exact ⟨h1.1,RN h1.2,apg h3 e1.1,atI h5 e2.1,QU _ h7 e3.1,agV h8 e3.2⟩
 |[],_::_,_,hx,_=>by simp[aam] at hx |_::_,[],_,hx,_=>by simp[aam] at hx
theorem Gq.weak{hp:List (Nat×SB)}{ρ:List (Nat×Rn)}(hh:Bc K H E w hp):∀{s s':List Fw} {ms:List Frame} {B:List Nat},Gq C H E h s ms B->YV hp ρ s s'->Gq C H (Gv ρ E) h s' ms B
 |[],[],[],_,x,_=>x |⟨g,r,td,tm,lp⟩::s,⟨g',r',Ih,tm',lp'⟩::s',m::ms,B,⟨rs,B',hB,⟨fn,a,items,h1,h2,h3⟩,h6⟩,⟨e1,e2,e3,e4,e5,e6⟩=>by
  simp only at e1 e2 e3 e4 e5;subst e1 e2 e3 e4;exact ⟨rs,B',hB,⟨fn,a,items,h1,JZ hh _ e5 h2,h3⟩,Gq.weak hh h6 e6⟩
 |[],[],_::_,_,x,_=>x.elim |_::_,_,[],_,x,_=>x.elim |[],_::_,_,_,_,x=>x.elim |_::_,[],_::_,_,_,x=>x.elim
theorem akO{hp:List (Nat×SB)}{ρ:List (Nat×Rn)}:∀{s s':List Fw} {g:Nat},YV hp ρ s s'->Us g s'=Us g s
 |[],[],_,_=>rfl |f::s,f'::s',_,⟨e1,_,_,_,_,e4⟩=>by simp only[Us];rw[e1];exact akO e4 |[],_::_,_,h=>h.elim |_::_,[],_,h=>h.elim
theorem akP{g:Nat}{r:Option (Nat×Nat)}{td:List It}{c c':Core}{stk KL:List Fw}{φ:Sh->Prop}(ρ:List (Nat×Rn))(hle:leC ρ c c')(hs:YV c.hp ρ stk KL)(hg:Di P C K g r td c' KL φ):Di P C K g r td c stk φ:=by
 intro H E w a items rs B ms cs fn h hfn st hi hm hst hnd hx;have:=hg H (Gv ρ E) w a items rs B ms cs fn h hfn (st.weak hle) hi hm (hst.weak st.hp hs) hnd (hx.weak st hle);grind [akO]
theorem XJ{φ:Sh->Prop}{ts:List LY}{g:Nat}{r:Option (Nat×Nat)}{td:List It}{c:Core}{stk:List Fw}:∀{rs:List LY} {k:Nat},(∀j,rs[j]?=ts[k+j]?)->(YU g r td c stk k rs).All (aao P C K ts φ)->Di P C K g r td c stk φ
 |[],_,_,hx=>hx.elim |t::rs,k,hk,hx=>by
  have hr:∀j,rs[j]?=ts[k+1+j]?:=fun j=>by have:=hk (j+1);grind
  unfold YU at hx;cases hb:(g==t.g&&ML td t.td&&aan stk t.stk)<;>simp only[hb,ϰ,ϗ] at hx
  ·exact XJ hr hx
  ·simp only[aB,ϡ] at hb
   obtain ⟨⟨h1,h2⟩,h3⟩:=hb;split at hx
   ·rename_i l hl
    obtain ⟨a0,b0,q0,q00,rfl⟩:=Ci hl;obtain ⟨a,b,q1,q2,rfl⟩:=Ci q00;obtain ⟨hl,t',ht,hg⟩:=hx;have:=hk 0;simp only[List.getElem?_cons_zero,Nat.add_zero] at this;rw[<-this] at ht;cases ht;have h2:=RN h2;subst h1 h2;have e1:=dV hl;have e2:=dV e1.2;have hrr:=apg q0 e1.1;subst hrr;exact akP (t.rn c stk) (ano q1 e2.1) (agV q2 e2.2) hg
   ·exact XJ hr hx
theorem F5(hC:BP P C)(hF:BJ P C)(hN:Qq C.fns=ay){pause:Nat->List It->Bool}{m n g:Nat}{r:Option (Nat×Nat)}{td:List It}{c:Core}{stk:List Fw}{ts:List LY}{φ:Sh->Prop}
  (hx:Nq (aao P C (K0 H0 w0) ts φ) (agU C pause m n g r td c stk ts)):Di P C (K0 H0 w0) g r td c stk φ:=by
 rw[Jo] at hx;refine PI hC hF (akN hN) (pause:=pause) (m:=m) (n:=n) ((dZ hx).mono fun o ho=>?_);cases o with
 |fin v c=>
  simp only[atG] at ho;split at ho
  ·rename_i s hs
   exact ⟨s,hs,ho⟩
  ·exact ho.elim
 |stop g r td c stk=>exact XJ (k:=0) (fun j=>by simp) ho
theorem F6{fn:Func}{g:Nat}{r:Option (Nat×Nat)}{td tb:List It}{c:Core}{stk:List Fw}{φ:Sh->Prop}(hfn:C.fns.get g=aj fn)(hx:acB fn td=aj tb)(hg:Di P C K g r tb c stk φ):Di P C K g r td c stk φ:=by
 unfold acB at hx;split at hx
 ·rename_i p k
  cases hb:YL (BA (AU fn) p)<;>simp only[hb,ϰ,ϗ] at hx
  ·cases hx
  ·cases hx
   unfold YL at hb;split at hb
   ·rename_i x he
    intro H E w a items rs B ms cs fn' h hfn' st hi hm hst hnd hxt;rw[hfn] at hfn';cases hfn';have h0:BA (AU fn) (0::p)=x:=by simp[BA,he,child]
    cases hi with
    |code p hk=>
     have:=gu (0::p) (nT p x he hk);rw[h0] at this;rw[he];exact (hg H E w a _ rs B ms cs fn h hfn st this hm hst hnd hxt).of (.one akH)
    |loop p y hl hk=>
     rw[he] at hl;cases hl;have:=gu (0::p) (nT p x he hk);rw[h0] at this;exact (hg H E w a _ rs B ms cs fn h hfn st this hm hst hnd hxt).of (.one adQ)
   ·cases hb
 ·cases hx
theorem axx(hC:BP P C){g:Nat}{fn:Func}{F:ϵ}(hfn:C.fns.get g=aj fn)(hb:fn.body.isSome=ay)
  (h:∀(H:Mem) (w:World) (Bl:List Sh) (args:List Value) (φ:Sh->Prop),EN H Bl args->(F Bl).All φ->∃FD:List Sh,EN H FD args/\∃L,Di P C (K0 H w) g aF [.code []] (BH fn.ntmps FD L) [] φ):AO P C.gls g F:=by
 refine JA C fn (hfn:=hfn) (hb:=hb) fun H w Bl args φ hr hφ=>?_
 obtain ⟨FD,hr',L,hgo⟩:=h H w Bl args φ hr hφ;refine ⟨FD,hr',L,fun H1 E w1 a items ms cs fn1 atJ st hi hs hx=>?_⟩;cases ms with
 |cons _ _=>exact hs.elim |nil=>
  have:=hgo H1 E w1 a items [] [] [] cs fn1 (fun _=>aF) atJ st hi (fun _ hy=>by cases hy) rfl (by simp) (fun b o e=>by cases e);obtain ⟨a',w',v,s,H',todo,fn0,q1,q2,q3⟩:=this;refine ⟨a',w',v,s,H',todo,fn0,q1,?_,q3⟩;have e:(base g).at a items=Dc (bq g (Vh aF) (marks [])) a items:=(Ws g a items).symm;rw[e];exact q2
end
end Go.Sx
