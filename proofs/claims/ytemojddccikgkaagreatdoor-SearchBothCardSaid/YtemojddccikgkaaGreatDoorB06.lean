/- Own work. -/
import Derived.Test.YtemojddccikgkaaGreatDoorB05
open Int (ofNat)
open Array renaming replicate->bo,eq_empty_of_size_eq_zero->fK
open Bool renaming false->ag,true->ah,and_eq_true->ak
open Go.Deferred renaming ofValue->cW
open Go.Frame renaming enter->cw,round->kY
open Go.Sx.ni renaming any->jl
open Go.Sx.oM renaming all->bi,tK->bw
open Go.Sx.pV renaming code->bV,nil->gY,loop->fJ
open Go.Sx.Tree renaming vW->bz
open Go.stepG renaming apply->bZ
open List renaming replicate->bf,nodup_append->bE,mem_append_right->hY
open Nat renaming ble->cq,beq->bJ,eq_of_beq_eq_true->fc
open Option renaming some->ae,none->ao,isSome_iff_exists->bG
open Option.some renaming inj->aS
namespace Go.Sx
section
variable{P:Program}{C:Ctx}{K:Kx}{H H' G9 H0:Mem}{E E' He E1:Env}{w w' w'' w0:World}{h:Hp}
theorem aaF{g:Nat}{fn:Func}{body:Code}(hP:P.funcs[g]?=ae fn)(hb:fn.body=ae body)(args:Array Value):
  cw P g args .normal=pW (bq g ao []) {tmps:=args++bo (fn.ntmps - args.size) undef,defers:=[]} [.code body]:=by
 simp_all [Tj,AY]
theorem aj3(l g:Nat)(tmps:Array Value)(ca cb:Code):kY l g tmps ca cb .normal=pW (bq g (ae l) []) {tmps,defers:=[]} [.code ca,.beginRound,.code cb]:=by
 rfl
theorem XJ{b:Frame}{p:List Nat}{i:Nat}{rest:List Nat}{k:List It}{fn:Func}{items:List Item}{c:Core}{a:Act}{rid:Nat}{ops:Array Oper}{dr:Bool}{o:Oper}{kk:Call}(st:St C K H E w c a)(hi:pV (nC fn) (.reg p (i::rest)::k) items)
  (hcode:oh (nC fn) p=.region rid ops dr) (ho:opAt ops.toList i=ae o) (hwant:Gi ops.toList c.tm o=.yes) (hop:o.op=.call kk) (cs:List Frame) :
  ∃k',items=.inRegion ops (i::rest)::k'/\pV (nC fn) k k'/\dr=ag/\stepG P ah {frame:=pW b a (.inRegion ops (i::rest)::k'),callers:=cs,status:=.running,dying:=ao} w=bZ P ah (pW b a (.inRegion ops (i::rest)::k')) cs ao (execOp a.eval o) w:=by
 cases hi with
 |reg p l id ops2 hc hk=>
  rw[hc] at hcode;cases hcode;rename_i k';have ho':ops[i]?=ae o:=by grind [opAt]
  have hw':=wZ (ops:=ops) st.den o;rw[hwant] at hw';refine ⟨k',rfl,hk,rfl,?_⟩;have hg:=stepGR_op (P:=P) (b:=b) (a:=Lu b a) (k:=k') (cs:=cs) (w:=w) (rest:=rest) ho' hw';simp_all [Oper.semAt_eq,Jt,Dc]
theorem amu(hC:oC P C)(hF:oD P C){fn:Func}{g:Nat}{r:Option (Nat×Nat)}{td:List It}{c:Core}{stk:List Fw}{x:Nat×Func×List SV}{φ:Sh->Prop}(hfn:C.fns.get g=ae fn)(hr:Jo C fn td c=ae x)
  (ih:wL P C K x.1 ao [.code []] {c with tm:=x.2.2++bf (x.2.1.ntmps - x.2.2.length) .any} ({g,r,td,tm:=c.tm,lp:=ao}::stk) φ):wL P C K g r td c stk φ:=by
 intro H E w a items rs B ms cs fn' h hfn' st hi hm hs hnd hx;rw[hfn] at hfn';cases hfn';unfold Jo at hr;split at hr
 ·rename_i p i rest k
  split at hr
  ·rename_i rid ops dr hcode
   split at hr
   ·rename_i o ho
    split at hr
    ·rename_i hwant
     split at hr
     ·rename_i kk hop
      split at hr
      ·rename_i f ad5
       split at hr
       ·rename_i g2 caps hev
        split at hr
        ·cases hr
        ·rename_i hspec
         split at hr
         ·rename_i vX hfn2
          cases hb:(cq (kk.args.toList.map (oI c.tm)++caps).length vX.ntmps&&vX.body.isSome)<;>simp only[hb,cond_true,cond_false] at hr
          ·cases hr
          cases hr;simp only[ak] at hb;obtain ⟨body2,Jp⟩:=bG.1 hb.2;have hP2:=hC.fn g2 vX hfn2;obtain ⟨k',rfl,hk,rfl,hg⟩:=XJ (P:=P) (b:=bq g (NY r) (marks rs)) (w:=w) st hi hcode ho hwant hop (ms++cs);have df:=ou (H:=H) (E:=E) st.den f;rw[hev] at df;obtain ⟨vs,ef,hvs⟩:=df;have hargs:=(DJ st.den kk.args.toList).append hvs;have hent:=hF.en g2 (.inr (by grind));have hrun:(execOp a.eval o).run P w=.ok (.enter g2 (kk.args.map a.eval++vs)) w:=by
           simp_all [execOp,resolve,cW,invoke,xA]
          have henter:step P (lone (pW (bq g (NY r) (marks rs)) a (.inRegion ops (i::rest)::k')) (ms++cs) w)=.next (lone (cw P g2 (kk.args.map a.eval++vs) .normal) (pW (bq g (NY r) (marks rs)) a (.inRegion ops (i::rest)::k')::(ms++cs)) w):=
           step_lone_go (by simp_all [bZ,pW])
          rw[aaF hP2 Jp] at henter;have hl:=hargs.length;have hlen:(kk.args.map a.eval++vs).size=(kk.args.toList.map (oI c.tm)++caps).length:=by
           simp_all
          have st2:St C K H E w {c with tm:=(kk.args.toList.map (oI c.tm)++caps)++bf (vX.ntmps - (kk.args.toList.map (oI c.tm)++caps).length) .any} {tmps:=(kk.args.map a.eval++vs)++bo (vX.ntmps - (kk.args.map a.eval++vs).size) undef,defers:=[]}:=by
           refine ⟨?_,st.hp,st.o7,st.free,st.gl,rfl⟩;have:((kk.args.map a.eval++vs)++bo (vX.ntmps - (kk.args.map a.eval++vs).size) undef).toList=(kk.args.toList.map a.eval++vs.toList)++bf (vX.ntmps - (kk.args.toList.map (oI c.tm)++caps).length) undef:=by
            rw[hlen];simp
           simp only[this];exact hargs.append (jl _ _ (by simp))
          have hit2:pV (nC vX) [.code []] [.code body2]:=by
           have:=bV (body:=nC vX) [] gY;simp_all [oh,nC]
          have hs2:wG C H E h ({g,r,td:=.reg p (i::rest)::k,tm:=c.tm,lp:=ao}::stk) (pW (bq g (NY r) (marks rs)) a (.inRegion ops (i::rest)::k')::ms) (rs++B):=
           ⟨rs,B,by simp[KE],⟨fn,a,_,hfn,st.den,st.defers,hi,hm,rfl⟩,hs⟩
          exact (ih H E w _ _ [] (rs++B) (_::ms) cs vX h hfn2 st2 hit2 (fun _ hy=>by cases hy) hs2 (by grind) hx).of (.one henter)
         ·cases hr
       ·cases hr
      ·cases hr
     ·cases hr
    ·cases hr
   ·cases hr
  ·cases hr
 ·cases hr
theorem aj6{fn:Func}{g:Nat}{r:Option (Nat×Nat)}{td:List It}{c:Core}{stk:List Fw}{l l' d:Nat}{args:List SV}{f:Fw}{p:List Nat}{Hl:Func}{x:Operand}{ps:Array Tmp}{ca cb:Code}{φ:Sh->Prop}(hfn:C.fns.get g=ae fn)(hr:yieldOf fn td c=ae (l,args))
  (hy:yW stk=ae (l',d,f,p)) (hff:C.fns.get f.g=ae Hl) (hcf:oh (nC Hl) p=.rangeFunc x ps ca cb) (hsz:bJ ps.size args.length=ah) (hll:l=l')
  (ih:wL P C K f.g (ae (l',d)) [.code (0::p),.SI,.code (1::p)] {c with tm:=(ps.toList.zip args).foldl (fun t x=>t.set x.1 x.2) f.tm} ({g,r,td,tm:=c.tm,lp:=ao}::stk) φ):wL P C K g r td c stk φ:=by
 intro H E w a items rs B ms cs fn' h hfn' st hi hm hs hnd hx;rw[hfn] at hfn';cases hfn';subst hll;unfold yieldOf at hr;split at hr
 ·rename_i q i rest k
  split at hr
  ·rename_i rid ops dr hcode
   split at hr
   ·rename_i o ho
    split at hr
    ·rename_i hwant
     split at hr
     ·rename_i kk hop
      split at hr
      ·rename_i fo ad5
       split at hr
       ·rename_i l2 xa ya hev
        cases hb:(bJ xa.size 0&&bJ ya.size 0)<;>simp only[hb,cond_true,cond_false] at hr
        ·cases hr
        cases hr;simp only[ak] at hb;obtain rfl:xa=#[]:=fK (fc hb.1);obtain rfl:ya=#[]:=fK (fc hb.2);obtain ⟨k',rfl,hk,rfl,hg⟩:=XJ (P:=P) (b:=bq g (NY r) (marks rs)) (w:=w) st hi hcode ho hwant hop (ms++cs);have df:=ou (H:=H) (E:=E) st.den fo;rw[hev] at df;have ef:a.eval fo=.func (.yield l) #[] #[]:=by simp_all [Den]
        have hargs:=DJ st.den kk.args.toList;obtain ⟨ayw,af,ob,y1,y2,y3,y4,y5⟩:=ams hy hs;rw[hff] at y1;cases y1;obtain ⟨x',ps',ca',cb',df',e1,rfl⟩:=y4;rw[hcf] at e1;cases e1;have hw:=(hx _ _ y3).1;have hsz2:(kk.args.map a.eval).size=ps.size:=by
         simp_all
        have hrun:(execOp a.eval o).run P w=.ok (.round l f.g ((ps.zip (kk.args.map a.eval)).foldl (fun tmps (t,a)=>tmps.setIfInBounds t a) af.tmps) ca cb) w:=by
         have h1:(execOp a.eval o).run P w=(Instr.yield l (kk.args.map a.eval)).run P w:=by
          simp_all [execOp,resolve,cW,invoke]
         simp_all [run_yield]
        have aiB:step P (lone (pW (bq g (NY r) (marks rs)) a (.inRegion ops (i::rest)::k')) (ms++cs) w)=.next (lone (kY l f.g ((ps.zip (kk.args.map a.eval)).foldl (fun tmps (t,a)=>tmps.setIfInBounds t a) af.tmps) ca cb .normal) (pW (bq g (NY r) (marks rs)) a (.inRegion ops (i::rest)::k')::(ms++cs)) w):=
         step_lone_go (by simp_all [bZ])
        rw[aj3] at aiB;have hfold:ni H E ((ps.toList.zip (kk.args.toList.map (oI c.tm))).foldl (fun t x=>t.set x.1 x.2) f.tm) ((ps.zip (kk.args.map a.eval)).foldl (fun tmps (t,a)=>tmps.setIfInBounds t a) af.tmps).toList:=by
         have e:(ps.zip (kk.args.map a.eval)).foldl (fun tmps (t,a)=>tmps.setIfInBounds t a) af.tmps=(ps.toList.zip (kk.args.toList.map a.eval)).foldl (fun ts x=>ts.setIfInBounds x.1 x.2) af.tmps:=by
          rw[<-Array.foldl_toList];simp
         rw[e];refine XI y2 (fun j u v hu hv=>?_) (by simp);rw[List.getElem?_zip_eq_some] at hu hv;obtain ⟨u1,u2⟩:=hu;obtain ⟨v1,v2⟩:=hv;rw[u1] at v1;refine ⟨aS v1,?_⟩;obtain ⟨vv,w1,w2⟩:=hargs.get u2;simp_all
        have st2:St C K H E w {c with tm:=(ps.toList.zip (kk.args.toList.map (oI c.tm))).foldl (fun t x=>t.set x.1 x.2) f.tm} {tmps:=(ps.zip (kk.args.map a.eval)).foldl (fun tmps (t,a)=>tmps.setIfInBounds t a) af.tmps,defers:=[]}:=
         ⟨hfold,st.hp,st.o7,st.free,st.gl,rfl⟩
        have hit2:pV (nC Hl) [.code (0::p),.SI,.code (1::p)] [.code ca,.beginRound,.code cb]:=by
         have h0:oh (nC Hl) (0::p)=ca:=by simp[oh,hcf,child]
         have h1:oh (nC Hl) (1::p)=cb:=by simp[oh,hcf,child]
         have:=bV (body:=nC Hl) (0::p) (.SI (.code (1::p) .nil));simp_all
        have hs2:wG C H E h ({g,r,td:=.reg q (i::rest)::k,tm:=c.tm,lp:=ao}::stk) (pW (bq g (NY r) (marks rs)) a (.inRegion ops (i::rest)::k')::ms) (rs++B):=
         ⟨rs,B,by simp[KE],⟨fn,a,_,hfn,st.den,st.defers,hi,hm,rfl⟩,hs⟩
        exact (ih H E w _ _ [] (rs++B) (_::ms) cs Hl h hff st2 hit2 (fun _ hy=>by cases hy) hs2 (by grind) hx).of (.one aiB)
       ·cases hr
      ·cases hr
     ·cases hr
    ·cases hr
   ·cases hr
  ·cases hr
 ·cases hr
theorem apY(hC:oC P C)(hF:oD P C){fn:Func}{g g':Nat}{r r':Option (Nat×Nat)}{td uJ:List It}{c c':Core}{stk AZ:List Fw}{q:List oM}{φ:Sh->Prop}(hfn:C.fns.get g=ae fn)
  (hev:evW C fn g r td c stk=.next g' r' uJ c' AZ q) (hq:bi q) (ih:wL P C K g' r' uJ c' AZ φ):wL P C K g r td c stk φ:=by
 unfold evW at hev;split at hev
 ·split at hev
  ·cases hev
  ·rename_i l d
   intro H E w a items rs B ms cs fn' h hfn' st hi hm hs hnd hx;rw[hfn] at hfn';cases hfn';cases hi;exact Ph hfn hev hq ih rfl rfl st hs hnd hx fun c' cs' v w' hrun=>ZR rfl rfl hrun
 ·rename_i k
  split at hev
  ·cases hev
  ·rename_i l d
   split at hev
   ·rename_i l' s hset
    cases hev;obtain ⟨hll,_⟩:=hq;have hll:l=l':=hll;subst hll;intro H E w a items rs B ms cs fn' h hfn' st hi hm hs hnd hx;rw[hfn] at hfn';cases hfn';cases hi with
    |SI hk=>
     rename_i k';obtain ⟨lp,q1,q2,q3,q4,q5⟩:=XH hfn hset hs (bE.1 hnd).2.1;have hw:=(hx _ _ q1).1;have hrun:=run_beginRound (P:=P) hw q2;have e:({lp with state:=LoopState.busy}:Loop)={lp with state:=Df .busy,pending:=xg (nC fn) .busy}:=by
      cases lp;simp only at q3;subst q3;rfl
     rw[e] at hrun;have hs1:=XE (P:=P) (b:=bq g (ae l) (marks rs)) (a:=a) (k:=k') (cs:=ms++cs) rfl hrun;have hno:l ∉ rs:=fun hmm=>(bE.1 hnd).2.2 l hmm l q4 rfl;have:=ih H E _ a k' rs B ms cs fn _ hfn (st.putObj (o':=.loop {lp with state:=Df .busy,pending:=xg (nC fn) .busy}) hx q1) hk (fun y hy=>by
      grind [vM]) q5 hnd (hx.put q1)
     rw[Tn hset] at this;exact this.of (.one hs1)
   ·cases hev
 ·rename_i p k
  split at hev
  ·cases hev
  ·rename_i hret
   split at hev
   ·cases hev
   ·rename_i l d
    intro H E w a items rs B ms cs fn' h hfn' st hi hm hs hnd hx;rw[hfn] at hfn';cases hfn';have QO:∃k',items=.code .ret::k':=by
     cases hi with
     |code p hk=>simp_all |loop p y hl hk=>simp_all
    obtain ⟨k',rfl⟩:=QO;refine Ph hfn hev hq ih rfl rfl st hs hnd hx fun c' cs' v w' hrun=>?_
    simp only[xg,hret] at hrun;exact ZT rfl rfl hrun
  ·rename_i id asg
   split at hev
   ·cases hev
   ·rename_i l d
    split at hev
    ·cases hev
    ·rename_i hno
     intro H E w a items rs B ms cs fn' h hfn' st hi hm hs hnd hx;rw[hfn] at hfn';cases hfn';have QO:∃k',items=.code (.exit id)::k'/\pV (nC fn) k k':=by
      cases hi with
      |code p hk=>simp_all |loop p y hl hk=>simp_all
     obtain ⟨k',rfl,hk⟩:=QO;refine Ph hfn hev hq ih rfl rfl st hs hnd hx fun c' cs' v w' hrun=>?_
     simp only[xg,asg] at hrun;exact XF rfl rfl (agV hk hno) hrun
  ·cases hev
 ·rename_i p i rest k
  split at hev
  ·rename_i l args hy
   split at hev
   ·rename_i l' d f pf hyw
    split at hev
    ·rename_i Hl hff
     split at hev
     ·rename_i x ps ca cb hcf
      cases hb:bJ ps.size args.length<;>simp only[hb,cond_true,cond_false] at hev
      ·cases hev
      ·cases hev
       exact aj6 hfn hy hyw hff hcf hb hq.1 ih
     ·cases hev
    ·cases hev
   ·cases hev
  grind [amu]
 ·cases hev
end
section
variable{P:Program}{C:Ctx}{K:Kx}{H H' G9 H0:Mem}{E E' He E1:Env}{w w' w'' w0:World}{h:Hp}
theorem aeo{fn:Func}{g:Nat}{r:Option (Nat×Nat)}{td:List It}{c:Core}{stk:List Fw}(hev:evW C fn g r td c stk=.plain):r=ao\/endsB fn td=ag:=by
 cases r with
 |none=>simp |some x=>
  right;obtain ⟨l,d⟩:=x;unfold evW at hev;split at hev
  ·grind [Ju]
  ·rfl
  ·grind [endsB,Ju]
  ·rfl
  ·rename_i hne1 hne2 auN ayx
   unfold endsB;split
   ·exact (hne1 rfl).elim
   ·exact (auN _ _ rfl).elim
   ·rfl
theorem FD(hC:oC P C)(hF:oD P C)(hN:∀g fn,C.fns.get g=ae fn->sV (nC fn)=ah){pause:Nat->List It->Bool}{m:Nat}{φ:Sh->Prop}:∀{n g:Nat} {r:Option (Nat×Nat)} {td:List It} {c:Core} {stk:List Fw},
  (XG C pause m n g r td c stk).All (apW P C (K0 H0 w0) φ)->wL P C (K0 H0 w0) g r td c stk φ
 |0,g,r,td,c,stk,h=>h |n+1,g,r,td,c,stk,h=>by
  intro H E w a items rs B ms cs fn hp hfn st hi hm hs hnd hx;simp only[XG,hfn] at h;cases hpz:pause g td<;>simp only[hpz,cond_true,cond_false] at h
  rotate_left
  ·exact h H E w a items rs B ms cs fn hp hfn st hi hm hs hnd hx
  split at h
  ·exact h.elim
  ·exact h H E w a items rs B ms cs fn hp hfn st hi hm hs hnd hx
  ·rename_i hev
   obtain ⟨hq,h⟩:=agT h;exact apY hC hF hfn hev hq (FD hC hF hN h) H E w a items rs B ms cs fn hp hfn st hi hm hs hnd hx
  ·rename_i hev
   have hK:=Ip (K:=KC H E w c.hp) hC hF (Nl hC hF m);obtain ⟨sig,h1,h2⟩:=aj2 hC hF hK (hN g fn hfn) (bz h) st.re hi (bq g (NY r) (marks rs)) (ms++cs) (by
    rcases aeo hev with e|e
    ·left;rw[e];rfl
    grind)
   cases sig with
   |go uJ c'=>
    obtain ⟨a',w',H',E',items',q1,q2,q3,q4⟩:=h2;exact (FD hC hF hN h1 H' E' w' a' items' rs B ms cs fn hp hfn (st.un q2) q4 hm (hs.le q3.x9 q3.BR) hnd (hx.keep st q2)).of q1
   |halt uJ c'=>
    obtain ⟨a',w',H',E',items',q1,q2,q3,q4⟩:=h2;exact (h1 H' E' w' a' items' rs B ms cs fn hp hfn (st.un q2) q4 hm (hs.le q3.x9 q3.BR) hnd (hx.keep st q2)).of q1
   |done sv c'=>
    obtain ⟨a',w',H',E',todo,q1,q2,q3,q5⟩:=h2;cases r with
    |some _=>exact h1.elim |none=>
    have st':=st.un q2;obtain ⟨w2,hp2,c1,st2,hx2,hs2⟩:=collects g todo (ms++cs) st' (hx.keep st q2) hm (hs.le q3.x9 q3.BR) hnd;obtain ⟨v,q4,q6⟩:=q5 _ _ st2;have q1':Steps P (lone (pW (bq g (NY ao) (marks rs)) a items) (ms++cs) w) (lone {(base g).at a' todo with mode:=.returning} (ms++cs) w2):=q1.trans c1
    cases stk with
    |nil=>
     cases ms with
     |cons _ _=>exact hs.elim |nil=>
      obtain ⟨s,e1,e2⟩:=h1;obtain ⟨H2,r2⟩:=O5 st2 e1 q4;exact ⟨a',w2,v,s,H2,todo,fn,hfn,q1',st2.defers,e2,r2,q6⟩
    |cons f stk=>
     cases ms with
     |nil=>exact hs.elim |cons mf ms=>
      have hleave:step P (lone {(base g).at a' todo with mode:=.returning} (mf::(ms++cs)) w2)=.next (lone (mf.finish v) (ms++cs) w2):=
       step_leave_returned ⟨rfl,st2.defers,rfl,fn,hC.fn g fn hfn,q6⟩
      obtain ⟨rs',B',hB,p1,p2⟩:=hs2;subst hB;have hm':∀y∈rs',hp2 y=ae (.deferred (ae [])):=by
       obtain ⟨_,_,_,_,_,_,_,z,_⟩:=p1;exact z
      have LM:=(bE.1 hnd).2.1;simp only at h1;split at h1
      ·rename_i hlp
       split at h1
       ·rename_i x hpop
        obtain ⟨Hl,a2,V6,g1,g2,g3,g4,g5⟩:=aiA p1 hlp hpop q4 st2;rw[g4] at hleave;have hB2:KE f=[]:=by simp[KE,hlp]
        rw[hB2,List.append_nil] at LM;exact (FD hC hF hN h1 H' E' w2 a2 V6 rs' B' ms cs Hl hp2 g1 g2 g3 hm' p2 LM (by simp_all)).of (q1'.trans (.one hleave))
       ·exact h1.elim
      ·rename_i l p s hlp
       cases hbz:aiz s<;>simp only[hbz,cond_true,cond_false] at h1
       rotate_left
       ·exact h1.elim
       obtain ⟨Hl,a2,V6,g1,g2,g3,g4,g5,g6⟩:=p1;rw[hlp] at g6;obtain ⟨g7,o,g8,g9⟩:=g6;obtain ⟨lp,rfl,r1,r2,_⟩:=g9.loop;have hw:=(hx2 _ _ g8).1;have hrun:=run_endLoop (P:=P) hw (by rw[r1];cases s<;>simp[Df] at hbz ⊢;cases hbz)
       subst g7;rw[VG] at hleave;have hend:=ab9 (b:=bq f.g (NY f.r) (marks rs')) (a:=a2) (k:=V6) (cs:=ms++cs) hrun;have hB2:KE f=[l]:=by simp[KE,hlp]
       rw[hB2] at LM;have hl1:l ∉ rs':=fun hmm=>(bE.1 (bE.1 LM).1).2.2 l hmm l (by simp) rfl;have hl2:l ∉ B':=fun hmm=>(bE.1 LM).2.2 l (by simp) l hmm rfl;have auO:(rs'++B').Nodup:=by
        grind
       have NW:=st2.putObj (o':=.loop {lp with state:=.exhausted}) hx2 g8
       have st4:St C (K0 H0 w0) H' E' (w2.putObj l (.loop {lp with state:=.exhausted})) {c' with tm:=f.tm} a2:=⟨g2,NW.hp,NW.o7,NW.free,NW.gl,g3⟩
       have hit:pV (nC Hl) (aiy f s) ((lp.pending.map Item.code).toList++V6):=by
        rw[r2];cases s with
        |done q=>exact .code q g4 |ready=>exact g4 |busy=>exact g4
       exact (FD hC hF hN h1 H' E' _ a2 _ rs' B' ms cs Hl _ g1 st4 hit (fun y hy=>by grind [vM]) (p2.put hl2) auO (hx2.put g8)).of ((q1'.trans (.one hleave)).trans (.one hend))
theorem acd(hC:oC P C)(hF:oD P C){fn vX:Func}{g g2:Nat}{p:List Nat}{k:List It}{c:Core}{stk:List Fw}{x:Operand}{ps:Array Tmp}{ca cb:Code}{caps:List SV}{φ:Sh->Prop}(hfn:C.fns.get g=ae fn)
  (hcode:oh (nC fn) p=.rangeFunc x ps ca cb) (hx:oI c.tm x=.fn g2 caps) (hfn2:C.fns.get g2=ae vX) (hb:(cq (1+caps.length) vX.ntmps&&vX.body.isSome)=ah)
  (ih:∀l,wL P C K g2 ao [.code []] {c with tm:=(.val (yv l)::caps)++bf (vX.ntmps - (1+caps.length)) .any} ({g,r:=ao,td:=k,tm:=c.tm,lp:=ae (l,p,.ready)}::stk) φ):wL P C K g ao (.code p::k) c stk φ:=by
 intro H E w a items rs B ms cs fn' h hfn' st hi hm hs hnd hxt;rw[hfn] at hfn';cases hfn';simp only[ak] at hb;obtain ⟨body2,Jp⟩:=bG.1 hb.2;have hP2:=hC.fn g2 vX hfn2;have QO:∃k',items=.code (.rangeFunc x ps ca cb)::k'/\pV (nC fn) k k':=by
  cases hi with
  |code p hk=>simp_all |loop p y hl hk=>simp_all
 obtain ⟨k',rfl,hk⟩:=QO;have df:=ou (H:=H) (E:=E) st.den x;rw[hx] at df;obtain ⟨vs,ef,hvs⟩:=df;have hent:=hF.en g2 (.inr (by grind));let ob:Obj:=.loop {state:=.ready,pending:=ao,fn:=g,tmps:=a.tmps,params:=ps,assign:=ca,body:=cb,defers:=w.heap.size}
 let w2:World:=(w.alloc (.deferred (ae []))).alloc ob
 have he:(Instr.enterLoop g a.tmps ps ca cb ao).run P w=.ok (w.heap.size+1,[{target:=.collected w.heap.size,args:=#[]}]) w2:=run_enterLoop_outer g a.tmps ps ca cb;have hstep:step P (lone (pW (bq g ao (marks rs)) a (.code (.rangeFunc x ps ca cb)::k')) (ms++cs) w) =
   .next (lone (cw P g2 (#[yv (w.heap.size+1)]++vs) .normal) (pW (bq g ao (marks (w.heap.size::rs))) a (.inRangeFunc (w.heap.size+1)::k')::(ms++cs)) w2):=by
  have h0:=stepR_rangeFunc (P:=P) (b:=bq g ao (marks rs)) (a:=Lu (bq g ao (marks rs)) a) (k:=k') (cs:=ms++cs) (w:=w) (g:=x) (ps:=ps) (assign:=ca) (body:=cb) (l:=w.heap.size+1) (mark:=[{target:=.collected w.heap.size,args:=#[]}])
   (w₁:=w2) (w₁':=w2) (w₂:=w2) (d:={target:=.fn (.func g2) vs,args:=#[yv (w.heap.size+1)]}) (f:=g2) (args:=#[yv (w.heap.size+1)]++vs) he
   (by rw[Jt];simp[resolve,cW,ef,yv,show ∀v,a.eval (.const v)=v from fun _=>rfl]) (by simp[invoke,xA hent])
  rw[Dc,h0];simp[pW,Frame.atR,Lu,bq,marks,st.defers]
 rw[aaF hP2 Jp] at hstep;have hl:=hvs.length;have st1:=(st.Tm (.deferred (ae []))).Tm ob;have hx1:=(hxt.alloc st (.deferred (ae []))).alloc (st.Tm _) ob;have hsz:(w.alloc (.deferred (ae []))).heap.size=w.heap.size+1:=World.size_alloc ..;rw[hsz] at hx1;have hB:∀y∈rs++B,y<w.heap.size:=fun y hy=>by
  have:∃o,h y=ae o:=by
   rcases List.mem_append.1 hy with hy|hy
   ·simp_all
   ·exact hs.has y hy
  obtain ⟨o,ho⟩:=this;exact (Array.getElem?_eq_some_iff.1 (hxt y o ho).1).1
 have hold:∀y,y<w.heap.size->zQ (zQ h w.heap.size (.deferred (ae []))) (w.heap.size+1) ob y=h y:=fun y hy=>by
  grind [vM]
 have hs1:wG C H E (zQ (zQ h w.heap.size (.deferred (ae []))) (w.heap.size+1) ob) stk ms B:=
  (hs.put (fun hm=>by have:=hB _ (hY _ hm);omega)).put (fun hm=>by have:=hB _ (hY _ hm);omega)
 have st2:St C K H E w2 {c with tm:=(.val (yv (w.heap.size+1))::caps)++bf (vX.ntmps - (1+caps.length)) .any} {tmps:=(#[yv (w.heap.size+1)]++vs)++bo (vX.ntmps - (#[yv (w.heap.size+1)]++vs).size) undef,defers:=[]}:=by
  refine ⟨?_,st1.hp,st1.o7,st1.free,st1.gl,rfl⟩;have:((#[yv (w.heap.size+1)]++vs)++bo (vX.ntmps - (#[yv (w.heap.size+1)]++vs).size) undef).toList=(yv (w.heap.size+1)::vs.toList)++bf (vX.ntmps - (1+caps.length)) undef:=by
   simp_all
  simp only[this];exact ni.append (l:=.val (yv (w.heap.size+1))::caps) (vs:=yv (w.heap.size+1)::vs.toList) ⟨⟨rfl,rfl⟩,hvs⟩ (jl _ _ (by simp))
 have hit2:pV (nC vX) [.code []] [.code body2]:=by
  have:=bV (body:=nC vX) [] gY;simp_all [oh,nC]
 have hs2:wG C H E (zQ (zQ h w.heap.size (.deferred (ae []))) (w.heap.size+1) ob) ({g,r:=ao,td:=k,tm:=c.tm,lp:=ae (w.heap.size+1,p,.ready)}::stk) (pW (bq g ao (marks (w.heap.size::rs))) a (.inRangeFunc (w.heap.size+1)::k')::ms) ((w.heap.size::rs)++[w.heap.size+1]++B):=by
  refine ⟨w.heap.size::rs,B,by simp[KE],⟨fn,a,k',hfn,st.den,st.defers,hk,fun y hy=>?_,?_⟩,hs1⟩
  ·rcases List.mem_cons.1 hy with rfl|hy
   ·rw[vM (by omega),FC]
   ·rw[hold y (hB y (List.mem_append_left _ hy))];exact hm y hy
  ·exact ⟨rfl,ob,FC,x,ps,ca,cb,w.heap.size,hcode,rfl⟩
 have LM:(([]:List Nat)++((w.heap.size::rs)++[w.heap.size+1]++B)).Nodup:=by
  grind
 exact (ih (w.heap.size+1) H E w2 _ _ [] _ (_::ms) cs vX _ hfn2 st2 hit2 (fun _ hy=>by cases hy) hs2 LM hx1).of (.one hstep)
end
structure Iu where
 g:Nat
 r:Option (Nat×Nat)
 td:List It
 c:Core
 stk:List Fw
def qRO:Option (Nat×Nat)->Option (Nat×Nat)->Option (List oM)
 |none,ao=>ae [] |some (l,d),ae (l',d')=>qI (bJ d d') (ae [.nat l l']) |_,_=>ao
def amv:Ho->Ho->Bool
 | .ready,.ready=>ah | .busy,.busy=>ah | .done p,.done q=>p==q |_,_=>ag
def amw:Option (Nat×List Nat×Ho)->Option (Nat×List Nat×Ho)->Option (List oM)
 |none,ao=>ae [] |some (l,p,s),ae (l',p',s')=>qI (p==p'&&amv s s') (ae [.nat l l']) |_,_=>ao
def Tq(hp:List (Nat×SB))(ρ:List (Nat×Rn)):List Fw->List Fw->Option (List oM)
 |[],[]=>ae [] |f::s,f'::s'=>qI (f.g==f'.g&&zu f.td f'.td) (uU (qRO f.r f'.r) (uU (amw f.lp f'.lp) (uU (qL hp ρ f.tm f'.tm) (Tq hp ρ s s')))) |_,_=>ao
def Tt:List Fw->List Fw->Bool
 |[],[]=>ah |f::s,f'::s'=>f.g==f'.g&&zu f.td f'.td&&(f.r.isSome==f'.r.isSome)&&(f.lp.isSome==f'.lp.isSome)&&Tt s s' |_,_=>ag
def amx:List Fw->List Fw->List (Nat×Rn)
 |f::s,f'::s'=>Fz f.tm f'.tm++amx s s' |_,_=>[]
def Iu.rn(t:Iu)(c:Core)(stk:List Fw):List (Nat×Rn):=infer t.c.hp c.hp 4000 (Fz t.c.tm c.tm++amx t.stk stk) []
def QS(g:Nat)(r:Option (Nat×Nat))(td:List It)(c:Core)(stk:List Fw):Nat->List Iu->Tree pI
 |_,[]=>.fail |k,t::ts=>bif g==t.g&&zu td t.td&&Tt stk t.stk then match uU (qRO r t.r) (uU (qC (t.rn c stk) c t.c) (Tq c.hp (t.rn c stk) stk t.stk)) with
   |some l=>.leaf (.at_ k l) |none=>QS g r td c stk (k+1) ts
  else QS g r td c stk (k+1) ts
def amy(ts:List Iu):amq->Tree pI
 | .fin v c=>match finish c v with
  |some s=>.leaf (.ret s) |none=>.fail
 | .stop g r td c stk=>QS g r td c stk 0 ts
def aep(C:Ctx)(pause:Nat->List It->Bool)(m n g:Nat)(r:Option (Nat×Nat))(td:List It)(c:Core)(stk:List Fw)(ts:List Iu):Tree pI:=(XG C pause m n g r td c stk).bind (amy ts)
def amA(P:Program)(C:Ctx)(K:Kx)(ts:List Iu)(φ:Sh->Prop):pI->Prop
 | .ret s=>φ s | .at_ k l=>bi l/\∃t,ts[k]?=ae t/\wL P C K t.g t.r t.td t.c t.stk φ
@[irreducible] def Nv (ψ:pI->Prop) (t:Tree pI):Prop:=t.All ψ
theorem FH(ψ:pI->Prop)(t:Tree pI):Nv ψ t=t.All ψ:=by unfold Nv;rfl
def DL:Nat->List It->Bool:=fun _ _=>ag
def LQ:BT Func->Bool:=BT.allB fun _ fn=>sV (nC fn)
section
variable{P:Program}{C:Ctx}{K:Kx}{H H' G9 H0:Mem}{E E' He E1:Env}{w w' w'' w0:World}{h:Hp}
theorem aer(hx:LQ C.fns=ah):∀g fn,C.fns.get g=ae fn->sV (nC fn)=ah:=fun _ _ hg=>(BT.MW hx).get hg
theorem aiC{r r':Option (Nat×Nat)}{q:List oM}(hx:qRO r r'=ae q)(ha:bi q):r=r':=by
 unfold qRO at hx;split at hx
 ·rfl
 ·obtain ⟨h1,h2⟩:=nV hx
  cases h2;have h3:_=_:=ha.1;simp_all
 ·cases hx
theorem amB{s t:Ho}(hx:amv s t=ah):s=t:=by
 cases s<;>cases t<;>simp[amv] at hx<;>simp_all
theorem amC{r r':Option (Nat×List Nat×Ho)}{q:List oM}(hx:amw r r'=ae q)(ha:bi q):r=r':=by
 unfold amw at hx;split at hx
 ·rfl
 ·obtain ⟨h1,h2⟩:=nV hx
  cases h2;simp only[ak,beq_iff_eq] at h1;have h3:_=_:=ha.1;grind [amB]
 ·cases hx
def QT(hp:List (Nat×SB))(ρ:List (Nat×Rn)):List Fw->List Fw->Prop
 |[],[]=>True |f::s,f'::s'=>f.g=f'.g/\f.td=f'.td/\f.r=f'.r/\f.lp=f'.lp/\Xm hp ρ f.tm f'.tm/\QT hp ρ s s' |_,_=>False
theorem aaG{hp:List (Nat×SB)}{ρ:List (Nat×Rn)}:∀{s s':List Fw} {q:List oM},Tq hp ρ s s'=ae q->bi q->QT hp ρ s s'
 |[],[],_,_,_=>trivial |f::s,f'::s',q,hx,ha=>by
  simp only[Tq] at hx;obtain ⟨h1,h2⟩:=nV hx;obtain ⟨a,b,h3,h4,rfl⟩:=oU h2;obtain ⟨a2,b2,h5,h6,rfl⟩:=oU h4;obtain ⟨a3,b3,h7,h8,rfl⟩:=oU h6;simp only[ak,beq_iff_eq] at h1;have e1:=bw ha;have e2:=bw e1.2;have e3:=bw e2.2;exact ⟨h1.1,CY h1.2,aiC h3 e1.1,amC h5 e2.1,Hf _ h7 e3.1,aaG h8 e3.2⟩
 |[],_::_,_,hx,_=>by simp[Tq] at hx |_::_,[],_,hx,_=>by simp[Tq] at hx
theorem wG.weak{hp:List (Nat×SB)}{ρ:List (Nat×Rn)}(hh:nI K H E w hp):∀{s s':List Fw} {ms:List Frame} {B:List Nat},wG C H E h s ms B->QT hp ρ s s'->wG C H (wo ρ E) h s' ms B
 |[],[],[],_,x,_=>x |⟨g,r,td,tm,lp⟩::s,⟨g',r',uJ,tm',lp'⟩::s',m::ms,B,⟨rs,B',hB,⟨fn,a,items,h1,h2,h3⟩,h6⟩,⟨e1,e2,e3,e4,e5,e6⟩=>by
  simp only at e1 e2 e3 e4 e5;subst e1 e2 e3 e4;exact ⟨rs,B',hB,⟨fn,a,items,h1,Aa hh _ e5 h2,h3⟩,wG.weak hh h6 e6⟩
 |[],[],_::_,_,x,_=>x.elim |_::_,_,[],_,x,_=>x.elim |[],_::_,_,_,_,x=>x.elim |_::_,[],_::_,_,_,x=>x.elim
theorem aes{hp:List (Nat×SB)}{ρ:List (Nat×Rn)}:∀{s s':List Fw} {g:Nat},QT hp ρ s s'->J8 g s'=J8 g s
 |[],[],_,_=>rfl |f::s,f'::s',_,⟨e1,_,_,_,_,e4⟩=>by simp only[J8];rw[e1];exact aes e4 |[],_::_,_,h=>h.elim |_::_,[],_,h=>h.elim
theorem aeu{g:Nat}{r:Option (Nat×Nat)}{td:List It}{c c':Core}{stk AZ:List Fw}{φ:Sh->Prop}(ρ:List (Nat×Rn))(hle:leC ρ c c')(hs:QT c.hp ρ stk AZ)(hg:wL P C K g r td c' AZ φ):wL P C K g r td c stk φ:=by
 intro H E w a items rs B ms cs fn h hfn st hi hm hst hnd hx;have:=hg H (wo ρ E) w a items rs B ms cs fn h hfn (st.weak hle) hi hm (hst.weak st.hp hs) hnd (hx.weak st hle);grind [aes]
theorem Pj{φ:Sh->Prop}{ts:List Iu}{g:Nat}{r:Option (Nat×Nat)}{td:List It}{c:Core}{stk:List Fw}:∀{rs:List Iu} {k:Nat},(∀j,rs[j]?=ts[k+j]?)->(QS g r td c stk k rs).All (amA P C K ts φ)->wL P C K g r td c stk φ
 |[],_,_,hx=>hx.elim |t::rs,k,hk,hx=>by
  have hr:∀j,rs[j]?=ts[k+1+j]?:=fun j=>by have:=hk (j+1);grind
  unfold QS at hx;cases hb:(g==t.g&&zu td t.td&&Tt stk t.stk)<;>simp only[hb,cond_true,cond_false] at hx
  ·exact Pj hr hx
  ·simp only[ak,beq_iff_eq] at hb
   obtain ⟨⟨h1,h2⟩,h3⟩:=hb;split at hx
   ·rename_i l hl
    obtain ⟨a0,b0,q0,q00,rfl⟩:=oU hl;obtain ⟨a,b,q1,q2,rfl⟩:=oU q00;obtain ⟨hl,t',ht,hg⟩:=hx;have:=hk 0;simp only[List.getElem?_cons_zero,Nat.add_zero] at this;rw[<-this] at ht;cases ht;have h2:=CY h2;subst h1 h2;have e1:=bw hl;have e2:=bw e1.2;have hrr:=aiC q0 e1.1;subst hrr;exact aeu (t.rn c stk) (Xq q1 e2.1) (aaG q2 e2.2) hg
   ·exact Pj hr hx
theorem Gp(hC:oC P C)(hF:oD P C)(hN:LQ C.fns=ah){pause:Nat->List It->Bool}{m n g:Nat}{r:Option (Nat×Nat)}{td:List It}{c:Core}{stk:List Fw}{ts:List Iu}{φ:Sh->Prop}
  (hx:Nv (amA P C (K0 H0 w0) ts φ) (aep C pause m n g r td c stk ts)):wL P C (K0 H0 w0) g r td c stk φ:=by
 rw[FH] at hx;refine FD hC hF (aer hN) (pause:=pause) (m:=m) (n:=n) ((bz hx).mono fun o ho=>?_);cases o with
 |fin v c=>
  simp only[amy] at ho;split at ho
  ·rename_i s hs
   exact ⟨s,hs,ho⟩
  ·exact ho.elim
 |stop g r td c stk=>exact Pj (k:=0) (fun j=>by simp) ho
theorem U7{fn:Func}{g:Nat}{r:Option (Nat×Nat)}{td tb:List It}{c:Core}{stk:List Fw}{φ:Sh->Prop}(hfn:C.fns.get g=ae fn)(hx:Nq fn td=ae tb)(hg:wL P C K g r tb c stk φ):wL P C K g r td c stk φ:=by
 unfold Nq at hx;split at hx
 ·rename_i p k
  cases hb:Jq (oh (nC fn) p)<;>simp only[hb,cond_true,cond_false] at hx
  ·cases hx
  ·cases hx
   unfold Jq at hb;split at hb
   ·rename_i x he
    intro H E w a items rs B ms cs fn' h hfn' st hi hm hst hnd hxt;rw[hfn] at hfn';cases hfn';have h0:oh (nC fn) (0::p)=x:=by simp[oh,he,child]
    cases hi with
    |code p hk=>
     have:=bV (0::p) (fJ p x he hk);rw[h0] at this;rw[he];exact (hg H E w a _ rs B ms cs fn h hfn st this hm hst hnd hxt).of (.one aej)
    |loop p y hl hk=>
     rw[he] at hl;cases hl;have:=bV (0::p) (fJ p x he hk);rw[h0] at this;exact (hg H E w a _ rs B ms cs fn h hfn st this hm hst hnd hxt).of (.one XC)
   ·cases hb
 ·cases hx
theorem ap0(hC:oC P C){g:Nat}{fn:Func}{F:List Sh->Tree Sh}(hfn:C.fns.get g=ae fn)(hb:fn.body.isSome=ah)
  (h:∀(H:Mem) (w:World) (nY:List Sh) (args:List Value) (φ:Sh->Prop),sD H nY args->(F nY).All φ->∃vg:List Sh,sD H vg args/\∃L,wL P C (K0 H w) g ao [.code []] (nX fn.ntmps vg L) [] φ):nD P C.gls g F:=by
 refine zI C fn (hfn:=hfn) (hb:=hb) fun H w nY args φ hr hφ=>?_
 obtain ⟨vg,hr',L,hgo⟩:=h H w nY args φ hr hφ;refine ⟨vg,hr',L,fun H1 E w1 a items ms cs fn1 auP st hi hs hx=>?_⟩;cases ms with
 |cons _ _=>exact hs.elim |nil=>
  have:=hgo H1 E w1 a items [] [] [] cs fn1 (fun _=>ao) auP st hi (fun _ hy=>by cases hy) rfl (by simp) (fun b o e=>by cases e);obtain ⟨a',w',v,s,H',todo,fn0,q1,q2,q3⟩:=this;refine ⟨a',w',v,s,H',todo,fn0,q1,?_,q3⟩;have e:(base g).at a items=pW (bq g (NY ao) (marks [])) a items:=(Tj g a items).symm;rw[e];exact q2
end
end Go.Sx
