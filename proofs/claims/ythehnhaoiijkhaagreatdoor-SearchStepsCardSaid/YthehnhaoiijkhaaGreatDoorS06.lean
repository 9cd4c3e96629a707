/- Own work. -/
import Derived.Test.YthehnhaoiijkhaaGreatDoorS05
import Derived.Laws.StructEq
import Derived.RangeFuncIn
import Derived.RangeFuncRecord
open Int (ofNat)
open Array renaming getElem?_eq_some_iff->bH,replicate->dY
open Bool renaming false->aA,true->aF,and_eq_true->aJ,not_true->xG,false_eq_true->nN,not_false->wY,or_eq_true->nJ
open Go.Deferred renaming ofValue->jJ
open Go.Frame renaming enter->gQ,finish_at->mF
open Go.Op renaming eqFields->pV
open Go.Oper renaming upon->xE
open Go.Region renaming schedule->oL
open Go.Result renaming andThen_ok->fV
open Go.Sem renaming run_bind->gK,run_ite->zK,run_pure->pO
open Go.Sx.Cq renaming v->kV
open Go.Sx.AV renaming any->rY
open Go.Sx.BQ renaming all->dI,Et->eG
open Go.Sx.CX renaming code->iE,nil->qW,loop->pR
open Go.Sx.Tree renaming Eb->iH
open Go.World renaming putObj_heap_other->jG
open Go.stepG renaming apply->gX
open List renaming replicate->dU,getElem?_cons_succ->jP,getElem?_cons_zero->jQ,drop_zero->jg,contains_cons->tV,all_eq_true->dN,range->aY,mem_append->bK
open Nat renaming blt->fZ,ble->gY,le_refl->dw,le_trans->iK,lt_of_lt_of_le->jT,add_zero->jB
open Option renaming some->ay,none->aN,map_eq_some_iff->bW,isSome_iff_exists->gI
namespace Go.Sx
def adT(r:Option Rn)(id:Nat):Bool:=match r with|some (.id i)=>i==id|_=>aA
def abf(r:Option Rn):Bool:=match r with|some .nil=>aF|_=>aA
mutual
def qS(hp:List (Nat×SB))(ρ:List (Nat×Rn)):SV->SV->Option (List BQ)
 |_,.any=>ay [] |x,.sym k m=>match x with
  | .int k' n=>Dp (k'==k) (ay [.int n m]) | .sym k' n=>Dp (k'==k) (ay [.int n m]) |_=>aN
 |x,.test b=>match x with
  | .bool b'=>ay [.bool b' b] | .test b'=>ay [.bool b' b] |_=>aN
 |x,.gs id'=>match x with
  | .gs id=>Dp (adT (AA ρ id') id) (ay []) | .Bj=>Dp (abf (AA ρ id')) (ay []) |_=>aN
 |x,.ptr id' off'=>match x with
  | .ptr id off=>Dp (adT (AA ρ id') id&&off==off') (ay []) |_=>aN
 |x,.mp id'=>match x with
  | .mp id=>Dp (adT (AA ρ id') id) (ay []) |_=>aN
 |x,.fn f' l'=>match x with
  | .fn f l=>Dp (f==f') (qL hp ρ l l') |_=>aN
 |x,.agg l'=>match x with
  | .agg l=>qL hp ρ l l' |_=>aN
 |x,.Ba l'=>match x with
  | .Ba l=>qL hp ρ l l' |_=>aN
 |x,.Dv t' y=>match x with
  | .Dv t z=>Dp (t==t') (qS hp ρ z y) |_=>aN
 |x,.sh s=>(Ee hp x).map fun s'=>[.sh s' s] |x,.G5 st' n' g' i' off'=>match x with
  | .G5 st n g i off=>Dp (st==st'&&off==off') (ay [.nat n n',.L9 g g',.nat i i']) |x=>Dp (off'==0) ((Ee hp x).map fun s=>[.sh s (.pt (g' i')),.nat (g' i').length st',.bool (fZ i' n') aF])
 |x,.int k' n'=>match x with
  | .int k n=>Dp (k==k') (ay [.int n n']) | .sym k n=>Dp (k==k') (ay [.int n n']) |_=>aN
 |x,.bool b'=>match x with
  | .bool b=>Dp (b==b') (ay []) | .test b=>ay [.bool b b'] |_=>aN
 | .Fg,.Fg=>ay [] | .Bj,.Bj=>ay [] | .GN,.GN=>ay [] | .Ed,.Ed=>ay [] | .F6,.F6=>ay [] | .glob g,.glob g'=>Dp (g==g') (ay []) | .str l,.str l'=>ay [.str l l'] | .val v,.val v'=>ay [.val v v'] |_,_=>aN
def qL(hp:List (Nat×SB))(ρ:List (Nat×Rn)):List SV->List SV->Option (List BQ)
 |[],[]=>ay [] |x::l,y::l'=>Fh (qS hp ρ x y) (qL hp ρ l l') |_,_=>aN
end
def qM(hp:List (Nat×SB))(ρ:List (Nat×Rn)):List (SV×SV)->List (SV×SV)->Option (List BQ)
 |[],[]=>ay [] |(a,b)::l,(a',b')::l'=>Fh (qS hp ρ a a') (Fh (qS hp ρ b b') (qM hp ρ l l')) |_,_=>aN
def qB(hp:List (Nat×SB))(ρ:List (Nat×Rn))(id':Nat):SB->Option (List BQ)
 | .box cells' e'=>match AA ρ id' with
  |some (.id id)=>match AA hp id with
   |some (.box cells e)=>Dp (e==e') (qL hp ρ cells cells') |_=>aN
  |_=>aN
 | .row cells' e' st' n'=>match AA ρ id' with
  |some (.id id)=>match AA hp id with
   |some (.row cells e st n)=>Dp (e==e'&&st==st'&&n==n') (qL hp ρ cells cells') |_=>aN
  |_=>aN
 | .own e' st' n' g'=>match AA ρ id' with
  |some (.id id)=>match WJ hp id with
   |some (e,st,n,g)=>Dp (e==e'&&st==st') (ay [.nat n n',.get n g g']) |_=>aN
  |some .nil=>ay [.nat n' 0] |none=>aN
 | .map es'=>match AA ρ id' with
  |some (.id id)=>match AA hp id with
   |some (.map es)=>qM hp ρ es es' |_=>aN
  |_=>aN
 | .fz _ _ _=>aN | .Rt _=>aN | .Hl _ _ _ _ _=>aN | .fm _ _ _ _ _=>aN | .pm vt' M' us'=>match us',AA ρ id' with
  |[],ay (.id id)=>match AA hp id with
   |some (.pm vt M us)=>match abd M us with
    |some N=>Dp (vt==vt') (ay [.mg N M']) |none=>aN
   |_=>aN
  |_,_=>aN
 | .buf e' l'=>match AA ρ id' with
  |some (.id id)=>match AA hp id with
   |some (.buf e l)=>Dp (e==e') (ay [.str l l']) |_=>aN
  |_=>aN
def qH(hp:List (Nat×SB))(ρ:List (Nat×Rn)):List (Nat×SB)->Option (List BQ)
 |[]=>ay [] |(id',sb)::l=>Fh (qB hp ρ id' sb) (qH hp ρ l)
def qC(ρ:List (Nat×Rn))(c c':Core):Option (List BQ):=Dp (anP c'.nx ρ) (Fh (qL c.hp ρ c.tm c'.tm) (qH c.hp ρ c'.hp))
section
variable{hp:List (Nat×SB)}{ρ:List (Nat×Rn)}
theorem WQ{r:Option Rn}{id:Nat}(h:adT r id=aF):r=ay (.id id):=by
 unfold adT at h;split at h
 ·simp only[beq_iff_eq] at h;subst h;rfl
 ·cases h
theorem agN{r:Option Rn}(h:abf r=aF):r=ay .nil:=by
 unfold abf at h;split at h
 ·rfl
 ·cases h
mutual
theorem abg:∀{x:SV} (y:SV) {l:List BQ},qS hp ρ x y=ay l->dI l->Fa hp ρ x y
 |x,.any,l,h,ha=>by cases x<;>trivial |x,.sym k m,l,h,ha=>by
  cases x<;>simp only[qS] at h
  all_goals first
   |(cases h;done)
   |(obtain ⟨h1,h2⟩:=Bz h;cases h2;simp only[beq_iff_eq] at h1;subst h1;simp only[Fa];exact ⟨trivial,ha.1⟩)
 |x,.test b,l,h,ha=>by
  cases x<;>simp only[qS] at h
  all_goals first
   |(cases h;done)
   |(cases h;simp only[Fa];exact ha.1)
 |x,.gs id',l,h,ha=>by
  cases x<;>simp only[qS] at h
  all_goals first
   |(cases h;done)
   |(obtain ⟨h1,h2⟩:=Bz h;simp only[Fa];exact WQ h1)
   |(obtain ⟨h1,h2⟩:=Bz h;simp only[Fa];exact agN h1)
 |x,.ptr id' off',l,h,ha=>by
  cases x<;>simp only[qS] at h
  all_goals first
   |(cases h;done)
   |(obtain ⟨h1,h2⟩:=Bz h;simp only[aJ,beq_iff_eq] at h1;simp only[Fa];exact ⟨WQ h1.1,h1.2⟩)
 |x,.mp id',l,h,ha=>by
  cases x<;>simp only[qS] at h
  all_goals first
   |(cases h;done)
   |(obtain ⟨h1,h2⟩:=Bz h;simp only[Fa];exact WQ h1)
 |x,.fn f' l',l,h,ha=>by
  cases x<;>simp only[qS] at h
  all_goals first
   |(cases h;done)
   |(obtain ⟨h1,h2⟩:=Bz h;simp only[beq_iff_eq] at h1;simp only[Fa];exact ⟨h1,OO l' h2 ha⟩)
 |x,.agg l',l,h,ha=>by
  cases x<;>simp only[qS] at h
  all_goals first
   |(cases h;done)
   |(simp only[Fa];exact OO l' h ha)
 |x,.Ba l',l,h,ha=>by
  cases x<;>simp only[qS] at h
  all_goals first
   |(cases h;done)
   |(simp only[Fa];exact OO l' h ha)
 |x,.Dv t' y,l,h,ha=>by
  cases x<;>simp only[qS] at h
  all_goals first
   |(cases h;done)
   |(obtain ⟨h1,h2⟩:=Bz h;simp only[beq_iff_eq] at h1;simp only[Fa];exact ⟨h1,abg y h2 ha⟩)
 |x,.sh s,l,h,ha=>by
  have h0:∃s',Ee hp x=ay s'/\s'=s:=by
   cases x<;>simp only[qS,bW] at h
   all_goals
    obtain ⟨s',h1,rfl⟩:=h;exact ⟨s',h1,ha.1⟩
  obtain ⟨s',h1,rfl⟩:=h0;cases x<;>simp only[Fa]<;>exact .inl h1
 |x,.int k n,l,h,ha=>by
  cases x<;>simp only[qS] at h
  all_goals first
   |(cases h;done)
   |(obtain ⟨h1,h2⟩:=Bz h;cases h2;simp only[beq_iff_eq] at h1;simp only[Fa];exact ⟨h1,ha.1⟩)
 |x,.bool b,l,h,ha=>by
  cases x<;>simp only[qS] at h
  all_goals first
   |(cases h;done)
   |(obtain ⟨h1,h2⟩:=Bz h;simp only[beq_iff_eq] at h1;simp only[Fa];exact h1)
   |(cases h;simp only[Fa];exact ha.1)
 |x,.Fg,l,h,ha=>by cases x<;>simp only[qS] at h<;>first|(cases h;done) |(simp only[Fa])
 |x,.Bj,l,h,ha=>by cases x<;>simp only[qS] at h<;>first|(cases h;done) |(simp only[Fa])
 |x,.GN,l,h,ha=>by cases x<;>simp only[qS] at h<;>first|(cases h;done) |(simp only[Fa])
 |x,.Ed,l,h,ha=>by cases x<;>simp only[qS] at h<;>first|(cases h;done) |(simp only[Fa])
 |x,.F6,l,h,ha=>by cases x<;>simp only[qS] at h<;>first|(cases h;done) |(simp only[Fa])
 |x,.glob g,l,h,ha=>by
  cases x<;>simp only[qS] at h
  all_goals first
   |(cases h;done)
   |(obtain ⟨h1,h2⟩:=Bz h;simp only[beq_iff_eq] at h1;simp only[Fa];exact h1)
 |x,.str s,l,h,ha=>by
  cases x<;>simp only[qS] at h
  all_goals first
   |(cases h;done)
   |(cases h;simp only[Fa];exact ha.1)
 |x,.val s,l,h,ha=>by
  cases x<;>simp only[qS] at h
  all_goals first
   |(cases h;done)
   |(cases h;simp only[Fa];exact ha.1)
 |x,.G5 st n g i off,l,h,ha=>by
  have key:∀(q:Option Sh),Dp (off==0) (q.map fun s=>[BQ.sh s (.pt (g i)),.nat (g i).length st,.bool (fZ i n) aF])=ay l->q=ay (.pt (g i))/\off=0/\(g i).length=st/\i<n:=fun q h=>by
   obtain ⟨h1,h2⟩:=Bz h;simp only[bW] at h2;obtain ⟨s,h3,rfl⟩:=h2;have e1:s=.pt (g i):=ha.1;exact ⟨by rw[h3,e1],by simpa using h1,ha.2.1,Fv ha.2.2.1⟩
  cases x<;>simp only[qS] at h
  case G5=>obtain ⟨h1,h2⟩:=Bz h;cases h2;simp only[aJ,beq_iff_eq] at h1;simp only[Fa];exact ⟨h1.1,ha.1,ha.2.1,ha.2.2.1,h1.2⟩
  all_goals
   simp only[Fa];exact key _ h
 |x,.gp id st i off,l,h,ha=>by cases x<;>simp only[qS] at h<;>cases h |x,.ev id,l,h,ha=>by cases x<;>simp only[qS] at h<;>cases h |x,.vw id n,l,h,ha=>by cases x<;>simp only[qS] at h<;>cases h
theorem OO:∀{l:List SV} (l':List SV) {q:List BQ},qL hp ρ l l'=ay q->dI q->leL hp ρ l l'
 |[],[],_,_,_=>trivial |x::l,y::l',q,h,ha=>by
  simp only[qL] at h;obtain ⟨a,b,h1,h2,rfl⟩:=BX h;exact ⟨abg y h1 (eG ha).1,OO l' h2 (eG ha).2⟩
 |[],_::_,_,h,_=>by simp[qL] at h |_::_,[],_,h,_=>by simp[qL] at h
end
theorem anT:∀{l l':List (SV×SV)} {q:List BQ},qM hp ρ l l'=ay q->dI q->leM hp ρ l l'
 |[],[],_,_,_=>trivial |(a,b)::l,(a',b')::l',q,h,ha=>by
  simp only[qM] at h;obtain ⟨q1,q2,h1,h2,rfl⟩:=BX h;obtain ⟨q3,q4,h3,h4,rfl⟩:=BX h2;obtain ⟨a1,a2⟩:=eG ha;obtain ⟨a3,a4⟩:=eG a2;exact ⟨abg a' h1 a1,abg b' h3 a3,anT h4 a4⟩
 |[],_::_,_,h,_=>by simp[qM] at h |_::_,[],_,h,_=>by simp[qM] at h
theorem anU{id':Nat}{sb:SB}{q:List BQ}(h:qB hp ρ id' sb=ay q)(ha:dI q):leB hp ρ id' sb:=by
 cases sb with
 |box cells' e'=>
  simp only[qB] at h;simp only[leB];split at h
  ·rename_i id hr
   simp only[hr];split at h
   ·rename_i cells e hl
    simp only[hl];obtain ⟨h1,h2⟩:=Bz h;exact ⟨by simpa using h1,OO _ h2 ha⟩
   ·cases h
  ·cases h
 |row cells' e' st' n'=>
  simp only[qB] at h;simp only[leB];split at h
  ·rename_i id hr
   simp only[hr];split at h
   ·rename_i cells e st n hl
    simp only[hl];obtain ⟨h1,h2⟩:=Bz h;simp only[aJ,beq_iff_eq] at h1;exact ⟨h1.1.1,h1.1.2,h1.2,OO _ h2 ha⟩
   ·cases h
  ·cases h
 |own e' st' n' g'=>
  simp only[qB] at h;simp only[leB];split at h
  ·rename_i id hr
   simp only[hr];split at h
   ·rename_i e st n g hl
    simp only[hl];obtain ⟨h1,h2⟩:=Bz h;cases h2;simp only[aJ,beq_iff_eq] at h1;exact ⟨h1.1,h1.2,ha.1,ha.2.1⟩
   ·cases h
  ·rename_i hr
   simp only[hr];cases h;exact ha.1
  ·cases h
 |map es'=>
  simp only[qB] at h;simp only[leB];split at h
  ·rename_i id hr
   simp only[hr];split at h
   ·rename_i es hl
    simp only[hl];exact anT h ha
   ·cases h
  ·cases h
 |fz st n g=>simp[qB] at h |Rt l=>simp[qB] at h |Hl e st n g m=>simp[qB] at h |fm k M fs us t=>simp[qB] at h |pm vt' M' us'=>
  simp only[qB] at h;split at h
  ·rename_i id hr
   split at h
   ·rename_i vt M us hl
    split at h
    ·rename_i N h1
     obtain ⟨h2,h3⟩:=Bz h;cases h3;simp only[leB,hr,hl];have e:N=M':=ha.1;rw[e] at h1;exact ⟨trivial,by simpa using h2,h1⟩
    ·cases h
   ·cases h
  ·cases h
 |buf e' l'=>
  simp only[qB] at h;split at h
  ·rename_i id hr
   split at h
   ·rename_i e l hl
    obtain ⟨h1,h2⟩:=Bz h;cases h2;simp only[leB,hr,hl];exact ⟨by simpa using h1,ha.1⟩
   ·cases h
  ·cases h
theorem anV:∀{l:List (Nat×SB)} {q:List BQ},qH hp ρ l=ay q->dI q->leH hp ρ l
 |[],_,_,_=>trivial |(id',sb)::l,q,h,ha=>by
  simp only[qH] at h;obtain ⟨a,b,h1,h2,rfl⟩:=BX h;exact ⟨anU h1 (eG ha).1,anV h2 (eG ha).2⟩
theorem ajc{c c':Core}{q:List BQ}(h:qC ρ c c'=ay q)(ha:dI q):leC ρ c c':=by
 unfold qC at h;obtain ⟨h1,h2⟩:=Bz h;obtain ⟨a,b,h3,h4,rfl⟩:=BX h2;exact ⟨OO _ h3 (eG ha).1,anV h4 (eG ha).2,h1⟩
end
inductive Fe where
 |ret (s:Sh)
 |at_ (l:List BQ)
def anW:It->It->Bool
 | .code p,.code q=>p==q | .inBlock i,.inBlock j=>i==j | .reg p l,.reg q m=>p==q&&l==m | .XT,.XT=>aF |_,_=>aA
def Jp:List It->List It->Bool
 |[],[]=>aF |x::l,y::m=>anW x y&&Jp l m |_,_=>aA
theorem anX{x y:It}(h:anW x y=aF):x=y:=by
 cases x<;>cases y<;>simp[anW] at h<;>simp_all
theorem MW:∀{l m:List It},Jp l m=aF->l=m
 |[],[],_=>rfl |x::l,y::m,h=>by
  simp only[Jp,aJ] at h;rw[anX h.1,MW h.2]
 |[],_::_,h=>by simp[Jp] at h |_::_,[],h=>by simp[Jp] at h
structure Fr where
 g:Nat
 td:List It
 tm:List SV
inductive abh where
 |fin (v:SV) (c:Core)
 |stop (g:Nat) (td:List It) (c:Core) (stk:List Fr)
def Qv(C:Ctx)(fn:Func)(td:List It)(c:Core):Option (Nat×Func×List SV):=
 match td with
 | .reg p (i::_)::_=>match Bo (AU fn) p with
  | .region _ ops _=>match opAt ops.toList i with
   |some o=>match Oa ops.toList c.tm o with
    | .yes=>match o.op with
     | .call k=>match k.callee with
      | .value f=>match BP c.tm f with
       | .fn g cs=>match C.spec g with
        |some _=>aN |none=>match C.fns.get g with
         |some fn'=>bif gY (k.args.toList.map (BP c.tm)++cs).length fn'.ntmps&&fn'.body.isSome then ay (g,fn',k.args.toList.map (BP c.tm)++cs) else aN |none=>aN
       |_=>aN
      |_=>aN
     |_=>aN
    |_=>aN
   |none=>aN
  |_=>aN
 |_=>aN
def holdB(hold:Nat->Bool)(fn:Func)(td:List It)(c:Core):Bool:=
 match td with
 | .reg p (i::_)::_=>match Bo (AU fn) p with
  | .region _ ops _=>match opAt ops.toList i with
   |some o=>match o.op with
    | .call k=>match k.callee with
     | .value f=>match BP c.tm f with
      | .fn g _=>hold g |_=>aA
     |_=>aA
    |_=>aA
   |none=>aA
  |_=>aA
 |_=>aA
def RZ(C:Ctx)(f:Fr)(v:SV)(c:Core):Option (List It×Core):=
 match C.fns.get f.g with
 |some fn=>match f.td with
  | .reg p (i::r)::k=>match Bo (AU fn) p with
   | .region _ ops _=>ay (.reg p r::k,{c with tm:=Q9 f.tm ((opAt ops.toList i).bind (·.dst)) v})
   |_=>aN
  |_=>aN
 |none=>aN
def Zi(C:Ctx)(hold:Nat->Bool)(m:Nat):Nat->Nat->List It->Core->List Fr->Tree abh
 |0,g,td,c,stk=>.leaf (.stop g td c stk) |n+1,g,td,c,stk=>match C.fns.get g with
  |none=>.fail |some fn=>bif holdB hold fn td c then .leaf (.stop g td c stk) else match Qv C fn td c with
   |some r=>Zi C hold m n r.1 [.code []] {c with tm:=r.2.2++dU (r.2.1.ntmps - r.2.2.length) .any} ({g,td,tm:=c.tm}::stk)
   |none=>(RI C (MQ C (run C m aA)) aF g fn td c).bind fun s=>match s with
    | .go td c=>Zi C hold m n g td c stk | .halt td c=>.leaf (.stop g td c stk) | .done v c=>match stk with
     |[]=>.leaf (.fin v c) |f::stk=>match RZ C f v c with
      |some r=>Zi C hold m n f.g r.1 r.2 stk |none=>.fail
def base(g:Nat):Frame:={(default:Frame) with fn:=g,kind:=.normal}
def Gx(C:Ctx)(H:Mem)(E:Env):List Fr->List Frame->Prop
 |[],[]=>True |f::s,mf::ms=>(∃fn a items,C.fns.get f.g=ay fn/\AV H E f.tm a.tmps.toList/\a.defers=[]/\CX (AU fn) f.td items/\mf=(base f.g).at a items)/\Gx C H E s ms |_,_=>False
abbrev Hp:=Nat->Option Obj
def OQ(R:Hp->Prop)(K:Kx)(H:Mem)(E:Env)(w:World):Prop:=
 ∃h:Hp,R h/\∀b o,h b=ay o->w.heap[b]?=ay o/\H b=aN/\(∀i,bk E i≠ay b)/\(K.w0.heap.size<=b\/K.own b)
def emp:Hp->Prop:=fun _=>True
def Ri(g:Nat):List Fr->Nat
 |[]=>g |f::s=>Ri f.g s
def BK(P:Program)(C:Ctx)(K:Kx)(g:Nat)(td:List It)(c:Core)(stk:List Fr)(R:Hp->Prop)(φ:Sh->Prop):Prop:=
 ∀(H:Mem) (E:Env) (w:World) (a:Act) (items:List Item) (ms cs:List Frame) (fn:Func),C.fns.get g=ay fn->St C K H E w c a->CX (AU fn) td items->Gx C H E stk ms->OQ R K H E w->
  ∃(a':Act) (w':World) (v:Value) (s:Sh) (H':Mem) (todo:List Item) (fn0:Func),C.fns.get (Ri g stk)=ay fn0/\Steps P (lone ((base g).at a items) (ms++cs) w) (lone {(base (Ri g stk)).at a' todo with mode:=.returning} cs w')/\
   a'.defers=[]/\φ s/\EJ K.H0 K.w0 s v H' w'/\(results fn0 a'.tmps).run P w'=.ok v w'
section
variable{P:Program}{C:Ctx}{K:Kx}{H H' OL H0:Mem}{E E' OM E1:Env}{w w' w'' w0:World}
theorem Gx.le(hH:H.le H')(hE:E.le E'):∀{s:List Fr} {ms:List Frame},Gx C H E s ms->Gx C H' E' s ms
 |[],[],_=>trivial |_::_,_::_,⟨⟨fn,a,items,h1,h2,h3⟩,h4⟩=>⟨⟨fn,a,items,h1,h2.le hH hE,h3⟩,Gx.le hH hE h4⟩ |[],_::_,h=>h.elim |_::_,[],h=>h.elim
def Ru(H:Mem)(E:Env)(w:World)(hp:List (Nat×SB)):Kx:=⟨w,fun b=>∃id sb,AA hp id=ay sb/\Bv E id sb=ay b,H⟩
theorem GV.Ru{K1 K2:Kx}{id:Nat}{sb:SB}(h:GV K1 H E w id sb)(hm:∀b,Bv E id sb=ay b->Mine K1 H b->Mine K2 H b):GV K2 H E w id sb:=by
 cases sb with
 |box cells elem=>obtain ⟨b,cs,he,h1,h2,h3⟩:=h;exact ⟨b,cs,he,h1,h2,hm b (by simp[Bv,he,AY]) h3⟩ |row cells elem st n=>obtain ⟨v,xs,he,h1,h2,h3⟩:=h;exact ⟨v,xs,he,h1,h2,fun b hb=>hm b (by simp[Bv,he,hb]) (h3 b hb)⟩ |own elem st n g=>obtain ⟨v,xs,he,h1,h2,h3⟩:=h;exact ⟨v,xs,he,h1,h2,fun b hb=>hm b (by simp[Bv,he,hb]) (h3 b hb)⟩ |fz st n g=>exact h |map es=>obtain ⟨b,ms,clk,he,h1,h2,h3⟩:=h;exact ⟨b,ms,clk,he,h1,h2,hm b (by simp[Bv,he,AY]) h3⟩ |Rt l=>exact h |Hl elem st n g more=>obtain ⟨v,xs,ys,he,h1,h2,h3,h4,h5,h6⟩:=h;exact ⟨v,xs,ys,he,h1,h2,h3,h4,h5,fun b hb=>hm b (by simp[Bv,he,hb]) (h6 b hb)⟩ |fm k M fs us tag=>obtain ⟨b,ms,clk,fv,uv,he,h1,h2,h3,h4,h5,h6,h7⟩:=h;exact ⟨b,ms,clk,fv,uv,he,h1,h2,h3,h4,h5,h6,hm b (by simp[Bv,he,AY]) h7⟩ |pm vt M us=>obtain ⟨b,ms,clk,uv,he,h1,h2,h3,h4,h5,h7⟩:=h;exact ⟨b,ms,clk,uv,he,h1,h2,h3,h4,h5,hm b (by simp[Bv,he,AY]) h7⟩ |buf e l=>obtain ⟨v,he,h1,h3⟩:=h;exact ⟨v,he,h1,fun b hb=>hm b (by simp[Bv,he,hb]) (h3 b hb)⟩
theorem agO{hp:List (Nat×SB)}(hh:AZ K H E w hp)(hw:Es K H w):AZ (Ru H E w hp) H E w hp/\Es (Ru H E w hp) H w:=
 ⟨⟨fun id sb hl=>(hh.ent id sb hl).Ru fun _ hb hm=>⟨hm.1,.inr ⟨id,sb,hl,hb⟩⟩,hh.Gu⟩,
  ⟨rfl,rfl,rfl,dw _,fun _ _ _=>rfl,hw.on,fun _ _ h=>h,fun _ h=>.inl h⟩⟩
theorem abj{hp:List (Nat×SB)}(hh:AZ K H E w hp)(hw:Es K H w){b:Nat}(h:w.heap.size<=b\/(Ru H E w hp).own b):K.w0.heap.size<=b\/K.own b:=by
 rcases h with h|⟨id,sb,h1,h2⟩
 ·exact .inl (iK hw.size h)
 ·exact ((hh.ent _ _ h1).lt h2).2.2
theorem agP{hp hp':List (Nat×SB)}(hh:AZ K H E w hp)(hw:Es K H w)(hh':AZ (Ru H E w hp) H' E' w' hp')(hw':Es (Ru H E w hp) H' w'):AZ K H' E' w' hp'/\Es K H' w':=by
 refine ⟨⟨fun id sb hl=>(hh'.ent id sb hl).Ru fun b hb hm=>⟨hm.1,abj hh hw hm.2⟩,hh'.Gu⟩,⟨hw'.os.trans hw.os,hw'.tape.trans hw.tape,hw'.output.trans hw.output,iK hw.size hw'.size,fun b hb hn=>?_,hw'.on,fun b o h=>hw'.le b o (hw.le b o h),fun b hb=>?_⟩⟩
 ·rw[hw'.kept b (by have:=hw.size;exact jT hb this) fun ho=>?_]
  ·exact hw.kept b hb hn
  ·rcases abj hh hw (.inr ho) with h|h
   ·omega
   ·exact hn h
 ·rcases hw'.fresh b hb with h|h
  ·exact hw.fresh b h
  ·exact .inr (abj hh hw h)
theorem St.re{c:Core}{a:Act}(st:St C K H E w c a):St C (Ru H E w c.hp) H E w c a:=
 ⟨st.den,(agO st.hp st.Cm).1,(agO st.hp st.Cm).2,st.free,st.gl,st.defers⟩
theorem St.un{c c':Core}{a a':Act}(st:St C K H E w c a)(st':St C (Ru H E w c.hp) H' E' w' c' a'):St C K H' E' w' c' a':=
 ⟨st'.den,(agP st.hp st.Cm st'.hp st'.Cm).1,(agP st.hp st.Cm st'.hp st'.Cm).2,st'.free,st'.gl,st'.defers⟩
theorem OQ.keep{R:Hp->Prop}{c c':Core}{a a':Act}(h:OQ R K H E w)(st:St C K H E w c a)(st':St C (Ru H E w c.hp) H' E' w' c' a')(mv:Mv (Ru H E w c.hp) H E w c H' E' w' c'):OQ R K H' E' w':=by
 obtain ⟨hh,hr,hb⟩:=h;refine ⟨hh,hr,fun b o e=>?_⟩;obtain ⟨h1,h2,h3,h4⟩:=hb b o e;have hlt:=(bH.1 h1).1;have hno:¬(Ru H E w c.hp).own b:=fun ⟨id,sb,_,q⟩=>h3 id (GX q);refine ⟨by rw[st'.Cm.kept b hlt hno];exact h1,?_,fun i hi=>?_,h4⟩
 ·cases hx:H' b with
  |none=>rfl |some o'=>
   rcases st'.Cm.fresh b (by rw[hx];simp) with q|q|q
   ·exact (q h2).elim
   ·have q:w.heap.size<=b:=q;omega
   ·exact (hno q).elim
 ·cases he:E i with
  |none=>
   rcases mv.Oh i b he hi with q|⟨id,_,q⟩
   ·omega
   ·exact h3 id q
  |some v=>
   have:bk E' i=bk E i:=by simp[bk,he,mv.MK _ _ he]
   rw[this] at hi;exact h3 i hi
def akH(P:Program)(C:Ctx)(K:Kx)(R:Hp->Prop)(φ:Sh->Prop):abh->Prop
 | .fin v c=>∃s,finish c v=ay s/\φ s | .stop g td c stk=>BK P C K g td c stk R φ
theorem Lh{g:Nat}{fn:Func}{body:Code}(hP:P.funcs[g]?=ay fn)(hb:fn.body=ay body)(args:Array Value):
  gQ P g args .normal=(base g).at {tmps:=args++dY (fn.ntmps - args.size) undef,defers:=[]} [.code body]:=by
 simp[gQ,Frame.at,hP,hb,base]
theorem KH(hC:BL P C)(hF:Cb P C){hold:Nat->Bool}{m:Nat}{R:Hp->Prop}{φ:Sh->Prop}:∀{n g:Nat} {td:List It} {c:Core} {stk:List Fr},(Zi C hold m n g td c stk).All (akH P C (K0 H0 w0) R φ)->BK P C (K0 H0 w0) g td c stk R φ
 |0,g,td,c,stk,h=>h |n+1,g,td,c,stk,h=>by
  intro H E w a items ms cs fn hfn st hi hs hx;simp only[Zi,hfn] at h;cases ajd:holdB hold fn td c<;>simp only[ajd,cond_true,cond_false] at h
  rotate_left
  ·exact h H E w a items ms cs fn hfn st hi hs hx
  split at h
  ·
   rename_i r hr;unfold Qv at hr;split at hr
   ·rename_i p i rest k
    split at hr
    ·rename_i rid ops dr hcode
     split at hr
     ·rename_i o ho
      split at hr
      ·rename_i hwant
       split at hr
       ·rename_i kk hop
        split at hr
        ·rename_i f WR
         split at hr
         ·rename_i g2 caps hev
          split at hr
          ·cases hr
          ·rename_i hspec
           split at hr
           ·rename_i FI hfn2
            cases hb:(gY (kk.args.toList.map (BP c.tm)++caps).length FI.ntmps&&FI.body.isSome)<;>simp only[hb,cond_true,cond_false] at hr
            ·cases hr
            cases hr;simp only[aJ] at hb;obtain ⟨body2,JY⟩:=gI.1 hb.2;have ih:=KH hC hF h;have hP2:=hC.fn g2 FI hfn2;cases hi with
            |reg p l id ops2 hc hk=>
             rw[hc] at hcode;cases hcode;rename_i k';have df:=BJ (H:=H) (E:=E) st.den f;rw[hev] at df;obtain ⟨vs,ef,hvs⟩:=df;have hargs:=(NC st.den kk.args.toList).append hvs;have ho':ops[i]?=ay o:=by simpa[opAt] using ho
             have hw':=Hy (ops:=ops) st.den o;rw[hwant] at hw';have hent:=hF.en g2 (.inr (by rw[hfn2];rfl));have hrun:(execOp a.eval o).run P w=.ok (.enter g2 (kk.args.map a.eval++vs)) w:=by
              simp only[execOp,hop,resolve,WR];simp[jJ,ef,invoke,Il hent]
             have hg:=stepG_op (P:=P) (b:=base g) (k:=k') (cs:=ms++cs) (w:=w) (rest:=rest) ho' hw';have henter:step P (lone ((base g).at a (.inRegion ops (i::rest)::k')) (ms++cs) w)=.next (lone (gQ P g2 (kk.args.map a.eval++vs) .normal) ((base g).at a (.inRegion ops (i::rest)::k')::(ms++cs)) w):=
              step_lone_go (by rw[hg];simp[gX,hrun,Frame.at])
             rw[Lh hP2 JY] at henter;have hl:=hargs.length;have hlen:(kk.args.map a.eval++vs).size=(kk.args.toList.map (BP c.tm)++caps).length:=by
              rw[<-hl];simp
             have st2:St C (K0 H0 w0) H E w {c with tm:=(kk.args.toList.map (BP c.tm)++caps)++dU (FI.ntmps - (kk.args.toList.map (BP c.tm)++caps).length) .any} {tmps:=(kk.args.map a.eval++vs)++dY (FI.ntmps - (kk.args.map a.eval++vs).size) undef,defers:=[]}:=by
              refine ⟨?_,st.hp,st.Cm,st.free,st.gl,rfl⟩;have:((kk.args.map a.eval++vs)++dY (FI.ntmps - (kk.args.map a.eval++vs).size) undef).toList=(kk.args.toList.map a.eval++vs.toList)++dU (FI.ntmps - (kk.args.toList.map (BP c.tm)++caps).length) undef:=by
               rw[hlen];simp
              simp only[this];exact hargs.append (rY _ _ (by simp))
             have hit2:CX (AU FI) [.code []] [.code body2]:=by
              have:=iE (body:=AU FI) [] qW;have he:Bo (AU FI) []=body2:=by simp[Bo,AU,JY]
              rwa[he] at this
             have hs2:Gx C H E ({g,td:=.reg p (i::rest)::k,tm:=c.tm}::stk) ((base g).at a (.inRegion ops (i::rest)::k')::ms):=
              ⟨⟨fn,a,_,hfn,st.den,st.defers,.reg p (i::rest) _ ops hc hk,rfl⟩,hs⟩
             obtain ⟨a',w',v,s,H',todo,fn0,q1,q2,q3⟩:=ih H E w _ _ (_::ms) cs FI hfn2 st2 hit2 hs2 hx;exact ⟨a',w',v,s,H',todo,fn0,q1,.head henter q2,q3⟩
           ·cases hr
         ·cases hr
        ·cases hr
       ·cases hr
      ·cases hr
     ·cases hr
    ·cases hr
   ·cases hr
  ·have hK:=TP (K:=Ru H E w c.hp) hC hF (TQ hC hF m)
   obtain ⟨sig,h1,h2⟩:=X7 hC hF hK (iH h) st.re hi (base g) (ms++cs);cases sig with
   |go Gw c'=>
    obtain ⟨a',w',H',E',items',q1,q2,q3,q4⟩:=h2;obtain ⟨a2,w2,v,s,H2,todo,fn0,r1,r2,r3⟩:=KH hC hF h1 H' E' w' a' items' ms cs fn hfn (st.un q2) q4 (hs.le q3.I7 q3.MK) (hx.keep st q2 q3);exact ⟨a2,w2,v,s,H2,todo,fn0,r1,q1.trans r2,r3⟩
   |halt Gw c'=>
    obtain ⟨a',w',H',E',items',q1,q2,q3,q4⟩:=h2;obtain ⟨a2,w2,v,s,H2,todo,fn0,r1,r2,r3⟩:=h1 H' E' w' a' items' ms cs fn hfn (st.un q2) q4 (hs.le q3.I7 q3.MK) (hx.keep st q2 q3);exact ⟨a2,w2,v,s,H2,todo,fn0,r1,q1.trans r2,r3⟩
   |done sv c'=>
    obtain ⟨a',w',H',E',v,todo,q1,q2,q3,q4,q5⟩:=h2;cases stk with
    |nil=>
     cases ms with
     |cons _ _=>exact hs.elim |nil=>
      obtain ⟨s,e1,e2⟩:=h1;obtain ⟨H2,r⟩:=Qs (st.un q2) e1 q4;exact ⟨a',w',v,s,H2,todo,fn,hfn,q1,q2.defers,e2,r,q5⟩
    |cons f stk=>
     cases ms with
     |nil=>exact hs.elim |cons mf ms=>
      simp only at h1;split at h1
      ·rename_i r hr
       unfold RZ at hr;split at hr
       ·rename_i OT agQ
        split at hr
        ·rename_i p i rest k htd
         split at hr
         ·rename_i rid ops dr hcode
          cases hr;obtain ⟨⟨fn3,a3,akI,g1,g2,g3,g4,g5⟩,hs'⟩:=hs.le q3.I7 q3.MK;rw[agQ] at g1;cases g1;rw[htd] at g4;cases g4 with
          |reg p l id ops2 hc hk=>
           rw[hc] at hcode;cases hcode;rename_i k';subst g5;have hleave:step P (lone {(base g).at a' todo with mode:=.returning} ((base f.g).at a3 (.inRegion ops (i::rest)::k')::(ms++cs)) w')=.next (lone ((base f.g).at (a3.put ((opAt ops.toList i).bind (·.dst)) v) (.inRegion ops rest::k')) (ms++cs) w'):=by
            rw[step_leave_returned (v:=v) ⟨rfl,q2.defers,rfl,fn,hC.fn g fn hfn,q5⟩,mF];simp[opAt]
           have st3:St C (K0 H0 w0) H' E' w' {c' with tm:=Q9 f.tm ((opAt ops.toList i).bind (·.dst)) sv} (a3.put ((opAt ops.toList i).bind (·.dst)) v):=
            ⟨JX (c:={c' with tm:=f.tm}) g2 _ q4,(st.un q2).hp,(st.un q2).Cm,q2.free,q2.gl,by rw[put_defers];exact g3⟩
           obtain ⟨a2,w2,v2,s,H2,abk,fn0,r1,r2,r3⟩:=KH hC hF h1 H' E' w' _ _ ms cs OT agQ st3 (.reg p rest _ ops hc hk) hs' (hx.keep st q2 q3);exact ⟨a2,w2,v2,s,H2,abk,fn0,r1,(q1.trans (.one hleave)).trans r2,r3⟩
         ·cases hr
        ·cases hr
       ·cases hr
      ·exact h1.elim
end
structure NG where
 g:Nat
 td:List It
 c:Core
 stk:List Fr
mutual
def coll:SV->SV->List (Nat×Rn)
 | .gs i,.gs j=>[(i,.id j)] | .gs i,.Bj=>[(i,.nil)] | .ptr i _,.ptr j _=>[(i,.id j)] | .mp i,.mp j=>[(i,.id j)] | .fn _ l,.fn _ m=>NH l m | .agg l,.agg m=>NH l m | .Ba l,.Ba m=>NH l m | .Dv _ x,.Dv _ y=>coll x y |_,_=>[]
def NH:List SV->List SV->List (Nat×Rn)
 |x::l,y::m=>coll x y++NH l m |_,_=>[]
end
def anY:List (SV×SV)->List (SV×SV)->List (Nat×Rn)
 |(a,b)::l,(c,d)::m=>coll a c++coll b d++anY l m |_,_=>[]
def anZ:Option SB->Option SB->List (Nat×Rn)
 |some (.box l _),ay (.box m _)=>NH l m |some (.row l _ _ _),ay (.row m _ _ _)=>NH l m |some (.map l),ay (.map m)=>anY l m |_,_=>[]
def an0:List Fr->List Fr->List (Nat×Rn)
 |f::s,f'::s'=>NH f.tm f'.tm++an0 s s' |_,_=>[]
def infer(hp' hp:List (Nat×SB)):Nat->List (Nat×Rn)->List (Nat×Rn)->List (Nat×Rn)
 |0,_,acc=>acc |_,[],acc=>acc |n+1,(i,r)::t,acc=>match AA acc i with
  |some _=>infer hp' hp n t acc |none=>match r with
   | .id j=>infer hp' hp n (anZ (AA hp' i) (AA hp j)++t) ((i,r)::acc) | .nil=>infer hp' hp n t ((i,r)::acc)
def abl(hp:List (Nat×SB))(ρ:List (Nat×Rn)):List Fr->List Fr->Option (List BQ)
 |[],[]=>ay [] |f::s,f'::s'=>Dp (f.g==f'.g&&Jp f.td f'.td) (Fh (qL hp ρ f.tm f'.tm) (abl hp ρ s s')) |_,_=>aN
inductive Eo where
 |ret (s:Sh)
 |at_ (k:Nat) (l:List BQ)
def Si:List Fr->List Fr->Bool
 |[],[]=>aF |f::s,f'::s'=>f.g==f'.g&&Jp f.td f'.td&&Si s s' |_,_=>aA
def NG.rn(t:NG)(c:Core)(stk:List Fr):List (Nat×Rn):=infer t.c.hp c.hp 4000 (NH t.c.tm c.tm++an0 t.stk stk) []
def WS(g:Nat)(td:List It)(c:Core)(stk:List Fr):Nat->List NG->Tree Eo
 |_,[]=>.fail |k,t::r=>bif g==t.g&&Jp td t.td&&Si stk t.stk then match Fh (qC (t.rn c stk) c t.c) (abl c.hp (t.rn c stk) stk t.stk) with
   |some l=>.leaf (.at_ k l) |none=>.fail
  else WS g td c stk (k+1) r
def an1(ts:List NG):abh->Tree Eo
 | .fin v c=>match finish c v with
  |some s=>.leaf (.ret s) |none=>.fail
 | .stop g td c stk=>WS g td c stk 0 ts
def BA(C:Ctx)(hold:Nat->Bool)(m n g:Nat)(td:List It)(c:Core)(stk:List Fr)(ts:List NG):Tree Eo:=(Zi C hold m n g td c stk).bind (an1 ts)
def Jq(P:Program)(C:Ctx)(K:Kx)(ts:List NG)(R:Hp->Prop)(φ:Sh->Prop):Eo->Prop
 | .ret s=>φ s | .at_ k l=>dI l/\∃t,ts[k]?=ay t/\BK P C K t.g t.td t.c t.stk R φ
section
variable{P:Program}{C:Ctx}{K:Kx}{H H' OL H0:Mem}{E E' OM E1:Env}{w w' w'' w0:World}
def abm(hp:List (Nat×SB))(ρ:List (Nat×Rn)):List Fr->List Fr->Prop
 |[],[]=>True |f::s,f'::s'=>f.g=f'.g/\f.td=f'.td/\leL hp ρ f.tm f'.tm/\abm hp ρ s s' |_,_=>False
theorem abn{hp:List (Nat×SB)}{ρ:List (Nat×Rn)}:∀{s s':List Fr} {q:List BQ},abl hp ρ s s'=ay q->dI q->abm hp ρ s s'
 |[],[],_,_,_=>trivial |f::s,f'::s',q,h,ha=>by
  simp only[abl] at h;obtain ⟨h1,h2⟩:=Bz h;obtain ⟨a,b,h3,h4,rfl⟩:=BX h2;simp only[aJ,beq_iff_eq] at h1;exact ⟨h1.1,MW h1.2,OO _ h3 (eG ha).1,abn h4 (eG ha).2⟩
 |[],_::_,_,h,_=>by simp[abl] at h |_::_,[],_,h,_=>by simp[abl] at h
theorem Gx.weak{hp:List (Nat×SB)}{ρ:List (Nat×Rn)}(hh:AZ K H E w hp):∀{s s':List Fr} {ms:List Frame},Gx C H E s ms->abm hp ρ s s'->Gx C H (Gf ρ E) s' ms
 |[],[],[],_,_=>trivial |f::s,f'::s',m::ms,⟨⟨fn,a,items,h1,h2,h3,h4,h5⟩,h6⟩,⟨e1,e2,e3,e4⟩=>
  ⟨⟨fn,a,items,by rw[<-e1];exact h1,Je hh _ e3 h2,h3,by rw[<-e2];exact h4,by rw[<-e1];exact h5⟩,Gx.weak hh h6 e4⟩
 |[],[],_::_,h,_=>h.elim |_::_,_,[],h,_=>h.elim |[],_::_,_,_,h=>h.elim |_::_,[],_::_,_,h=>h.elim
theorem OQ.weak{R:Hp->Prop}{ρ:List (Nat×Rn)}(h:OQ R K H E w):OQ R K H (Gf ρ E) w:=by
 obtain ⟨hh,h1,h2⟩:=h;refine ⟨hh,h1,fun b o e=>?_⟩;obtain ⟨a1,a2,a3,a4⟩:=h2 b o e;refine ⟨a1,a2,fun i=>?_,a4⟩;unfold bk Gf;cases hr:AA ρ i with
 |none=>simp |some r=>
  cases r with
  |id j=>exact a3 j |nil=>simp[AY]
theorem agR{hp:List (Nat×SB)}{ρ:List (Nat×Rn)}:∀{s s':List Fr} {g:Nat},abm hp ρ s s'->Ri g s'=Ri g s
 |[],[],_,_=>rfl |f::s,f'::s',_,⟨e1,_,_,e4⟩=>by simp only[Ri];rw[e1];exact agR e4 |[],_::_,_,h=>h.elim |_::_,[],_,h=>h.elim
theorem Zj{g:Nat}{td:List It}{c c':Core}{stk JZ:List Fr}{R:Hp->Prop}{φ:Sh->Prop}(ρ:List (Nat×Rn))(hle:leC ρ c c')(hs:abm c.hp ρ stk JZ)(h:BK P C K g td c' JZ R φ):BK P C K g td c stk R φ:=by
 intro H E w a items ms cs fn hfn st hi hst hx;have:=h H (Gf ρ E) w a items ms cs fn hfn (st.weak hle) hi (hst.weak st.hp hs) hx.weak;rw[agR hs] at this;exact this
theorem Ve{R:Hp->Prop}{φ:Sh->Prop}{ts:List NG}{g:Nat}{td:List It}{c:Core}{stk:List Fr}:∀{r:List NG} {k:Nat},(∀j,r[j]?=ts[k+j]?)->(WS g td c stk k r).All (Jq P C K ts R φ)->BK P C K g td c stk R φ
 |[],_,_,h=>h.elim |t::r,k,hk,h=>by
  unfold WS at h;cases hb:(g==t.g&&Jp td t.td&&Si stk t.stk)<;>simp only[hb,cond_true,cond_false] at h
  ·exact Ve (fun j=>by have:=hk (j+1);simp only[jP] at this;rw[this];congr 1;omega) h
  ·simp only[aJ,beq_iff_eq] at hb
   obtain ⟨⟨h1,h2⟩,h3⟩:=hb;split at h
   ·rename_i l hl
    obtain ⟨a,b,q1,q2,rfl⟩:=BX hl;obtain ⟨hl,t',ht,hg⟩:=h;have:=hk 0;simp only[jQ,jB] at this;rw[<-this] at ht;cases ht;have h2:=MW h2;subst h1 h2;exact Zj (t.rn c stk) (ajc q1 (eG hl).1) (abn q2 (eG hl).2) hg
   ·exact h.elim
theorem Ic(hC:BL P C)(hF:Cb P C){hold:Nat->Bool}{m n g:Nat}{td:List It}{c:Core}{stk:List Fr}{ts:List NG}{R:Hp->Prop}{φ:Sh->Prop}
  (h:(BA C hold m n g td c stk ts).All (Jq P C (K0 H0 w0) ts R φ)):BK P C (K0 H0 w0) g td c stk R φ:=by
 refine KH hC hF (hold:=hold) (m:=m) (n:=n) ((iH h).mono fun o ho=>?_);cases o with
 |fin v c=>
  simp only[an1] at ho;split at ho
  ·rename_i s hs
   exact ⟨s,hs,ho⟩
  ·exact ho.elim
 |stop g td c stk=>exact Ve (k:=0) (fun j=>by simp) ho
theorem agS{g:Nat}{fn:Func}{p:List Nat}{k:List It}{x:Code}{c:Core}{stk:List Fr}{R:Hp->Prop}{φ:Sh->Prop}(hfn:C.fns.get g=ay fn)(hx:Bo (AU fn) p=.loop x)
  (h:BK P C K g (.code (0::p)::.code p::k) c stk R φ):BK P C K g (.code p::k) c stk R φ:=by
 intro H E w a items ms cs fn' hfn' st hi hs he;rw[hfn] at hfn';cases hfn';have h0:Bo (AU fn) (0::p)=x:=by simp[Bo,hx,child]
 cases hi with
 |code p hk=>
  have:=iE (0::p) (pR p x hx hk);rw[h0] at this;rw[hx];obtain ⟨a2,w2,v,s,H',todo,fn0,r0,r1,r2⟩:=h H E w a _ ms cs fn hfn st this hs he;exact ⟨a2,w2,v,s,H',todo,fn0,r0,.head step_loop r1,r2⟩
 |loop p y hl hk=>
  rw[hx] at hl;cases hl;have:=iE (0::p) (pR p x hx hk);rw[h0] at this;obtain ⟨a2,w2,v,s,H',todo,fn0,r0,r1,r2⟩:=h H E w a _ ms cs fn hfn st this hs he;exact ⟨a2,w2,v,s,H',todo,fn0,r0,.head step_inLoop r1,r2⟩
theorem WT:OQ emp K H E w:=⟨fun _=>aN,trivial,fun _ _ h=>by cases h⟩
theorem KZ(hC:BL P C){g:Nat}{fn:Func}{F:List Sh->Tree Sh}(hfn:C.fns.get g=ay fn)(hb:fn.body.isSome=aF)
  (h:∀(H:Mem) (w:World) (BI:List Sh) (args:List Value) (φ:Sh->Prop),D9 H BI args->(F BI).All φ->∃Ew:List Sh,D9 H Ew args/\∃L,BK P C (K0 H w) g [.code []] (AL fn.ntmps Ew L) [] emp φ):Bh P C.gls g F:=by
 intro H w BI args φ hon hg hr hφ;obtain ⟨Ew,hr,L,hgo⟩:=h H w BI args φ hr hφ;obtain ⟨body,hbody⟩:=gI.1 hb;have hP:=hC.fn g fn hfn;intro cs;let a:Act:={tmps:=args.toArray++dY (fn.ntmps - args.toArray.size) undef,defers:=[]}
 have hlen:=hr.length;have st:St C (K0 H w) H E0 w (AL fn.ntmps Ew L) a:=by
  refine ⟨?_,⟨fun _ _ h=>by simp[AL,AA] at h,fun _ _ _ _ _ h=>by simp[AL,AA] at h⟩,⟨rfl,rfl,rfl,dw _,fun _ _ _=>rfl,hon,fun _ _ h=>h,fun _ h=>.inl h⟩,fun _ _ _=>rfl,hg,rfl⟩;have:a.tmps.toList=args++dU (fn.ntmps - Ew.length) undef:=by simp[a,hlen]
  rw[this];exact (JA hr).append (rY _ _ (by simp))
 have hit:CX (AU fn) [.code []] [.code body]:=by
  have:=iE (body:=AU fn) [] qW;have he:Bo (AU fn) []=body:=by simp[Bo,AU,hbody]
  rwa[he] at this
 obtain ⟨a',w',v,s,H',todo,fn0,q0,q1,q2,q3,q4,q5⟩:=hgo H E0 w a [.code body] [] cs fn hfn st hit trivial WT;exact ⟨.returned v,w',_,⟨v,s,H',rfl,q3,q4⟩,by rw[Lh hP hbody];exact q1,rfl,rfl,q2,rfl,fn,hP,by cases hfn.symm.trans q0;exact q5⟩
end
def WU:Code->Bool
 | .loop _=>aF |_=>aA
def aan(fn:Func):List It->Option (List It)
 | .code p::k=>bif WU (Bo (AU fn) p) then ay (.code (0::p)::.code p::k) else aN |_=>aN
theorem FW{P:Program}{C:Ctx}{K:Kx}{g:Nat}{fn:Func}{td tb:List It}{c:Core}{stk:List Fr}{R:Hp->Prop}{φ:Sh->Prop}(hfn:C.fns.get g=ay fn)(hx:aan fn td=ay tb)
  (h:BK P C K g tb c stk R φ):BK P C K g td c stk R φ:=by
 unfold aan at hx;split at hx
 ·rename_i p k
  cases hb:WU (Bo (AU fn) p)<;>simp only[hb,cond_true,cond_false] at hx
  ·cases hx
  ·cases hx
   unfold WU at hb;split at hb
   ·rename_i x he
    exact agS hfn he h
   ·cases hb
 ·cases hx
def Gy(P:Program):List Field->Nat->List SV->Bool
 |[],_,[]=>aF
 |f::r,j,.int .i64 _::z=>f.name != "_" && f.offset==j&&(match P.underlying f.type with|some (.int .i64)=>aF|_=>aA)&&Gy P r (j+1) z
 |f::r,j,.bool _::z=>f.name != "_" && f.offset==j&&(match P.underlying f.type with|some .bool=>aF|_=>aA)&&Gy P r (j+1) z
 |_,_,_=>aA
def afa(P:Program)(t:Nat)(z:List SV):Bool:=
 (match P.underlying t with|some (.struct fs)=>Gy P fs.toList 0 z|_=>aA) && !P.stoodInHeld t && !P.eqGuardType P.depth t
theorem adU{P:Program}{t:Nat}{k:IntKind}(hu:P.underlying t=ay (.int k))(xs:List Cq)(j:Nat)(n:Int)(hj:xs[j]?=ay (.i n))(w:World):
  (part t (xs.map kV).toArray j).run P w=.ok (.int .i64 n) w:=by
 have:(xs.map kV).toArray[j]?=ay (.int .i64 n):=by simp[hj,kV]
 simp[part,isAgg,run_underlying hu,this]
theorem abp{P:Program}{t:Nat}(hu:P.underlying t=ay .bool)(xs:List Cq)(j:Nat)(n:Bool)(hj:xs[j]?=ay (.b n))(w:World):
  (part t (xs.map kV).toArray j).run P w=.ok (.bool n) w:=by
 have:(xs.map kV).toArray[j]?=ay (.bool n):=by simp[hj,kV]
 simp[part,isAgg,run_underlying hu,this]
theorem abq{l:List Cq}{k:IntKind}{n:Int}{z:List SV}(h:Dw l (.int k n::z)=aF):∃a r,l=.i a::r/\Dw r z=aF:=by
 unfold Dw at h;split at h
 ·cases ‹SV.int k n::z=[]›
 ·rename_i e;cases e;exact ⟨_,_,rfl,h⟩
 ·rename_i e;cases e
 ·cases h
theorem Zk{l:List Cq}{n:Bool}{z:List SV}(h:Dw l (.bool n::z)=aF):∃a r,l=.b a::r/\Dw r z=aF:=by
 unfold Dw at h;split at h
 ·cases ‹SV.bool n::z=[]›
 ·rename_i e;cases e
 ·rename_i e;cases e;exact ⟨_,_,rfl,h⟩
 ·cases h
theorem abr{l:List Cq}(h:Dw l []=aF):l=[]:=by
 cases l with
 |nil=>rfl |cons a l=>cases a<;>simp[Dw] at h
theorem TS{α:Type}{l:List α}{j:Nat}{a:α}{r:List α}(h:l.drop j=a::r):l[j]?=ay a/\l.drop (j+1)=r:=by
 have h1:l[j]?=ay a:=by
  have:=congrArg (fun x=>x[0]?) h;simpa using this
 refine ⟨h1,?_⟩;have:=congrArg List.tail h;rw[List.tail_drop] at this;exact this
theorem Qw{P:Program}(d:Nat)(w:World)(xs ys:List Cq):∀(fs:List Field) (j:Nat) (z:List SV),Gy P fs j z=aF->Dw (xs.drop j) z=aF->Dw (ys.drop j) z=aF->
  (pV (d+1) (xs.map kV).toArray (ys.map kV).toArray fs).run P w=.ok (decide (xs.drop j=ys.drop j)) w
 |[],j,z,h,h1,h2=>by
  cases z with
  |cons a z=>simp[Gy] at h |nil=>rw[abr h1,abr h2];simp[pV]
 |f::fs,j,z,h,h1,h2=>by
  cases z with
  |nil=>simp[Gy] at h |cons a0 z=>
  cases a0;case int k n=>
   cases k;case i64=>
    unfold Gy at h;simp only[aJ,bne_iff_ne,ne_eq,beq_iff_eq] at h;obtain ⟨⟨⟨a1,a2⟩,a3⟩,a4⟩:=h;have hu:P.underlying f.type=ay (.int .i64):=by
     split at a3
     ·assumption
     ·cases a3
    obtain ⟨a,r1,q1,s1⟩:=abq h1;obtain ⟨b,r2,q2,s2⟩:=abq h2;obtain ⟨g1,t1⟩:=TS q1;obtain ⟨g2,t2⟩:=TS q2;have p1:=adU hu xs j _ g1 w;have p2:=adU hu ys j _ g2 w;have q:=run_equalIn_int (P:=P) w d f.type .i64 .i64 a b hu;have ih:=Qw d w xs ys fs (j+1) z a4 (by rw[t1];exact s1) (by rw[t2];exact s2);have hn:f.name≠ "_" :=by simpa using a1
    simp only[pV,hn,ne_eq,not_false_eq_true,if_true,a2,gK,p1,p2,q,fV,zK];rw[q1,q2];rw[t1,t2] at ih;by_cases hb:a=b
    ·subst hb
     simp only[beq_self_eq_true,xG,nN,if_false];rw[ih];simp
    ·have hb':(a==b)=aA:=by simpa using hb
     simp only[hb',wY,if_true,pO];simp[hb]
   all_goals simp[Gy] at h
  case bool n=>
   unfold Gy at h;simp only[aJ,bne_iff_ne,ne_eq,beq_iff_eq] at h;obtain ⟨⟨⟨a1,a2⟩,a3⟩,a4⟩:=h;have hu:P.underlying f.type=ay .bool:=by
    split at a3
    ·assumption
    ·cases a3
   obtain ⟨a,r1,q1,s1⟩:=Zk h1;obtain ⟨b,r2,q2,s2⟩:=Zk h2;obtain ⟨g1,t1⟩:=TS q1;obtain ⟨g2,t2⟩:=TS q2;have p1:=abp hu xs j _ g1 w;have p2:=abp hu ys j _ g2 w;have q:=run_equalIn_bool' (P:=P) w d f.type a b hu;have ih:=Qw d w xs ys fs (j+1) z a4 (by rw[t1];exact s1) (by rw[t2];exact s2);have hn:f.name≠ "_" :=by simpa using a1
   simp only[pV,hn,ne_eq,not_false_eq_true,if_true,a2,gK,p1,p2,q,fV,zK];rw[q1,q2];rw[t1,t2] at ih;by_cases hb:a=b
   ·subst hb
    simp only[beq_self_eq_true,xG,nN,if_false];rw[ih];simp
   ·have hb':(a==b)=aA:=by simpa using hb
    simp only[hb',wY,if_true,pO];simp[hb]
  all_goals simp[Gy] at h
theorem Ya{P:Program}{t:Nat}{z:List SV}(h:afa P t z=aF)(xs ys:List Cq)(w:World)(h1:Dw xs z=aF)(h2:Dw ys z=aF)(x y:Operand):
  (do eqGuard .eql t x y (.agg (xs.map kV).toArray) (.agg (ys.map kV).toArray);binOp .eql t (.agg (xs.map kV).toArray) (.agg (ys.map kV).toArray):Sem Value).run P w=.ok (.bool (decide (xs=ys))) w/\
  (do eqGuard .neq t x y (.agg (xs.map kV).toArray) (.agg (ys.map kV).toArray);binOp .neq t (.agg (xs.map kV).toArray) (.agg (ys.map kV).toArray):Sem Value).run P w=.ok (.bool (!decide (xs=ys))) w:=by
 unfold afa at h;simp only[aJ,Bool.not_eq_true'] at h;obtain ⟨⟨a1,a2⟩,a3⟩:=h;split at a1
 ·rename_i fs hu
  have hf:P.fieldsOf t=fs:=by simp[Program.fieldsOf,hu]
  have he:=run_equalIn_struct (P:=P) w 9999 t (xs.map kV).toArray (ys.map kV).toArray (by rw[hf];exact hu) a2;rw[hf,Qw 9998 w xs ys fs.toList 0 z a1 (by rw[jg];exact h1) (by rw[jg];exact h2)] at he;simp only[jg] at he;have g1:=run_eqGuard_agg (P:=P) w .eql t x y (xs.map kV).toArray (ys.map kV).toArray a3;have g2:=run_eqGuard_agg (P:=P) w .neq t x y (xs.map kV).toArray (ys.map kV).toArray a3;have b1:=run_eql_struct (P:=P) w t (xs.map kV).toArray (ys.map kV).toArray;have b2:=run_neq_struct (P:=P) w t (xs.map kV).toArray (ys.map kV).toArray;rw[he] at b1 b2;constructor
  ·rw[gK,g1,fV,b1,fV]
  ·rw[gK,g2,fV,b2,fV]
 ·cases a1
def agT(P:Program):List Nat->Bool
 |[]=>aF |T::r=>(match P.info? T with|some inf=>inf.comparable|none=>aA)&&(match P.underlying T with|some (.pointer e)=>(match P.info? e with|some ie=>ie.size != 0|none=>aA) |_=>aA)&&agT P r
theorem WV{P:Program}:∀{l:List Nat},agT P l=aF->∀T,l.contains T=aF->∃inf e ie,P.info? T=ay inf/\inf.comparable=aF/\P.underlying T=ay (.pointer e)/\P.info? e=ay ie/\ie.size≠0
 |[],_,T,h=>by simp at h |T'::r,h,T,hT=>by
  simp only[agT,aJ] at h;obtain ⟨⟨h1,h2⟩,h3⟩:=h;simp only[tV,nJ,beq_iff_eq] at hT;rcases hT with rfl|hT
  ·split at h1
   ·rename_i inf hi
    split at h2
    ·rename_i e he
     split at h2
     ·rename_i ie hie
      exact ⟨inf,e,ie,hi,h1,he,hie,by simpa using h2⟩
     ·cases h2
    ·cases h2
   ·cases h1
  ·exact WV h3 T hT
def WW(P:Program)(tys:BT Kr):List Nat->Bool
 |[]=>aF |t::r=>(match tys.get t with|some i=>afa P t i.zero|none=>aF)&&WW P tys r
theorem Qx{P:Program}{tys:BT Kr}:∀{l:List Nat},WW P tys l=aF->∀t i,l.contains t=aF->tys.get t=ay i->afa P t i.zero=aF
 |[],_,t,_,h,_=>by simp at h |t'::r,h,t,i,ht,hi=>by
  simp only[WW,aJ] at h;simp only[tV,nJ,beq_iff_eq] at ht;rcases ht with rfl|ht
  ·have:=h.1;rw[hi] at this;exact this
  ·exact Qx h.2 t i ht hi
section
variable{P:Program}{C:Ctx}{H H':Mem}{E E':Env}{w w':World}
def LU(E:Env)(hp:List (Nat×SB)):Nat->Prop:=fun b=>∃id sb,AA hp id=ay sb/\Bv E id sb=ay b
theorem afb{K:Kx}{hp:List (Nat×SB)}(p:Nat->Bool)(h:AZ K H E w hp):AZ K H E w (dropKey p hp):=by
 have key:∀{i:Nat} {sb:SB},AA (dropKey p hp) i=ay sb->AA hp i=ay sb:=fun {i sb} hl=>by
  rw[KY] at hl;cases hp':p i<;>simp only[hp',cond_true,cond_false] at hl
  ·exact hl
  ·cases hl
 exact ⟨fun id sb hl=>h.ent id sb (key hl),fun id id' sb sb' b l1 l2 o1 o2=>h.Gu id id' sb sb' b (key l1) (key l2) o1 o2⟩
end
inductive azd where
 |fin (v:SV) (hp:List (Nat×SB))
 |stop (td:List It) (c:Core)
section
variable{P:Program}{C:Ctx}{K:Kx}{H H':Mem}{E E' E0:Env}{w w':World}
end
def qF(hp:List (Nat×SB))(ρ:List (Nat×Rn)):List (Int×Bool×SV)->List (Int×Bool×SV)->Option (List BQ)
 |[],[]=>ay [] |(n,p,x)::l,(n',p',x')::l'=>Dp (p==p') (Fh (ay [.int n n']) (Fh (bif p' then qS hp ρ x x' else ay []) (qF hp ρ l l'))) |_,_=>aN
def qB2(hp:List (Nat×SB))(ρ:List (Nat×Rn))(id':Nat):SB->Option (List BQ)
 | .fm k' M' fs' us' tg'=>match AA ρ id' with
  |some (.id id)=>match AA hp id with
   |some (.fm k M fs us _)=>Dp (k==k'&&tg'.isNone) (Fh (ay [.mp M M']) (Fh (qF hp ρ fs fs') (qF hp ρ us us'))) |_=>aN
  |_=>aN
 | .Hl e' st' n' g' more'=>match AA ρ id' with
  |some (.id id)=>match AA hp id with
   |some (.Hl e st n g more)=>Dp (e==e'&&st==st'&&more.length==more'.length&&FU more') (Fh (ay [.nat n n',.get n g g']) (qL hp ρ more more')) |_=>aN
  |_=>aN
 |sb=>qB hp ρ id' sb
def qH2(hp:List (Nat×SB))(ρ:List (Nat×Rn)):List (Nat×SB)->Option (List BQ)
 |[]=>ay [] |(id',sb)::l=>Fh (qB2 hp ρ id' sb) (qH2 hp ρ l)
def aao:List (Int×Bool×SV)->List (Int×Bool×SV)->List (Nat×Rn)
 |(_,aF,x)::l,(_,aF,y)::m=>coll x y++aao l m |_::l,_::m=>aao l m |_,_=>[]
def arD:Option SB->Option SB->List (Nat×Rn)
 |some (.fm _ _ fs us _),ay (.fm _ _ gs vs _)=>aao fs gs++aao us vs |some (.Hl _ _ _ _ l),ay (.Hl _ _ _ _ m)=>NH l m |a,b=>anZ a b
def aap(hp' hp:List (Nat×SB)):Nat->List (Nat×Rn)->List (Nat×Rn)->List (Nat×Rn)
 |0,_,acc=>acc |_,[],acc=>acc |n+1,(i,r)::t,acc=>match AA acc i with
  |some _=>aap hp' hp n t acc |none=>match r with
   | .id j=>aap hp' hp n (arD (AA hp' i) (AA hp j)++t) ((i,r)::acc) | .nil=>aap hp' hp n t ((i,r)::acc)
structure Rw where
 hp:List (Nat×SB)
 keep:List Nat
def Rw.rn(t:Rw)(hp:List (Nat×SB)):List (Nat×Rn):=aap t.hp hp 4000 (t.keep.map fun i=>(i,.id i)) []
def akJ(hp:List (Nat×SB))(t:Rw):Option (List BQ):=Dp (KF (KG (t.rn hp))&&t.keep.all fun i=>adT (AA (t.rn hp) i) i) (qH2 hp (t.rn hp) t.hp)
def akK(v:SV)(hp:List (Nat×SB)):Nat->List Rw->Tree (SV×Nat×List BQ)
 |_,[]=>.fail |k,t::r=>match akJ hp t with
  |some l=>.leaf (v,k,l) |none=>akK v hp (k+1) r
def toEnd(ts:List Rw):Out->Tree (SV×Nat×List BQ)
 | .done v c=>akK v c.hp 0 ts | .stop _ _ _=>.fail
def Gz(ts:List Rw)(φ:SV->Nat->Prop):SV×Nat×List BQ->Prop
 |(v,k,l)=>dI l/\φ v k
@[irreducible] def EZ (ψ:SV×Nat×List BQ->Prop) (t:Tree (SV×Nat×List BQ)):Prop:=t.All ψ
theorem C9(ψ:SV×Nat×List BQ->Prop)(t:Tree (SV×Nat×List BQ)):EZ ψ t=t.All ψ:=by unfold EZ;rfl
section
variable{P:Program}{C:Ctx}{K:Kx}{H H':Mem}{E E':Env}{w w':World}{hp:List (Nat×SB)}{ρ:List (Nat×Rn)}
theorem afc(hh:AZ K H E w hp):∀{l l':List (Int×Bool×SV)} {q:List BQ} {r:List (Int×Option Value)},qF hp ρ l l'=ay q->dI q->GR H E l r->GR H (Gf ρ E) l' r
 |[],[],_,[],_,_,_=>trivial |(n,p,x)::l,(n',p',x')::l',q,(k,o)::r,hq,ha,⟨h1,h2,h3⟩=>by
  simp only[qF] at hq;obtain ⟨hp',hq⟩:=Bz hq;obtain ⟨a,b,e1,e2,rfl⟩:=BX hq;obtain ⟨c,d,e3,e4,rfl⟩:=BX e2;cases e1;have hpp:p=p':=by simpa using hp'
  subst hpp;obtain ⟨hn,ha⟩:=ha;have hn:n=n':=hn;subst hn;have ha2:=eG (show dI (c++d) from ha);refine ⟨h1,?_,afc hh e4 ha2.2 h3⟩;cases p with
  |true=>
   cases o with
   |none=>exact h2 |some v=>exact ⟨RX hh _ (abg _ e3 ha2.1) h2.1,h2.2⟩
  |false=>
   cases o with
   |none=>exact h2 |some v=>exact h2
 |[],_::_,_,_,h,_,_=>by simp[qF] at h |_::_,[],_,_,h,_,_=>by simp[qF] at h |_::_,_::_,_,[],_,_,h=>h.elim |[],[],_,_::_,_,_,h=>h.elim
theorem afd(hh:AZ K H E w hp){id':Nat}{sb:SB}{q:List BQ}(hq:qB2 hp ρ id' sb=ay q)(ha:dI q):
  GV K H (Gf ρ E) w id' sb/\∀b,Bv (Gf ρ E) id' sb=ay b->∃id s0,AA ρ id'=ay (.id id)/\AA hp id=ay s0/\Bv E id s0=ay b:=by
 unfold qB2 at hq;split at hq
 ·rename_i k' M' fs' us' tg'
  split at hq
  ·rename_i id hr
   split at hq
   ·rename_i k M fs us tg hl
    obtain ⟨hk,hq⟩:=Bz hq;obtain ⟨a,b,e1,e2,rfl⟩:=BX hq;obtain ⟨c,d,e3,e4,rfl⟩:=BX e2;cases e1;simp only[aJ,beq_iff_eq,Option.isNone_iff_eq_none] at hk;obtain ⟨rfl,rfl⟩:=hk;obtain ⟨hM,ha⟩:=ha;have hM:M=M':=hM;subst hM;have ha2:=eG (show dI (c++d) from ha);obtain ⟨b,ms,clk,fv,uv,he,h1,h2,h3,h4,h5,h6,h7⟩:=hh.ent _ _ hl;refine ⟨⟨b,ms,clk,fv,uv,by rw[DY hr];exact he,h1,afc hh e3 ha2.1 h2,afc hh e4 ha2.2 h3,h4,h5,trivial,h7⟩,fun b' hb=>⟨id,_,hr,hl,?_⟩⟩;simp only[Bv,DY hr] at hb ⊢;exact hb
   ·cases hq
  ·cases hq
 ·rename_i e' st' n' g' more'
  split at hq
  ·rename_i id hr
   split at hq
   ·rename_i e st n g more hl
    obtain ⟨hk,hq⟩:=Bz hq;obtain ⟨a,b,e1,e2,rfl⟩:=BX hq;cases e1;simp only[aJ,beq_iff_eq] at hk;obtain ⟨⟨⟨rfl,rfl⟩,hlen⟩,hone⟩:=hk;obtain ⟨hn,hg,ha⟩:=ha;have hn:n=n':=hn;subst hn;have hg:∀i,i<n->g i=g' i:=hg;obtain ⟨v,xs,ys,he,h1,h2,h3,h4,h5,h6⟩:=hh.ent _ _ hl;refine ⟨⟨v,xs,ys,by rw[DY hr];exact he,by rw[<-hlen];exact h1,RY h2 hg,Je hh _ (OO _ e2 ha) h3,by rw[<-hlen];exact h4,hone,h6⟩,fun b' hb=>⟨id,_,hr,hl,?_⟩⟩;simp only[Bv,DY hr] at hb ⊢;exact hb
   ·cases hq
  ·cases hq
 ·exact WM hh (anU hq ha)
theorem aaq:∀{l:List (Nat×SB)} {q:List BQ} {i:Nat} {sb:SB},qH2 hp ρ l=ay q->dI q->AA l i=ay sb->∃q',qB2 hp ρ i sb=ay q'/\dI q'
 |[],_,_,_,_,_,h=>by simp[AA] at h |(j,x)::l,q,i,sb,hq,ha,h=>by
  simp only[qH2] at hq;obtain ⟨a,b,e1,e2,rfl⟩:=BX hq;simp only[AA] at h;cases hj:(j==i)<;>simp only[hj,cond_true,cond_false] at h
  ·exact aaq e2 (eG ha).2 h
  ·cases h
   obtain rfl:j=i:=by simpa using hj
   exact ⟨a,e1,(eG ha).1⟩
theorem an2(hh:AZ K H E w hp){t:Rw}{q:List BQ}(hq:akJ hp t=ay q)(ha:dI q):∃E',AZ K H E' w t.hp/\∀i∈t.keep,E' i=E i:=by
 unfold akJ at hq;obtain ⟨h1,h2⟩:=Bz hq;simp only[aJ,dN] at h1;refine ⟨Gf (t.rn hp) E,⟨fun id sb hl=>?_,fun id id' sb sb' b l1 l2 o1 o2=>?_⟩,fun i hi=>DY (WQ (h1.2 i hi))⟩
 ·obtain ⟨q',e1,e2⟩:=aaq h2 ha hl
  exact (afd hh e1 e2).1
 ·obtain ⟨q1,e1,e2⟩:=aaq h2 ha l1
  obtain ⟨q2,e3,e4⟩:=aaq h2 ha l2;obtain ⟨i1,s1,a1,a2,a3⟩:=(afd hh e1 e2).2 b o1;obtain ⟨i2,s2,b1,b2,b3⟩:=(afd hh e3 e4).2 b o2;have:=hh.Gu _ _ _ _ _ a2 b2 a3 b3;subst this;exact ae8 h1.1 a1 b1
theorem agU{v:SV}{φ:SV->Nat->Prop}{ts:List Rw}:∀{r:List Rw} {k:Nat},(∀j,r[j]?=ts[k+j]?)->(akK v hp k r).All (Gz ts φ)->∃j t q,ts[j]?=ay t/\akJ hp t=ay q/\dI q/\φ v j
 |[],_,_,h=>h.elim |t::r,k,hk,h=>by
  unfold akK at h;split at h
  ·rename_i l hl
   have:=hk 0;simp only[jQ,jB] at this;exact ⟨k,t,l,this.symm,hl,h.1,h.2⟩
  ·exact agU (fun j=>by have:=hk (j+1);simp only[jP] at this;rw[this];congr 1;omega) h
theorem aje(hC:BL P C)(hF:Cb P C){n g:Nat}{fn:Func}{c:Core}{args:Array Value}{ts:List Rw}{φ:SV->Nat->Prop}(hfn:C.fns.get g=ay fn)(hb:fn.body.isSome=aF)
  (hd:AV H E c.tm (args++dY (fn.ntmps - args.size) undef).toList) (hh:AZ ⟨w,LU E c.hp,H⟩ H E w c.hp) (hon:H.on w) (hfree:Free E c) (hg:Dt C.gls H)
  (h:EZ (Gz ts φ) ((run C n aF g [.code []] c).bind (toEnd ts))) :
  Calls P g args w fun e w'=>∃v sv k t H' E1 E',e=.returned v/\φ sv k/\ts[k]?=ay t/\Den H' E1 sv v/\AZ ⟨w,LU E c.hp,H⟩ H' E' w' t.hp/\Es ⟨w,LU E c.hp,H⟩ H' w'/\H.le H'/\∀i∈t.keep,∀u,E i=ay u->E' i=ay u:=by
 rw[C9] at h;intro cs;obtain ⟨body,hbody⟩:=gI.1 hb;have hP:=hC.fn g fn hfn;let b:Frame:={(default:Frame) with fn:=g,kind:=.normal}
 let a:Act:={tmps:=args++dY (fn.ntmps - args.size) undef,defers:=[]}
 have henter:gQ P g args .normal=b.at a [.code body]:=by
  simp[gQ,Frame.at,hP,hbody,b,a]
 have st:St C ⟨w,LU E c.hp,H⟩ H E w c a:=
  ⟨hd,hh,⟨rfl,rfl,rfl,dw _,fun _ _ _=>rfl,hon,fun _ _ h=>h,fun _ h=>.inl h⟩,hfree,hg,rfl⟩
 have hit:CX (AU fn) [.code []] [.code body]:=by
  have:=iE (body:=AU fn) [] qW;have he:Bo (AU fn) []=body:=by simp[Bo,AU,hbody]
  rwa[he] at this
 obtain ⟨out,h1,h2⟩:=TQ hC hF n aF g [.code []] c H E w a fn [.code body] _ hfn (iH h) st hit b cs;cases out with
 |stop g' Gw c'=>exact h1.elim |done sv c'=>
  obtain ⟨a',w',H',E',v,todo,q1,q2,q3,q4,q5⟩:=h2;obtain ⟨k,t,q,r1,r2,r3,r4⟩:=agU (ts:=ts) (k:=0) (fun j=>by simp) h1;obtain ⟨E2,r5,r6⟩:=an2 q2.hp r2 r3;exact ⟨.returned v,w',_,⟨v,sv,k,t,H',E',E2,rfl,r4,r1,q4,r5,q2.Cm,q3.I7,fun i hi u hu=>by rw[r6 i hi];exact q3.MK i u hu⟩,by rw[henter];exact q1,rfl,rfl,q2.defers,rfl,fn,hP,q5⟩
end
def akL(fn:Func)(td:List It)(c:Core):Option (Nat×List SV×Option Nat×List It):=
 match td with
 | .reg p (i::r)::k=>match Bo (AU fn) p with
  | .region _ ops _=>match opAt ops.toList i with
   |some o=>match Oa ops.toList c.tm o with
    | .yes=>match o.op with
     | .call kk=>match kk.callee with
      | .value f=>match BP c.tm f with
       | .fn g cs=>ay (g,kk.args.toList.map (BP c.tm)++cs,o.dst,.reg p r::k) |_=>aN
      |_=>aN
     |_=>aN
    |_=>aN
   |none=>aN
  |_=>aN
 |_=>aN
def Hp.at(h:Hp)(H:Mem)(w:World):Prop:=∀b o,h b=ay o->w.heap[b]?=ay o/\H b=aN
mutual
def Ie:SV->Bool
 | .ptr _ _=>aA | .gs _=>aA | .gp _ _ _ _=>aA | .mp _=>aA | .ev _=>aA | .vw _ _=>aA | .fn _ l=>LV l | .agg l=>LV l | .Ba l=>LV l | .Dv _ x=>Ie x |_=>aF
def LV:List SV->Bool
 |[]=>aF |x::l=>Ie x&&LV l
end
def afe:List Fr->Bool
 |[]=>aF |f::s=>LV f.tm&&afe s
def Me:Env:=fun _=>aN
mutual
theorem MX{H:Mem}{E E':Env}:∀{x:SV} {v:Value},Ie x=aF->Den H E x v->Den H E' x v
 | .any,_,_,_=>trivial | .val _,_,_,h=>h | .int _ _,_,_,h=>h | .sym _ _,_,_,h=>h | .bool _,_,_,h=>h | .test _,_,_,h=>h | .str _,_,_,h=>h | .ptr _ _,_,h,_=>by simp[Ie] at h | .gs _,_,h,_=>by simp[Ie] at h | .gp _ _ _ _,_,h,_=>by simp[Ie] at h | .Fg,_,_,h=>h | .Bj,_,_,h=>h | .GN,_,_,h=>h | .Ed,_,_,h=>h | .F6,_,_,h=>h | .fn _ l,_,hn,⟨vs,h1,h2⟩=>⟨vs,h1,KI (by simpa[Ie] using hn) h2⟩ | .agg l,_,hn,⟨vs,h1,h2⟩=>⟨vs,h1,KI (by simpa[Ie] using hn) h2⟩ | .Ba l,_,hn,⟨vs,h1,h2⟩=>⟨vs,h1,KI (by simpa[Ie] using hn) h2⟩ | .Dv _ x,_,hn,⟨v,h1,h2⟩=>⟨v,h1,MX (by simpa[Ie] using hn) h2⟩ | .mp _,_,h,_=>by simp[Ie] at h | .sh _,_,_,h=>h | .G5 _ _ _ _ _,_,_,h=>h | .glob _,_,_,h=>h | .ev _,_,h,_=>by simp[Ie] at h | .vw _ _,_,h,_=>by simp[Ie] at h
theorem KI{H:Mem}{E E':Env}:∀{l:List SV} {vs:List Value},LV l=aF->AV H E l vs->AV H E' l vs
 |[],[],_,_=>trivial |_::_,_::_,hn,⟨h1,h2⟩=>by
  simp only[LV,aJ] at hn;exact ⟨MX hn.1 h1,KI hn.2 h2⟩
 |[],_::_,_,h=>h.elim |_::_,[],_,h=>h.elim
end
theorem adV{C:Ctx}{H:Mem}{E E':Env}:∀{s:List Fr} {ms:List Frame},afe s=aF->Gx C H E s ms->Gx C H E' s ms
 |[],[],_,_=>trivial |f::s,m::ms,hn,⟨⟨fn,a,items,h1,h2,h3⟩,h4⟩=>by
  simp only[afe,aJ] at hn;exact ⟨⟨fn,a,items,h1,KI hn.1 h2,h3⟩,adV hn.2 h4⟩
 |[],_::_,_,h=>h.elim |_::_,[],_,h=>h.elim
theorem Px{K:Kx}{H:Mem}{E:Env}{w:World}:AZ K H E w []:=⟨fun _ _ hl=>by simp[AA] at hl,fun _ _ _ _ _ hl=>by simp[AA] at hl⟩
section
variable{P:Program}{C:Ctx}{H H' H0:Mem}{E E':Env}{w w' w0:World}
def akM(P:Program)(gls:List (Nat×Sh))(g:Nat)(args:List SV)(R:Hp->Prop)(sv:SV)(R':Hp->Prop):Prop:=
 ∀(H:Mem) (E:Env) (w:World) (vs:List Value) (h:Hp),AV H E args vs->H.on w->Dt gls H->R h->h.at H w->
  Calls P g vs.toArray w fun en w'=>∃v H' h',en=.returned v/\Den H' E sv v/\R' h'/\h'.at H' w'/\H.le H'/\Es ⟨w,fun b=>h b≠aN,H⟩ H' w'/\∀b,h' b≠aN->w.heap.size<=b\/h b≠aN
theorem agV{K:Kx}{g g2:Nat}{fn:Func}{td Gw:List It}{c:Core}{stk:List Fr}{R R':Hp->Prop}{φ:Sh->Prop}{args:List SV}{sv:SV}{dst:Option Nat}(hfn:C.fns.get g=ay fn)
  (hp:akL fn td c=ay (g2,args,dst,Gw)) (hen:Enters P g2) (hn:c.hp=[]/\LV c.tm=aF/\afe stk=aF) (hcall:akM P C.gls g2 args R sv R') (hgo:BK P C K g Gw {c with tm:=Q9 c.tm dst sv} stk R' φ):BK P C K g td c stk R φ:=by
 intro H E1 w a items ms cs fn' hfn' st hi hs hx;rw[hfn] at hfn';cases hfn';let E:Env:=Me
 have st:St C K H E w c a:=⟨KI hn.2.1 st.den,by rw[hn.1];exact Px,st.Cm,fun _ _ _=>rfl,st.gl,st.defers⟩;have hs:Gx C H E stk ms:=adV hn.2.2 hs;have hx:OQ R K H E w:=let ⟨h,h1,h2⟩:=hx;⟨h,h1,fun b o e=>⟨(h2 b o e).1,(h2 b o e).2.1,fun i hi=>by simp[E,Me,bk] at hi,(h2 b o e).2.2.2⟩⟩;unfold akL at hp;split at hp;rotate_left
 ·cases hp
 rename_i p i rest k;split at hp;rotate_left
 ·cases hp
 rename_i rid ops dr hcode;split at hp;rotate_left
 ·cases hp
 rename_i o ho;split at hp;rotate_left
 ·cases hp
 rename_i hwant;split at hp;rotate_left
 ·cases hp
 rename_i kk hop;split at hp;rotate_left
 ·cases hp
 rename_i f WR;split at hp;rotate_left
 ·cases hp
 rename_i g3 caps hev;cases hp;cases hi with
 |reg p l id ops2 hc hk=>
  rw[hc] at hcode;cases hcode;rename_i k';have df:=BJ (H:=H) (E:=E) st.den f;rw[hev] at df;obtain ⟨vs,ef,hvs⟩:=df;have hargs:=(NC st.den kk.args.toList).append hvs;have ho':ops[i]?=ay o:=by simpa[opAt] using ho
  have hw':=Hy (ops:=ops) st.den o;rw[hwant] at hw';have hrun:(execOp a.eval o).run P w=.ok (.enter g2 (kk.args.map a.eval++vs)) w:=by
   simp only[execOp,hop,resolve,WR];simp[jJ,ef,invoke,Il hen]
  have hg:=stepG_op (P:=P) (b:=base g) (k:=k') (cs:=ms++cs) (w:=w) (rest:=rest) ho' hw';have henter:step P (lone ((base g).at a (.inRegion ops (i::rest)::k')) (ms++cs) w)=.next (lone (gQ P g2 (kk.args.map a.eval++vs) .normal) ((base g).at a (.inRegion ops (i::rest)::k')::(ms++cs)) w):=
   step_lone_go (by rw[hg];simp[gX,hrun,Frame.at])
  obtain ⟨h,hR,hb⟩:=hx;have hcl:=hcall H E w _ h hargs st.Cm.on st.gl hR fun b o e=>⟨(hb b o e).1,(hb b o e).2.1⟩;have avW:(kk.args.toList.map a.eval++vs.toList).toArray=kk.args.map a.eval++vs:=by
   apply Array.toList_inj.1;simp
  rw[avW] at hcl;obtain ⟨en,w',F,⟨v,H',h',rfl,dv,hR',hat',hH,WX,att⟩,q1,q2,q3⟩:=hcl ((base g).at a (.inRegion ops (i::rest)::k')::(ms++cs));have hleave:step P (lone F ((base g).at a (.inRegion ops (i::rest)::k')::(ms++cs)) w')=.next (lone ((base g).at (a.put o.dst v) (.inRegion ops rest::k')) (ms++cs) w'):=by
   rw[step_leave_returned q3,mF];simp[ho']
  have hno:∀{i:Nat} {b:Nat},bk E i=ay b->h b=aN:=fun {i b} hi=>by
   cases hx:h b with
   |none=>rfl |some o=>exact ((hb b o hx).2.2.1 i hi).elim
  have hun:∀{b:Nat},H b=aN->b<w.heap.size->h b=aN->H' b=aN:=fun {b} h1 h2 h3=>by
   cases hx:H' b with
   |none=>rfl |some o=>
    rcases WX.fresh b (by rw[hx];simp) with q|q|q
    ·exact (q h1).elim
    ·have q:w.heap.size<=b:=q;omega
    ·exact (q h3).elim
  have FB:∀{b:Nat},h b≠aN->K.w0.heap.size<=b\/K.own b:=fun {b} hb'=>by
   cases hx:h b with
   |none=>exact (hb' hx).elim |some o=>exact (hb b o hx).2.2.2
  have hhp:AZ K H' E w' c.hp:=⟨fun id sb hl=>by
   have hent:=st.hp.ent id sb hl;exact hent.kept hH (fun _ _ e=>e) (fun b ho=>WX.kept b (hent.lt ho).1 (by have:=hno (GX ho);simp[this])) fun b ho=>hun (hent.lt ho).2.1 (hent.lt ho).1 (hno (GX ho)),st.hp.Gu⟩
  have hW:Es K H' w':=⟨WX.os.trans st.Cm.os,WX.tape.trans st.Cm.tape,WX.output.trans st.Cm.output,iK st.Cm.size WX.size,fun b hb1 hn=>by
   rw[WX.kept b (jT hb1 st.Cm.size) fun hq=>by rcases FB hq with q|q;omega;exact hn q]
   exact st.Cm.kept b hb1 hn,WX.on,fun b o e=>hH b o (st.Cm.le b o e),fun b hb1=>by
    rcases WX.fresh b hb1 with q|q|q
    ·exact st.Cm.fresh b q
    ·exact .inr (.inl (iK st.Cm.size q))
    ·exact .inr (FB q)⟩
  have st3:St C K H' E w' {c with tm:=Q9 c.tm o.dst sv} (a.put o.dst v):=
   ⟨JX (c:=c) (st.den.le hH fun _ _ e=>e) _ dv,hhp,hW,st.free,st.gl.le hH,by rw[put_defers];exact st.defers⟩
  have hx3:OQ R' K H' E w':=by
   refine ⟨h',hR',fun b o e=>⟨(hat' b o e).1,(hat' b o e).2,fun i hi=>?_,?_⟩⟩
   ·simp[E,Me,bk] at hi
   ·rcases att b (by rw[e];simp) with q|q
    ·exact .inl (iK st.Cm.size q)
    ·exact FB q
  obtain ⟨a2,w2,v2,s,H2,abk,fn0,r1,r2,r3⟩:=hgo H' E w' _ _ ms cs fn hfn st3 (.reg p rest _ ops hc hk) (hs.le hH fun _ _ e=>e) hx3;exact ⟨a2,w2,v2,s,H2,abk,fn0,r1,(Steps.head henter (q1.trans (.one hleave))).trans r2,r3⟩
def abt(i:Nat)(u:Value)(x:SV):SV:=match x with
 | .ptr j 0=>bif j==i then .val u else .any |_=>bif Ie x then x else .any
theorem ajf{E':Env}{i:Nat}{b:Nat}(he:E i=ay (.pointer (ay ⟨b,0,aN⟩))){x:SV}{v:Value}(h:Den H E x v):Den H E' (abt i (.pointer (ay ⟨b,0,aN⟩)) x) v:=by
 unfold abt;split
 ·rename_i j
  cases hj:(j==i)<;>simp only[cond_true,cond_false]
  ·trivial
  ·obtain ⟨b',h1,h2⟩:=h
   obtain rfl:j=i:=by simpa using hj
   rw[he] at h1;simp[AY] at h1;subst h1;exact ⟨h2,rfl⟩
 ·cases hn:Ie x<;>simp only[cond_true,cond_false]
  ·trivial
  ·exact MX hn h
theorem Sj{E':Env}{i:Nat}{b:Nat}(he:E i=ay (.pointer (ay ⟨b,0,aN⟩))):∀{l:List SV} {vs:List Value},AV H E l vs->AV H E' (l.map (abt i (.pointer (ay ⟨b,0,aN⟩)))) vs
 |[],[],_=>trivial |_::_,_::_,⟨h1,h2⟩=>⟨ajf he h1,Sj he h2⟩ |[],_::_,h=>h.elim |_::_,[],h=>h.elim
def WY(i:Nat)(u:Value):List Fr->List Fr
 |[]=>[] |f::s=>{f with tm:=f.tm.map (abt i u)}::WY i u s
theorem abu{E':Env}{i:Nat}{b:Nat}(he:E i=ay (.pointer (ay ⟨b,0,aN⟩))):∀{s:List Fr} {ms:List Frame},Gx C H E s ms->Gx C H E' (WY i (.pointer (ay ⟨b,0,aN⟩)) s) ms
 |[],[],_=>trivial |_::_,_::_,⟨⟨fn,a,items,h1,h2,h3⟩,h4⟩=>⟨⟨fn,a,items,h1,Sj he h2,h3⟩,abu he h4⟩ |[],_::_,h=>h.elim |_::_,[],h=>h.elim
theorem Zl{i:Nat}{u:Value}:∀{s:List Fr} {g:Nat},Ri g (WY i u s)=Ri g s
 |[],_=>rfl |f::s,_=>by simp only[WY,Ri];exact Zl
def WZ(E:Env)(w:World)(hp:List (Nat×SB)):Hp->Prop:=fun h=>(∀b o,h b=ay o->w.heap[b]?=ay o)/\∀b,(∃id sb,AA hp id=ay sb/\Bv E id sb=ay b)↔h b≠aN
theorem ajg{K:Kx}{hp:List (Nat×SB)}(hh:AZ K H E w hp):∃h,WZ E w hp h:=by
 classical
 refine ⟨fun b=>if ∃id sb,AA hp id=ay sb/\Bv E id sb=ay b then w.heap[b]? else aN,fun b o e=>?_,fun b=>⟨fun hq=>?_,fun hq=>?_⟩⟩
 ·dsimp only at e
  split at e
  ·exact e
  ·cases e
 ·have:=hq
  obtain ⟨id,sb,h1,h2⟩:=hq;have hlt:=((hh.ent _ _ h1).lt h2).1;simp only[if_pos this];rw[Array.getElem?_eq_getElem hlt];simp
 ·dsimp only at hq
  split at hq
  ·assumption
  ·simp at hq
theorem Zm{K:Kx}{g i0:Nat}{td:List It}{c:Core}{stk:List Fr}{R:Hp->Prop}{R':Nat->Hp->Prop}{φ:Sh->Prop}(q:Nat->Bool)
  (hR:∀H E w h,H.on w->AZ K H E w (dropKey q c.hp)->WZ E w (dropKey q c.hp) h->∃b,E i0=ay (.pointer (ay ⟨b,0,aN⟩))/\R' b h)
  (hgo:∀b,BK P C K g td {tm:=c.tm.map (abt i0 (.pointer (ay ⟨b,0,aN⟩))),hp:=[],nx:=0,lim:=c.lim,tc:=[]} (WY i0 (.pointer (ay ⟨b,0,aN⟩)) stk) (R' b) φ):BK P C K g td c stk R φ:=by
 intro H E w a items ms cs fn' hfn' st hi hs hx;have hd:=afb q st.hp;obtain ⟨h,hh⟩:=ajg hd;obtain ⟨b,he,hR'⟩:=hR H E w h st.Cm.on hd hh;have:=hgo b H Me w a items ms cs fn' hfn' ⟨Sj he st.den,Px,st.Cm,fun _ _ _=>rfl,st.gl,st.defers⟩ hi (abu he hs) ⟨h,hR',fun b' o e=>by
  obtain ⟨id,sb,h1,h2⟩:=(hh.2 b').2 (by rw[e];simp);have:=((hd.ent _ _ h1).lt h2).2;exact ⟨hh.1 b' o e,this.1,fun i hi=>by simp[Me,bk] at hi,this.2⟩⟩
 rw[Zl] at this;exact this
theorem agW{x y:SV}:∀{l:List SV} {vs:List Value} {i:Nat},l[i]?=ay x->(∀v,Den H E x v->Den H E y v)->AV H E l vs->AV H E (l.set i y) vs
 |[],_,_,h,_,_=>by simp at h |_::_,[],_,_,_,h=>h.elim |_::_,_::_,0,h,hf,⟨h1,h2⟩=>by
  simp at h;subst h;exact ⟨hf _ h1,h2⟩
 |_::_,_::_,i+1,h,hf,⟨h1,h2⟩=>⟨h1,agW (by simpa using h) hf h2⟩
def Mem.with(H:Mem)(h:Hp):Mem:=fun b=>match h b with|some o=>ay o|none=>H b
theorem agX{K:Kx}{g:Nat}{td:List It}{c:Core}{stk:List Fr}{R:Hp->Prop}{φ:Sh->Prop}{u:Value}{X:Type}{y:X->SV}(hR:∀H E h w,R h->H.on w->h.at H w->∃x,Den (H.with h) E (y x) u)
  {i:Nat} (hi:c.tm[i]?=ay (.val u)) (hgo:∀x,BK P C K g td {c with tm:=c.tm.set i (y x)} stk emp φ):BK P C K g td c stk R φ:=by
 intro H E w a items ms cs fn' hfn' st hit hs ⟨h,hR',hb⟩;have hat:h.at H w:=fun b o e=>⟨(hb b o e).1,(hb b o e).2.1⟩;have hle:H.le (H.with h):=fun b o e=>by
  unfold Mem.with;cases hx:h b with
  |none=>exact e |some o'=>rw[(hat b o' hx).2] at e;cases e
 have hw:Es K (H.with h) w:=⟨st.Cm.os,st.Cm.tape,st.Cm.output,st.Cm.size,st.Cm.kept,fun b o e=>by
  unfold Mem.with at e;cases hx:h b with
  |none=>rw[hx] at e;exact st.Cm.on b o e |some o'=>rw[hx] at e;cases e;exact (hat b _ hx).1,fun b o e=>hle b o (st.Cm.le b o e),fun b hb1=>by
  unfold Mem.with at hb1;cases hx:h b with
  |none=>rw[hx] at hb1;exact st.Cm.fresh b hb1 |some o'=>exact .inr (hb b o' hx).2.2.2⟩
 have hhp:AZ K (H.with h) E w c.hp:=⟨fun id sb hl=>(st.hp.ent id sb hl).kept hle (fun _ _ e=>e) (fun _ _=>rfl) fun b ho=>by
  unfold Mem.with;cases hx:h b with
  |none=>exact ((st.hp.ent id sb hl).lt ho).2.1 |some o=>exact ((hb b o hx).2.2.1 id (GX ho)).elim,st.hp.Gu⟩
 obtain ⟨x,hx⟩:=hR H E h w hR' st.Cm.on hat;exact hgo x _ E w a items ms cs fn' hfn' ⟨agW hi (fun v hv=>by obtain ⟨rfl,_⟩:=hv;exact hx) (st.den.le hle fun _ _ e=>e),hhp,hw,st.free,st.gl.le hle,st.defers⟩ hit (hs.le hle fun _ _ e=>e) WT
inductive Fe3 where
 |ret (s:Sh)
 |raw (g:Nat) (td:List It) (c:Core) (stk:List Fr)
def an3:abh->Tree Fe3
 | .fin v c=>match finish c v with
  |some s=>.leaf (.ret s) |none=>.fail
 | .stop g td c stk=>.leaf (.raw g td c stk)
def asM(C:Ctx)(hold:Nat->Bool)(m n g:Nat)(td:List It)(c:Core)(stk:List Fr):Tree Fe3:=(Zi C hold m n g td c stk).bind an3
def atv(P:Program)(C:Ctx)(K:Kx)(R:Hp->Prop)(φ:Sh->Prop):Fe3->Prop
 | .ret s=>φ s | .raw g td c stk=>BK P C K g td c stk R φ
@[irreducible] def aff (ψ:Fe3->Prop) (t:Tree Fe3):Prop:=t.All ψ
theorem abv(ψ:Fe3->Prop)(t:Tree Fe3):aff ψ t=t.All ψ:=by unfold aff;rfl
theorem agZ(hC:BL P C)(hF:Cb P C){hold:Nat->Bool}{m n g:Nat}{td:List It}{c:Core}{stk:List Fr}{R:Hp->Prop}{φ:Sh->Prop}
  (h:aff (atv P C (K0 H0 w0) R φ) (asM C hold m n g td c stk)):BK P C (K0 H0 w0) g td c stk R φ:=by
 rw[abv] at h;refine KH hC hF (hold:=hold) (m:=m) (n:=n) ((iH h).mono fun o ho=>?_);cases o with
 |fin v c=>
  simp only[an3] at ho;split at ho
  ·rename_i s hs
   exact ⟨s,hs,ho⟩
  ·exact ho.elim
 |stop g td c stk=>exact ho
end
def akN:List (Nat×SB)->List Nat
 |[]=>[] |(_,.Hl _ _ _ _ more)::l=>JO more++akN l |_::l=>akN l
def Sl(A:Prim)(hp:List (Nat×SB)):SB->SB
 | .Hl e st n g more=>match IB hp more with
  |some l=>.own e st (A.addN n (more.length / st)) (A.snoc g n (BD (chunks st (more.length / st) l))) |none=>.Hl e st n g more
 |sb=>sb
def W9(A:Prim)(hp:List (Nat×SB)):List (Nat×SB)->List (Nat×SB)
 |[]=>[] |(i,sb)::l=>(i,Sl A hp sb)::W9 A hp l
def settle(A:Prim)(hp:List (Nat×SB)):Option (List (Nat×SB)):=(freeze hp (akN hp)).map fun hp=>W9 A hp hp
section
variable{P:Program}{C:Ctx}{K:Kx}{H H' H0:Mem}{E E':Env}{w w' w0:World}
theorem Qy{A:Prim}{hp:List (Nat×SB)}{i:Nat}:∀{l:List (Nat×SB)},AA (W9 A hp l) i=(AA l i).map (Sl A hp)
 |[]=>rfl |(j,sb)::l=>by
  simp only[W9,AA];cases h:j==i<;>simp only[cond_true,cond_false,Option.map_some]
  exact Qy
theorem Sm{hp:List (Nat×SB)}(hh:AZ K H E w hp){i:Nat}{sb:SB}(h:GV K H E w i sb):GV K H E w i (Sl Aw hp sb)/\Bv E i (Sl Aw hp sb)=Bv E i sb:=by
 unfold Sl;split
 ·rename_i e st n g more
  split
  ·rename_i l hl
   obtain ⟨v,xs,ys,he,h1,h2,h3,h4,h5,h6⟩:=h;refine ⟨⟨v,xs++ys,he,h1,?_,h6⟩,by simp[Bv]⟩;have hlen:=h3.length;have hm:=Nat.div_add_mod more.length st;rw[h4,jB,Nat.mul_comm] at hm;exact aaR h2 (JU (show ys.length=more.length / st*st by rw[hm];exact hlen) (EC hh hl h3) (FC h5 h3))
  ·exact ⟨h,rfl⟩
 ·exact ⟨h,rfl⟩
theorem ajh{hp hp':List (Nat×SB)}(h:settle Aw hp=ay hp')(hh:AZ K H E w hp)(hw:Es K H w):∃H',H.le H'/\AZ K H' E w hp'/\Es K H' w:=by
 unfold settle at h;cases hf:freeze hp (akN hp) with
 |none=>rw[hf] at h;cases h |some hp1=>
  rw[hf] at h;cases h;obtain ⟨H',h1,h2,h3,_⟩:=Ny hf hh hw;refine ⟨H',h1,⟨fun id sb hl=>?_,fun id id' sb sb' b l1 l2 o1 o2=>?_⟩,h3⟩
  ·rw[Qy] at hl
   cases hx:AA hp1 id with
   |none=>rw[hx] at hl;cases hl |some s0=>
    rw[hx] at hl;cases hl;exact (Sm h2 (h2.ent _ _ hx)).1
  ·rw[Qy] at l1 l2
   cases hx:AA hp1 id with
   |none=>rw[hx] at l1;cases l1 |some s0=>
    cases hy:AA hp1 id' with
    |none=>rw[hy] at l2;cases l2 |some s1=>
     rw[hx] at l1;rw[hy] at l2;cases l1;cases l2;rw[(Sm h2 (h2.ent _ _ hx)).2] at o1;rw[(Sm h2 (h2.ent _ _ hy)).2] at o2;exact h2.Gu _ _ _ _ _ hx hy o1 o2
theorem adk{g:Nat}{td:List It}{c:Core}{stk:List Fr}{φ:Sh->Prop}{hp':List (Nat×SB)}(h:settle Aw c.hp=ay hp')(hgo:BK P C K g td {c with hp:=hp'} stk emp φ):BK P C K g td c stk emp φ:=by
 intro H E w a items ms cs fn hfn st hi hs hx;obtain ⟨H',h1,h2,h3⟩:=ajh h st.hp st.Cm;exact hgo H' E w a items ms cs fn hfn ⟨st.den.le h1 fun _ _ e=>e,h2,h3,st.free,st.gl.le h1,st.defers⟩ hi (hs.le h1 fun _ _ e=>e) WT
def aji(A:Prim)(ts:List NG):abh->Tree Eo
 | .fin v c=>match finish c v with
  |some s=>.leaf (.ret s) |none=>.fail
 | .stop g td c stk=>match settle A c.hp with
  |some hp=>WS g td {c with hp:=hp} stk 0 ts
  |none=>.fail
def asN(C:Ctx)(hold:Nat->Bool)(m n g:Nat)(td:List It)(c:Core)(stk:List Fr)(ts:List NG):Tree Eo:=(Zi C hold m n g td c stk).bind (aji C.A ts)
theorem ag0(hC:BL P C)(hF:Cb P C){hold:Nat->Bool}{m n g:Nat}{td:List It}{c:Core}{stk:List Fr}{ts:List NG}{φ:Sh->Prop}
  (h:(asN C hold m n g td c stk ts).All (Jq P C (K0 H0 w0) ts emp φ)):BK P C (K0 H0 w0) g td c stk emp φ:=by
 refine KH hC hF (hold:=hold) (m:=m) (n:=n) ((iH h).mono fun o ho=>?_);cases o with
 |fin v c=>
  simp only[aji] at ho;split at ho
  ·rename_i s hs
   exact ⟨s,hs,ho⟩
  ·exact ho.elim
 |stop g td c stk=>
  simp only[aji,hC.A] at ho;split at ho
  ·rename_i hp hs
   exact adk hs (Ve (k:=0) (fun j=>by simp) ho)
  ·exact ho.elim
end
def Xa(g:Nat)(td:List It)(c:Core)(stk:List Fr):Nat->List NG->Tree Eo
 |_,[]=>.fail |k,t::r=>bif g==t.g&&Jp td t.td&&Si stk t.stk then match Fh (qC (t.rn c stk) c t.c) (abl c.hp (t.rn c stk) stk t.stk) with
   |some l=>.leaf (.at_ k l) |none=>Xa g td c stk (k+1) r
  else Xa g td c stk (k+1) r
def an4(ts:List NG):abh->Tree Eo
 | .fin v c=>match finish c v with
  |some s=>.leaf (.ret s) |none=>.fail
 | .stop g td c stk=>Xa g td c stk 0 ts
section
variable{P:Program}{C:Ctx}{K:Kx}{H0:Mem}{w0:World}
theorem Vf{R:Hp->Prop}{φ:Sh->Prop}{ts:List NG}{g:Nat}{td:List It}{c:Core}{stk:List Fr}:∀{r:List NG} {k:Nat},(∀j,r[j]?=ts[k+j]?)->(Xa g td c stk k r).All (Jq P C K ts R φ)->BK P C K g td c stk R φ
 |[],_,_,h=>h.elim |t::r,k,hk,h=>by
  have hr:∀j,r[j]?=ts[k+1+j]?:=fun j=>by have:=hk (j+1);simp only[jP] at this;rw[this];congr 1;omega
  unfold Xa at h;cases hb:(g==t.g&&Jp td t.td&&Si stk t.stk)<;>simp only[hb,cond_true,cond_false] at h
  ·exact Vf hr h
  ·simp only[aJ,beq_iff_eq] at hb
   obtain ⟨⟨h1,h2⟩,h3⟩:=hb;split at h
   ·rename_i l hl
    obtain ⟨a,b,q1,q2,rfl⟩:=BX hl;obtain ⟨hl,t',ht,hg⟩:=h;have:=hk 0;simp only[jQ,jB] at this;rw[<-this] at ht;cases ht;have h2:=MW h2;subst h1 h2;exact Zj (t.rn c stk) (ajc q1 (eG hl).1) (abn q2 (eG hl).2) hg
   ·exact Vf hr h
end
def adW(C:Ctx)(pause:Nat->List It->Bool)(hold:Nat->Bool)(m:Nat):Nat->Nat->List It->Core->List Fr->Tree abh
 |0,g,td,c,stk=>.leaf (.stop g td c stk) |n+1,g,td,c,stk=>match C.fns.get g with
  |none=>.fail |some fn=>bif pause g td||holdB hold fn td c then .leaf (.stop g td c stk) else match Qv C fn td c with
   |some r=>adW C pause hold m n r.1 [.code []] {c with tm:=r.2.2++dU (r.2.1.ntmps - r.2.2.length) .any} ({g,td,tm:=c.tm}::stk)
   |none=>(RI C (MQ C (run C m aA)) aF g fn td c).bind fun s=>match s with
    | .go td c=>adW C pause hold m n g td c stk | .halt td c=>.leaf (.stop g td c stk) | .done v c=>match stk with
     |[]=>.leaf (.fin v c) |f::stk=>match RZ C f v c with
      |some r=>adW C pause hold m n f.g r.1 r.2 stk |none=>.fail
section
variable{P:Program}{C:Ctx}{K:Kx}{H H' OL H0:Mem}{E E' OM E1:Env}{w w' w'' w0:World}
theorem Oi(hC:BL P C)(hF:Cb P C){pause:Nat->List It->Bool}{hold:Nat->Bool}{m:Nat}{R:Hp->Prop}{φ:Sh->Prop}:∀{n g:Nat} {td:List It} {c:Core} {stk:List Fr},(adW C pause hold m n g td c stk).All (akH P C (K0 H0 w0) R φ)->BK P C (K0 H0 w0) g td c stk R φ
 |0,g,td,c,stk,h=>h |n+1,g,td,c,stk,h=>by
  intro H E w a items ms cs fn hfn st hi hs hx;simp only[adW,hfn] at h;cases ajd:(pause g td||holdB hold fn td c)<;>simp only[ajd,cond_true,cond_false] at h
  rotate_left
  ·exact h H E w a items ms cs fn hfn st hi hs hx
  split at h
  ·
   rename_i r hr;unfold Qv at hr;split at hr
   ·rename_i p i rest k
    split at hr
    ·rename_i rid ops dr hcode
     split at hr
     ·rename_i o ho
      split at hr
      ·rename_i hwant
       split at hr
       ·rename_i kk hop
        split at hr
        ·rename_i f WR
         split at hr
         ·rename_i g2 caps hev
          split at hr
          ·cases hr
          ·rename_i hspec
           split at hr
           ·rename_i FI hfn2
            cases hb:(gY (kk.args.toList.map (BP c.tm)++caps).length FI.ntmps&&FI.body.isSome)<;>simp only[hb,cond_true,cond_false] at hr
            ·cases hr
            cases hr;simp only[aJ] at hb;obtain ⟨body2,JY⟩:=gI.1 hb.2;have ih:=Oi hC hF h;have hP2:=hC.fn g2 FI hfn2;cases hi with
            |reg p l id ops2 hc hk=>
             rw[hc] at hcode;cases hcode;rename_i k';have df:=BJ (H:=H) (E:=E) st.den f;rw[hev] at df;obtain ⟨vs,ef,hvs⟩:=df;have hargs:=(NC st.den kk.args.toList).append hvs;have ho':ops[i]?=ay o:=by simpa[opAt] using ho
             have hw':=Hy (ops:=ops) st.den o;rw[hwant] at hw';have hent:=hF.en g2 (.inr (by rw[hfn2];rfl));have hrun:(execOp a.eval o).run P w=.ok (.enter g2 (kk.args.map a.eval++vs)) w:=by
              simp only[execOp,hop,resolve,WR];simp[jJ,ef,invoke,Il hent]
             have hg:=stepG_op (P:=P) (b:=base g) (k:=k') (cs:=ms++cs) (w:=w) (rest:=rest) ho' hw';have henter:step P (lone ((base g).at a (.inRegion ops (i::rest)::k')) (ms++cs) w)=.next (lone (gQ P g2 (kk.args.map a.eval++vs) .normal) ((base g).at a (.inRegion ops (i::rest)::k')::(ms++cs)) w):=
              step_lone_go (by rw[hg];simp[gX,hrun,Frame.at])
             rw[Lh hP2 JY] at henter;have hl:=hargs.length;have hlen:(kk.args.map a.eval++vs).size=(kk.args.toList.map (BP c.tm)++caps).length:=by
              rw[<-hl];simp
             have st2:St C (K0 H0 w0) H E w {c with tm:=(kk.args.toList.map (BP c.tm)++caps)++dU (FI.ntmps - (kk.args.toList.map (BP c.tm)++caps).length) .any} {tmps:=(kk.args.map a.eval++vs)++dY (FI.ntmps - (kk.args.map a.eval++vs).size) undef,defers:=[]}:=by
              refine ⟨?_,st.hp,st.Cm,st.free,st.gl,rfl⟩;have:((kk.args.map a.eval++vs)++dY (FI.ntmps - (kk.args.map a.eval++vs).size) undef).toList=(kk.args.toList.map a.eval++vs.toList)++dU (FI.ntmps - (kk.args.toList.map (BP c.tm)++caps).length) undef:=by
               rw[hlen];simp
              simp only[this];exact hargs.append (rY _ _ (by simp))
             have hit2:CX (AU FI) [.code []] [.code body2]:=by
              have:=iE (body:=AU FI) [] qW;have he:Bo (AU FI) []=body2:=by simp[Bo,AU,JY]
              rwa[he] at this
             have hs2:Gx C H E ({g,td:=.reg p (i::rest)::k,tm:=c.tm}::stk) ((base g).at a (.inRegion ops (i::rest)::k')::ms):=
              ⟨⟨fn,a,_,hfn,st.den,st.defers,.reg p (i::rest) _ ops hc hk,rfl⟩,hs⟩
             obtain ⟨a',w',v,s,H',todo,fn0,q1,q2,q3⟩:=ih H E w _ _ (_::ms) cs FI hfn2 st2 hit2 hs2 hx;exact ⟨a',w',v,s,H',todo,fn0,q1,.head henter q2,q3⟩
           ·cases hr
         ·cases hr
        ·cases hr
       ·cases hr
      ·cases hr
     ·cases hr
    ·cases hr
   ·cases hr
  ·have hK:=TP (K:=Ru H E w c.hp) hC hF (TQ hC hF m)
   obtain ⟨sig,h1,h2⟩:=X7 hC hF hK (iH h) st.re hi (base g) (ms++cs);cases sig with
   |go Gw c'=>
    obtain ⟨a',w',H',E',items',q1,q2,q3,q4⟩:=h2;obtain ⟨a2,w2,v,s,H2,todo,fn0,r1,r2,r3⟩:=Oi hC hF h1 H' E' w' a' items' ms cs fn hfn (st.un q2) q4 (hs.le q3.I7 q3.MK) (hx.keep st q2 q3);exact ⟨a2,w2,v,s,H2,todo,fn0,r1,q1.trans r2,r3⟩
   |halt Gw c'=>
    obtain ⟨a',w',H',E',items',q1,q2,q3,q4⟩:=h2;obtain ⟨a2,w2,v,s,H2,todo,fn0,r1,r2,r3⟩:=h1 H' E' w' a' items' ms cs fn hfn (st.un q2) q4 (hs.le q3.I7 q3.MK) (hx.keep st q2 q3);exact ⟨a2,w2,v,s,H2,todo,fn0,r1,q1.trans r2,r3⟩
   |done sv c'=>
    obtain ⟨a',w',H',E',v,todo,q1,q2,q3,q4,q5⟩:=h2;cases stk with
    |nil=>
     cases ms with
     |cons _ _=>exact hs.elim |nil=>
      obtain ⟨s,e1,e2⟩:=h1;obtain ⟨H2,r⟩:=Qs (st.un q2) e1 q4;exact ⟨a',w',v,s,H2,todo,fn,hfn,q1,q2.defers,e2,r,q5⟩
    |cons f stk=>
     cases ms with
     |nil=>exact hs.elim |cons mf ms=>
      simp only at h1;split at h1
      ·rename_i r hr
       unfold RZ at hr;split at hr
       ·rename_i OT agQ
        split at hr
        ·rename_i p i rest k htd
         split at hr
         ·rename_i rid ops dr hcode
          cases hr;obtain ⟨⟨fn3,a3,akI,g1,g2,g3,g4,g5⟩,hs'⟩:=hs.le q3.I7 q3.MK;rw[agQ] at g1;cases g1;rw[htd] at g4;cases g4 with
          |reg p l id ops2 hc hk=>
           rw[hc] at hcode;cases hcode;rename_i k';subst g5;have hleave:step P (lone {(base g).at a' todo with mode:=.returning} ((base f.g).at a3 (.inRegion ops (i::rest)::k')::(ms++cs)) w')=.next (lone ((base f.g).at (a3.put ((opAt ops.toList i).bind (·.dst)) v) (.inRegion ops rest::k')) (ms++cs) w'):=by
            rw[step_leave_returned (v:=v) ⟨rfl,q2.defers,rfl,fn,hC.fn g fn hfn,q5⟩,mF];simp[opAt]
           have st3:St C (K0 H0 w0) H' E' w' {c' with tm:=Q9 f.tm ((opAt ops.toList i).bind (·.dst)) sv} (a3.put ((opAt ops.toList i).bind (·.dst)) v):=
            ⟨JX (c:={c' with tm:=f.tm}) g2 _ q4,(st.un q2).hp,(st.un q2).Cm,q2.free,q2.gl,by rw[put_defers];exact g3⟩
           obtain ⟨a2,w2,v2,s,H2,abk,fn0,r1,r2,r3⟩:=Oi hC hF h1 H' E' w' _ _ ms cs OT agQ st3 (.reg p rest _ ops hc hk) hs' (hx.keep st q2 q3);exact ⟨a2,w2,v2,s,H2,abk,fn0,r1,(q1.trans (.one hleave)).trans r2,r3⟩
         ·cases hr
        ·cases hr
       ·cases hr
      ·exact h1.elim
def asO(C:Ctx)(pause:Nat->List It->Bool)(m n g:Nat)(td:List It)(c:Core)(stk:List Fr)(ts:List NG):Tree Eo:=(adW C pause (fun _=>aA) m n g td c stk).bind (an4 ts)
theorem ag1(hC:BL P C)(hF:Cb P C){pause:Nat->List It->Bool}{m n g:Nat}{td:List It}{c:Core}{stk:List Fr}{ts:List NG}{φ:Sh->Prop}{R:Hp->Prop}
  (h:(asO C pause m n g td c stk ts).All (Jq P C (K0 H0 w0) ts R φ)):BK P C (K0 H0 w0) g td c stk R φ:=by
 refine Oi hC hF (pause:=pause) (hold:=fun _=>aA) (m:=m) (n:=n) ((iH h).mono fun o ho=>?_);cases o with
 |fin v c=>
  simp only[an4] at ho;split at ho
  ·rename_i s hs
   exact ⟨s,hs,ho⟩
  ·exact ho.elim
 |stop g td c stk=>exact Vf (k:=0) (fun j=>by simp) ho
end
def CW(b:Frame)(a:Act)(todo:List Item):Frame:=
 {fn:=b.fn,tmps:=a.tmps,todo,defers:=a.defers++b.defers,mode:=.run,kind:=b.kind,roundOf:=b.roundOf}
def Sr(b:Frame)(a:Act):Act:={a with defers:=a.defers++b.defers}
theorem DT(b:Frame)(a:Act)(todo:List Item):CW b a todo=b.atR (Sr b a) todo:=rfl
theorem Qz(b:Frame)(a:Act):(Sr b a).eval=a.eval:=funext fun x=>by cases x<;>rfl
theorem adX(b:Frame)(a:Act)(d:Option Nat)(v:Value):(Sr b a).put d v=Sr b (a.put d v):=by cases d<;>rfl
def bq(g:Nat)(r:Option Nat)(ds:List Deferred):Frame:={(default:Frame) with fn:=g,kind:=.normal,roundOf:=r,defers:=ds}
theorem Yb(g:Nat)(a:Act)(todo:List Item):CW (bq g aN []) a todo=(base g).at a todo:=by simp[CW,Frame.at,bq,base]
theorem Sv(b:Frame)(a:Act)(ops:Array Oper)(i:Nat)(rest:List Nat)(k:List Item)(v:Value):
  (CW b a (.inRegion ops (i::rest)::k)).finish v=CW b (a.put ((ops[i]?).bind (·.dst)) v) (.inRegion ops rest::k):=by
 rw[DT,Frame.finish_atR,adX,<-DT]
section moves
variable{P:Program}{b:Frame}{a:Act}{k:List Item}{cs:List Frame}{w:World}{ops:Array Oper}
theorem an5:step P (lone (CW b a (.code .skip::k)) cs w)=.next (lone (CW b a k) cs w):=by rw[DT,DT];exact stepR_skip
theorem ag2{id:Nat}:step P (lone (CW b a (.inBlock id::k)) cs w)=.next (lone (CW b a k) cs w):=by rw[DT,DT];exact stepR_inBlock
theorem arE{x y:Code}:step P (lone (CW b a (.code (.seq x y)::k)) cs w)=.next (lone (CW b a (.code x::.code y::k)) cs w):=by rw[DT,DT];exact stepR_seq
theorem an6{c:Operand}{x y:Code}{t:Bool}(h:a.eval c=.bool t):step P (lone (CW b a (.code (.cond c x y)::k)) cs w)=.next (lone (CW b a (.code (if t then x else y)::k)) cs w):=by
 rw[DT,DT];exact stepR_cond (by rw[Qz];exact h)
theorem al3{id:Nat}{c:Code}:step P (lone (CW b a (.code (.block id c)::k)) cs w)=.next (lone (CW b a (.code c::.inBlock id::k)) cs w):=by rw[DT,DT];exact stepR_block
theorem ag3{c:Code}:step P (lone (CW b a (.code (.loop c)::k)) cs w)=.next (lone (CW b a (.code c::.inLoop c::k)) cs w):=by rw[DT,DT];exact stepR_loop
theorem abw{c:Code}:step P (lone (CW b a (.inLoop c::k)) cs w)=.next (lone (CW b a (.code c::.inLoop c::k)) cs w):=by rw[DT,DT];exact stepR_inLoop
theorem an7{id:Nat}{k':List Item}(h:exitTo id k=ay k'):step P (lone (CW b a (.code (.exit id)::k)) cs w)=.next (lone (CW b a k') cs w):=by rw[DT,DT];exact stepR_exit h
theorem arF(hb:b.roundOf=aN):step P (lone (CW b a (.code .ret::k)) cs w)=.next (lone {CW b a (.code .ret::k) with mode:=.returning} cs w):=by rw[DT];exact stepR_ret hb
theorem arG(hb:b.roundOf=aN):step P (lone (CW b a []) cs w)=.next (lone {CW b a [] with mode:=.returning} cs w):=by rw[DT];exact stepR_end hb
theorem ajj{id:Nat}:step P (lone (CW b a (.code (.region id ops aA)::k)) cs w)=.next (lone (CW b a (.inRegion ops (aY ops.size)::k)) cs w):=by rw[DT,DT];exact stepR_region
theorem Sz:step P (lone (CW b a (.inRegion ops []::k)) cs w)=.next (lone (CW b a k) cs w):=by rw[DT,DT];exact stepR_region_end
theorem ZX{id:Nat}:step P (lone (CW b a (.code (.region id ops aF)::k)) cs w) =
   .next (lone (CW b a (.inRegion ops (oL (P.follows .mixedOrders) ops (w.tape w.drawn (.order b.fn id)))::k)) cs {w with drawn:=w.drawn+1}):=by rw[DT,DT];exact stepR_region_draw
end moves
def ajk:Op->Bool
 | .defer _=>aA |_=>aF
def Eu:Code->Bool
 | .seq a b=>Eu a&&Eu b | .cond _ a b=>Eu a&&Eu b | .block _ b=>Eu b | .loop b=>Eu b | .rangeFunc _ _ a b=>Eu a&&Eu b | .region _ ops _=>ops.toList.all fun o=>ajk o.op |_=>aF
theorem abx{c:Code}(h:Eu c=aF)(i:Nat):Eu (child c i)=aF:=by
 unfold child;split<;>simp_all [Eu]
theorem SA{c:Code}(h:Eu c=aF):∀p:List Nat,Eu (Bo c p)=aF
 |[]=>h |i::p=>abx (SA h p) i
theorem Xb{id:Nat}{ops:Array Oper}{dr:Bool}(h:Eu (.region id ops dr)=aF){i:Nat}{o:Oper}(ho:ops[i]?=ay o):∀c,o.op≠.defer c:=by
 intro c hc;simp only[Eu] at h;have hm:o∈ops.toList:=by
  rw[<-Array.getElem?_toList] at ho;exact List.mem_of_getElem? ho
 have:=dN.1 h o hm;rw[hc] at this;cases this
section
variable{P:Program}{C:Ctx}{K:Kx}{H H' OL:Mem}{E E' OM:Env}{w w' w'':World}
theorem ag4{ops:Array Oper}{i:Nat}{rest:List Nat}{Q:Exit->Act->World->Prop}{next:Act->World->Prop}{a:Act}(hnd:∀o,ops[i]?=ay o->∀c,o.op≠.defer c)(hQ:∀e a w,Q e a w->e=.normal)
  (h:wpOp P ops Q i next a w) (b:Frame) (k:List Item) (cs:List Frame) :
  ∃a' w',next a' w'/\Steps P (lone (CW b a (.inRegion ops (i::rest)::k)) cs w) (lone (CW b a' (.inRegion ops rest::k)) cs w'):=by
 unfold wpOp at h;cases ho:ops[i]? with
 |none=>
  simp only[ho] at h;have hs:=stepR_op_skip (P:=P) (b:=b) (a:=Sr b a) (k:=k) (cs:=cs) (w:=w) (ops:=ops) (i:=i) (rest:=rest) (by simp[ho]);simp only[ho,Option.bind_none,Act.put] at hs;exact ⟨a,w,h,.one hs⟩
 |some o=>
  simp only[ho] at h;by_cases hw:Region.wanted o (yielded ops a.tmps)=aF
  ·simp only[hw,if_true] at h
   rcases h with h|⟨_,_,_,hq⟩
   case inr=>cases hQ _ _ _ hq
   simp only[Oper.wp] at h;have hg:=stepGR_op (P:=P) (b:=b) (a:=Sr b a) (k:=k) (cs:=cs) (w:=w) (rest:=rest) ho hw;rw[Oper.semAt_eq _ _ _ (hnd o ho),Qz,<-DT] at hg;have hfin:∀v,(CW b a (.inRegion ops (i::rest)::k)).finish v=CW b (a.put o.dst v) (.inRegion ops rest::k):=by
    intro v;rw[Sv,ho];rfl
   generalize hr:(execOp a.eval o).run P w=r at h;cases r with
   |ok n w'=>
    cases n<;>simp only[xE] at h
    case value v=>
     refine ⟨_,_,h,.one (step_lone_go ?_)⟩;rw[hg,<-hfin];simp[gX,hr]
    case skip=>
     refine ⟨_,_,h,.one (step_lone_go ?_)⟩;rw[hg,<-hfin];simp[gX,hr]
    case defer d=>
     refine ⟨_,_,h,.one (step_lone_go ?_)⟩;have:({CW b a (.inRegion ops (i::rest)::k) with defers:=d::(a.defers++b.defers)}:Frame).finish undef =
       CW b ({a with defers:=d::a.defers}.put o.dst undef) (.inRegion ops rest::k):=by
      have:=Sv b {a with defers:=d::a.defers} ops i rest k undef
      rw[ho] at this;exact this
     rw[hg];simp only[gX,Sem.runT_eq,hr,GStep.bare_after];exact congrArg (fun fr=>GStep.go {frame:=fr,callers:=cs,status:=.running,dying:=aN} w') this
    case enter f args=>
     obtain ⟨e,w'',fr,hR,hsteps,_,hleave⟩:=h (CW b a (.inRegion ops (i::rest)::k)::cs);have henter:step P (lone (CW b a (.inRegion ops (i::rest)::k)) cs w) =
       .next (lone (gQ P f args .normal) (CW b a (.inRegion ops (i::rest)::k)::cs) w'):=
      step_lone_go (by rw[hg];simp[gX,hr,CW])
     cases e with
     |returned v=>
      refine ⟨_,_,hR,.head henter (hsteps.trans (.one ?_))⟩;rw[<-hfin];exact step_leave_returned hleave
     |panicked chain=>cases hQ _ _ _ hR |outgrown=>obtain ⟨_,_,hq⟩:=hR;cases hQ _ _ _ hq
    case row row args=>
     obtain ⟨v,w'',hR,hsteps⟩:=h (CW b a (.inRegion ops (i::rest)::k)) cs;have henter:step P (lone (CW b a (.inRegion ops (i::rest)::k)) cs w) =
       .next (lone (Frame.ofRow P row args .normal) (CW b a (.inRegion ops (i::rest)::k)::cs) w'):=
      step_lone_go (by rw[hg];simp[gX,hr,CW])
     refine ⟨_,_,hR,.head henter ?_⟩;rw[<-hfin];exact hsteps
    all_goals first|exact h.elim|cases hQ _ _ _ h
   |halt x w'=>
    cases x<;>simp only[xE] at h
    all_goals first|exact h.elim|cases hQ _ _ _ h
  ·simp only[hw,if_false,nN] at h
   have hs:=stepR_op_skip (P:=P) (b:=b) (a:=Sr b a) (k:=k) (cs:=cs) (w:=w) (ops:=ops) (i:=i) (rest:=rest)
    (by simp[ho];simpa[Sr] using hw)
   simp only[ho,Option.bind_some] at hs;rw[adX] at hs;exact ⟨_,_,h,.one hs⟩
theorem ag5{ops:Array Oper}{Q:Exit->Act->World->Prop}(hnd:∀(i:Nat) (o:Oper),ops[i]?=ay o->∀c,o.op≠.defer c)(hQ:∀e a w,Q e a w->e=.normal)(b:Frame)(k:List Item)(cs:List Frame):∀(l:List Nat) (a:Act) (w:World),wpOps P ops Q l a w->
  ∃a' w',Q .normal a' w'/\Steps P (lone (CW b a (.inRegion ops l::k)) cs w) (lone (CW b a' k) cs w')
 |[],a,w,h=>⟨a,w,h,.one Sz⟩ |i::l,a,w,h=>by
  rw[wpOps_cons] at h;obtain ⟨a1,w1,h1,h2⟩:=ag4 (hnd i) hQ h b k cs;obtain ⟨a2,w2,h3,h4⟩:=ag5 hnd hQ b k cs l a1 w1 h1;exact ⟨a2,w2,h3,h2.trans h4⟩
theorem arH{call:Nat->List SV->Core->Tree (SV×Core)}(hC:BL P C)(hF:Cb P C)(hK:Ib P C K call){c:Core}{a:Act}{φ:Core->Prop}{ops:Array Oper}{id:Nat}(hnd:∀(i:Nat) (o:Oper),ops[i]?=ay o->∀c,o.op≠.defer c)
  (st:St C K H E w c a) {g:Nat} (h:(drawn C call g ops c).All φ) (b:Frame) (k:List Item) (cs:List Frame) :
  ∃c' a' H' E' w',φ c'/\St C K H' E' w' c' a'/\Mv K H E w c H' E' w' c'/\Steps P (lone (CW b a (.code (.region id ops aF)::k)) cs w) (lone (CW b a' k) cs w'):=by
 have h1:=aa5 hC hF hK st h;have hm:=hC.mixed;have hs:∀t,wpOps P ops _ (oL (P.follows .mixedOrders) ops t) a {w with drawn:=w.drawn+1}:=fun t=>by
  simp only[oL,hm,Bool.true_or,if_true];exact wpAny_sound ops.size t _ a _ h1
 obtain ⟨a',w',⟨_,c',H',E',e1,e2,e3⟩,e4⟩:=ag5 hnd (fun _ _ _ h=>h.1) b k cs _ a _ (hs (w.tape w.drawn (.order b.fn id)));exact ⟨c',a',H',E',w',e1,e2,e3,.head ZX e4⟩
theorem afg{fn:Func}{c:Core}{φ:Out->Prop}(h:(result C fn c).All φ):∃sv,result C fn c=.leaf (.done sv c)/\φ (.done sv c):=by
 unfold result at h ⊢;split
 ·rename_i sv hs;rw[hs] at h;exact ⟨sv,rfl,h⟩
 ·rename_i l hne hs
  split at h
  ·rename_i sv hs2;rw[hs] at hs2;cases hs2;exact (hne sv rfl).elim
  ·rename_i l2 hne2 hs2;rw[hs] at hs2;cases hs2;exact ⟨_,rfl,h⟩
  ·exact h.elim
 ·rename_i hs;rw[hs] at h;exact h.elim
def an8(P:Program)(C:Ctx)(fn:Func)(H:Mem)(E:Env)(sv:SV)(c:Core)(a:Act):Prop:=
 ∀(K:Kx) (w:World),St C K H E w c a->∃v,Den H E sv v/\(results fn a.tmps).run P w=.ok v w
theorem al4(hC:BL P C){fn:Func}{c:Core}{a:Act}{sv:SV}(h:result C fn c=.leaf (.done sv c)):an8 P C fn H E sv c a:=fun K w st=>by
 obtain ⟨sv',v,h1,h2,h3⟩:=aa6 (φ:=fun o=>o=.done sv c) hC st (by rw[h];exact rfl);cases h1;exact ⟨v,h2,h3⟩
def an9(P:Program)(C:Ctx)(K:Kx)(fn:Func)(H:Mem)(E:Env)(w:World)(c:Core)(m:Machine)(b:Frame)(cs:List Frame):Sig->Prop
 | .done sv c'=>∃(a':Act) (w':World) (H':Mem) (E':Env) (todo:List Item),Steps P m (lone {CW b a' todo with mode:=.returning} cs w')/\St C K H' E' w' c' a'/\Mv K H E w c H' E' w' c'/\an8 P C fn H' E' sv c' a'
 | .go Gw c'=>∃(a':Act) (w':World) (H':Mem) (E':Env) (items':List Item),Steps P m (lone (CW b a' items') cs w')/\St C K H' E' w' c' a'/\Mv K H E w c H' E' w' c'/\CX (AU fn) Gw items' | .halt Gw c'=>∃(a':Act) (w':World) (H':Mem) (E':Env) (items':List Item),Steps P m (lone (CW b a' items') cs w')/\St C K H' E' w' c' a'/\Mv K H E w c H' E' w' c'/\CX (AU fn) Gw items'
def endsB(fn:Func):List It->Bool
 |[]=>aF | .code p::_=>match Bo (AU fn) p with
  | .ret=>aF |_=>aA
 |_=>aA
theorem al5(hC:BL P C)(hF:Cb P C){call:Nat->List SV->Core->Tree (SV×Core)}(hK:Ib P C K call){top:Bool}{g:Nat}{fn:Func}{td:List It}{c:Core}{a:Act}{items:List Item}{φ:Sig->Prop}(hnd:Eu (AU fn)=aF)
  (h:(RI C call top g fn td c).All φ) (st:St C K H E w c a) (hi:CX (AU fn) td items) (b:Frame) (cs:List Frame) (hr:b.roundOf=aN\/endsB fn td=aA) :
  ∃sig,φ sig/\an9 P C K fn H E w c (lone (CW b a items) cs w) b cs sig:=by
 have LM:Mv K H E w c H E w c:=Jd st rfl rfl rfl rfl;have go:∀{Gw:List It} {c':Core} {H':Mem} {E':Env} {w':World} {a':Act} {items':List Item},φ (.go Gw c')->St C K H' E' w' c' a'->Mv K H E w c H' E' w' c'->CX (AU fn) Gw items'->
   Steps P (lone (CW b a items) cs w) (lone (CW b a' items') cs w')->∃sig,φ sig/\an9 P C K fn H E w c (lone (CW b a items) cs w) b cs sig:=fun h1 h2 h3 h4 h5=>⟨_,h1,_,_,_,_,_,h5,h2,h3,h4⟩
 have fin:∀(todo:List Item),((result C fn c).bind aeR).All φ->step P (lone (CW b a items) cs w)=.next (lone {CW b a todo with mode:=.returning} cs w)->∃sig,φ sig/\an9 P C K fn H E w c (lone (CW b a items) cs w) b cs sig:=fun todo hr hs=>by
  obtain ⟨sv,h1,h2⟩:=afg (iH hr);exact ⟨_,h2,a,w,H,E,todo,.one hs,st,LM,al4 hC h1⟩
 unfold RI at h;split at h
 ·cases hi
  have hb:b.roundOf=aN:=by
   rcases hr with hr|hr
   ·exact hr
   ·cases hr
  exact fin _ h (arG hb)
 ·cases hi with
  |inBlock id hk=>exact go h st LM hk (.one ag2)
 ·exact h.elim
 ·cases hi with
  |reg p l id ops hc hk=>exact go h (st.Nu g) (Jd st rfl rfl rfl rfl) hk (.one Sz)
 ·rename_i p i r k
  cases hi with
  |reg p l id ops hc hk=>
   have hd:Eu (.region id ops aA)=aF:=by rw[<-hc];exact SA hnd p
   rw[hc] at h;simp only at h;obtain ⟨a',w',h1,h2⟩:=ag4 (fun o ho=>Xb hd ho) (fun _ _ _ h=>h.elim) (U6 hC hF hK st (iH h) (fun a' w'=>∃c' H' E',φ (.go (.reg p r::k) c')/\St C K H' E' w' c' a'/\Mv K H E w c H' E' w' c') (fun _ _ _=>False)
    fun c' a' H' E' w' e1 e2 e3 _=>⟨c',H',E',e1,e2,e3⟩) b _ cs
   obtain ⟨c',H',E',e1,e2,e3⟩:=h1;exact go e1 e2 e3 (.reg p r id ops hc hk) h2
 ·rename_i p k
  have hloop:∀{x:Code},Bo (AU fn) p=x->(∀y,x≠.loop y)->∃k',items=.code x::k'/\CX (AU fn) k k':=fun {x} hx hne=>by
   cases hi with
   |code p hk=>exact ⟨_,by rw[hx],hk⟩ |loop p y hl hk=>exact (hne y (hx.symm.trans hl)).elim
  split at h
  ·rename_i hx
   obtain ⟨k',rfl,hk⟩:=hloop hx (by simp);exact go h st LM hk (.one an5)
  ·rename_i hx
   obtain ⟨k',rfl,hk⟩:=hloop hx (by simp);have hb:b.roundOf=aN:=by
    rcases hr with hr|hr
    ·exact hr
    ·simp[endsB,hx] at hr
   exact fin _ h (arF hb)
  ·rename_i x y hx
   obtain ⟨k',rfl,hk⟩:=hloop hx (by simp);have h0:Bo (AU fn) (0::p)=x:=by simp[Bo,hx,child]
   have h1:Bo (AU fn) (1::p)=y:=by simp[Bo,hx,child]
   have:=iE (0::p) (iE (1::p) hk);rw[h0,h1] at this;exact go h st LM this (.one arE)
  ·rename_i id x hx
   obtain ⟨k',rfl,hk⟩:=hloop hx (by simp);have h0:Bo (AU fn) (0::p)=x:=by simp[Bo,hx,child]
   have:=iE (0::p) (CX.inBlock id hk);rw[h0] at this;exact go h st LM this (.one al3)
  ·rename_i x hx
   have h0:Bo (AU fn) (0::p)=x:=by simp[Bo,hx,child]
   cases hst:C.MP g p<;>simp only[hst,cond_true,cond_false] at h
   ·cases hi with
    |code p hk=>
     have:=iE (0::p) (pR p x hx hk);rw[h0] at this;rw[hx] at go ⊢;exact go h st LM this (.one ag3)
    |loop p y hl hk=>
     rw[hx] at hl;cases hl;have:=iE (0::p) (pR p x hx hk);rw[h0] at this;exact go h st LM this (.one abw)
   ·exact ⟨_,h,a,w,H,E,items,.refl _ _,st,LM,hi⟩
  ·rename_i id hx
   obtain ⟨k',rfl,hk⟩:=hloop hx (by simp);split at h
   ·rename_i k2 he
    obtain ⟨k3,h1,h2⟩:=agI hk he;exact go h st LM h2 (.one (an7 h1))
   ·exact h.elim
  ·rename_i x y z hx
   obtain ⟨k',rfl,hk⟩:=hloop hx (by simp);have h0:=iE (0::p) hk;have h1:=iE (1::p) hk;have e0:Bo (AU fn) (0::p)=y:=by simp[Bo,hx,child]
   have e1:Bo (AU fn) (1::p)=z:=by simp[Bo,hx,child]
   rw[e0] at h0;rw[e1] at h1;have dx:=BJ (H:=H) (E:=E) st.den x;have cnd:∀t:Bool,a.eval x=.bool t->step P (lone (CW b a (.code (.cond x y z)::k')) cs w)=.next (lone (CW b a (.code (if t then y else z)::k')) cs w):=fun t ht=>an6 ht
   split at h
   ·rename_i hv
    rw[hv] at dx;exact go h st LM h0 (.one (cnd aF dx))
   ·rename_i hv
    rw[hv] at dx;exact go h st LM h1 (.one (cnd aA dx))
   ·rename_i t hv
    rw[hv] at dx;have st':∀v,t=v->St C K H E w (c.put (V6 x) (.bool v)) a:=fun v hv2=>by
     subst hv2;cases x with
     |tmp d=>exact st.know hv |const u=>exact ⟨st.den,st.hp,st.Cm,st.free,st.gl,st.defers⟩ |global u=>exact ⟨st.den,st.hp,st.Cm,st.free,st.gl,st.defers⟩ |func u=>exact ⟨st.den,st.hp,st.Cm,st.free,st.gl,st.defers⟩
    have mv':∀v:Bool,Mv K H E w c H E w (c.put (V6 x) (.bool v)):=fun v=>Jd st rfl rfl rfl rfl
    cases t with
    |true=>exact go (h.1 rfl) (st' aF rfl) (mv' aF) h0 (.one (cnd aF dx)) |false=>exact go (h.2 rfl) (st' aA rfl) (mv' aA) h1 (.one (cnd aA dx))
   ·exact h.elim
  ·rename_i id ops dr hx
   obtain ⟨k',rfl,hk⟩:=hloop hx (by simp);have hd:Eu (.region id ops dr)=aF:=by rw[<-hx];exact SA hnd p
   cases dr with
   |false=>
    simp only[cond_false] at h;exact go h st LM (.reg p (aY ops.size) id ops hx hk) (.one ajj)
   |true=>
    simp only[cond_true] at h;have key:∀(f:Core->Tree Sig),((drawn C call g ops c).bind f).All φ->∃c' a' H' E' w',(f c').All φ/\St C K H' E' w' c' a'/\Mv K H E w c H' E' w' c'/\Steps P (lone (CW b a (.code (.region id ops aF)::k')) cs w) (lone (CW b a' k') cs w'):=fun f hf=>
     arH (id:=id) hC hF hK (fun i o ho=>Xb hd ho) st (iH hf) b k' cs
    cases hl:(top && !(drawn C call g ops c).lone)<;>simp only[hl,cond_true,cond_false] at h
    ·obtain ⟨c',a',H',E',w',h1,h2,h3,h4⟩:=key _ h
     exact go h1 h2 h3 hk h4
    ·obtain ⟨c',a',H',E',w',h1,h2,h3,h4⟩:=key _ h
     exact ⟨_,h1,a',w',H',E',k',h4,h2,h3,hk⟩
  ·exact h.elim
end
inductive OU where
 |ready|busy|done (q:List Nat)
structure Fw where
 g:Nat
 r:Option (Nat×Nat)
 td:List It
 tm:List SV
 lp:Option (Nat×List Nat×OU)
def KJ:OU->LoopState
 | .ready=>.ready | .busy=>.busy | .done _=>.done
def Gp(body:Code):OU->Option Code
 | .done q=>ay (Bo body q) |_=>aN
def marks(rs:List Nat):List Deferred:=rs.map fun r=>{target:=.collected r,args:=#[]}
def Ul(r:Option (Nat×Nat)):Option Nat:=r.map (·.1)
def Rx(f:Fw):List Nat:=match f.lp with
 |some (l,_,_)=>[l] |none=>[]
def ag6(fn:Func)(g:Nat)(tmps:Array Value)(p:List Nat)(s:OU)(o:Obj):Prop:=
 ∃x ps ca cb df,Bo (AU fn) p=.rangeFunc x ps ca cb/\o=.loop {state:=KJ s,pending:=Gp (AU fn) s,fn:=g,tmps,params:=ps,assign:=ca,body:=cb,defers:=df}
def Zn(C:Ctx)(H:Mem)(E:Env)(h:Hp)(f:Fw)(mf:Frame)(rs:List Nat):Prop:=
 ∃fn a items,C.fns.get f.g=ay fn/\AV H E f.tm a.tmps.toList/\a.defers=[]/\CX (AU fn) f.td items/\(∀x∈rs,h x=ay (.deferred (ay [])))/\
  match f.lp with
  |none=>mf=CW (bq f.g (Ul f.r) (marks rs)) a items |some (l,p,s)=>mf=CW (bq f.g (Ul f.r) (marks rs)) a (.inRangeFunc l::items)/\∃o,h l=ay o/\ag6 fn f.g a.tmps p s o
def F7(C:Ctx)(H:Mem)(E:Env)(h:Hp):List Fw->List Frame->List Nat->Prop
 |[],[],B=>B=[] |f::s,mf::ms,B=>∃rs B',B=rs++Rx f++B'/\Zn C H E h f mf rs/\F7 C H E h s ms B' |_,_,_=>False
def IG(h:Hp)(K:Kx)(H:Mem)(E:Env)(w:World)(hp:List (Nat×SB)):Prop:=
 ∀b o,h b=ay o->w.heap[b]?=ay o/\H b=aN/\(∀id sb,AA hp id=ay sb->Bv E id sb≠ay b)/\(K.w0.heap.size<=b\/K.own b)
def Rj(g:Nat):List Fw->Nat
 |[]=>g |f::s=>Rj f.g s
def ag7(P:Program)(C:Ctx)(K:Kx)(bot:Nat)(φ:Sh->Prop)(m:Machine)(cs:List Frame):Prop:=
 ∃(a':Act) (w':World) (v:Value) (s:Sh) (H':Mem) (todo:List Item) (fn0:Func),C.fns.get bot=ay fn0/\Steps P m (lone {(base bot).at a' todo with mode:=.returning} cs w')/\
   a'.defers=[]/\φ s/\EJ K.H0 K.w0 s v H' w'/\(results fn0 a'.tmps).run P w'=.ok v w'
theorem ag7.of{P:Program}{C:Ctx}{K:Kx}{bot:Nat}{φ:Sh->Prop}{m m':Machine}{cs:List Frame}(h1:Steps P m m')(h2:ag7 P C K bot φ m' cs):ag7 P C K bot φ m cs:=by
 obtain ⟨a',w',v,s,H',todo,fn0,q1,q2,q3⟩:=h2;exact ⟨a',w',v,s,H',todo,fn0,q1,h1.trans q2,q3⟩
def Gg(P:Program)(C:Ctx)(K:Kx)(g:Nat)(r:Option (Nat×Nat))(td:List It)(c:Core)(stk:List Fw)(φ:Sh->Prop):Prop:=
 ∀(H:Mem) (E:Env) (w:World) (a:Act) (items:List Item) (rs B:List Nat) (ms cs:List Frame) (fn:Func) (h:Hp),C.fns.get g=ay fn->St C K H E w c a->CX (AU fn) td items->
  (∀x∈rs,h x=ay (.deferred (ay [])))->F7 C H E h stk ms B->(rs++B).Nodup->IG h K H E w c.hp->
  ag7 P C K (Rj g stk) φ (lone (CW (bq g (Ul r) (marks rs)) a items) (ms++cs) w) cs
section
variable{P:Program}{C:Ctx}{K:Kx}{H H' OL H0:Mem}{E E' OM E1:Env}{w w' w'' w0:World}{h:Hp}
theorem Zn.le(hH:H.le H')(hE:E.le E'){f:Fw}{mf:Frame}{rs:List Nat}(x:Zn C H E h f mf rs):Zn C H' E' h f mf rs:=by
 obtain ⟨fn,a,items,h1,h2,h3⟩:=x;exact ⟨fn,a,items,h1,h2.le hH hE,h3⟩
theorem F7.le(hH:H.le H')(hE:E.le E'):∀{s:List Fw} {ms:List Frame} {B:List Nat},F7 C H E h s ms B->F7 C H' E' h s ms B
 |[],[],_,x=>x |_::_,_::_,_,⟨rs,B',h1,h2,h3⟩=>⟨rs,B',h1,h2.le hH hE,F7.le hH hE h3⟩ |[],_::_,_,x=>x.elim |_::_,[],_,x=>x.elim
theorem IG.keep{c c':Core}{a a':Act}(hx:IG h K H E w c.hp)(st:St C K H E w c a)(st':St C (Ru H E w c.hp) H' E' w' c' a'):IG h K H' E' w' c'.hp:=by
 intro b o e;obtain ⟨h1,h2,h3,h4⟩:=hx b o e;have hlt:=(bH.1 h1).1;have hno:¬(Ru H E w c.hp).own b:=fun ⟨id,sb,q1,q⟩=>h3 id sb q1 q;refine ⟨by rw[st'.Cm.kept b hlt hno];exact h1,?_,fun id sb hl ho=>?_,h4⟩
 ·cases hx:H' b with
  |none=>rfl |some o'=>
   rcases st'.Cm.fresh b (by rw[hx];simp) with q|q|q
   ·exact (q h2).elim
   ·have q:w.heap.size<=b:=q;omega
   ·exact (hno q).elim
 ·obtain ⟨_,_,q⟩:=(st'.hp.ent id sb hl).lt ho
  rcases q with q|q
  ·have q:w.heap.size<=b:=q;omega
  ·exact hno q
theorem IG.weak{ρ:List (Nat×Rn)}{c c':Core}{a:Act}(hx:IG h K H E w c.hp)(st:St C K H E w c a)(hle:leC ρ c c'):IG h K H (Gf ρ E) w c'.hp:=by
 intro b o e;obtain ⟨h1,h2,h3,h4⟩:=hx b o e;refine ⟨h1,h2,fun id sb hl ho=>?_,h4⟩;obtain ⟨id0,s0,_,q1,q2⟩:=(WM st.hp (WO hle.2.1 hl)).2 b ho;exact h3 id0 s0 q1 q2
def I8(h:Hp)(b:Nat)(o:Obj):Hp:=fun x=>if x=b then ay o else h x
theorem NI{b:Nat}{o:Obj}:I8 h b o b=ay o:=by simp[I8]
theorem Fj{b x:Nat}{o:Obj}(hne:x≠b):I8 h b o x=h x:=by simp[I8,hne]
theorem St.putObj{c:Core}{a:Act}(st:St C K H E w c a){b:Nat}{o o':Obj}(hx:IG h K H E w c.hp)(hb:h b=ay o):St C K H E (w.putObj b o') c a:=by
 obtain ⟨h1,h2,h3,h4⟩:=hx b o hb;refine ⟨st.den,⟨fun id sb hl=>(st.hp.ent id sb hl).kept (fun _ _ e=>e) (fun _ _ e=>e) (fun b' hb'=>?_) fun b' hb'=>((st.hp.ent id sb hl).lt hb').2.1,st.hp.Gu⟩,?_,st.free,st.gl,st.defers⟩
 ·exact jG (fun e=>h3 id sb hl (e ▸ hb'))
 ·refine ⟨st.Cm.os,st.Cm.tape,st.Cm.output,by rw[World.putObj_size];exact st.Cm.size,fun b' hlt hno=>?_,fun b' o2 hb'=>?_,st.Cm.le,st.Cm.fresh⟩
  ·rw[jG]
   ·exact st.Cm.kept b' hlt hno
   ·intro e
    subst e;rcases h4 with q|q
    ·omega
    ·exact hno q
  ·rw[jG]
   ·exact st.Cm.on b' o2 hb'
   ·intro e;rw[e,h2] at hb';cases hb'
theorem IG.put{hp:List (Nat×SB)}{b:Nat}{o o':Obj}(hx:IG h K H E w hp)(hb:h b=ay o):IG (I8 h b o') K H E (w.putObj b o') hp:=by
 intro x o2 e;by_cases hxb:x=b
 ·subst hxb
  rw[NI] at e;cases e;obtain ⟨h1,h2⟩:=hx x o hb;exact ⟨World.putObj_heap_same (bH.1 h1).1,h2⟩
 ·rw[Fj hxb] at e
  obtain ⟨h1,h2⟩:=hx x o2 e;exact ⟨by rw[jG hxb];exact h1,h2⟩
theorem heap_alloc_old(w:World)(o:Obj)(x:Nat)(h:x<w.heap.size):(w.alloc o).heap[x]?=w.heap[x]?:=by
 show (w.heap.push o)[x]?=_;simp[Array.getElem?_push,Nat.ne_of_lt h]
theorem St.Yc{c:Core}{a:Act}(st:St C K H E w c a)(o:Obj):St C K H E (w.alloc o) c a:=
 ⟨st.den,⟨fun id sb hl=>(st.hp.ent id sb hl).kept (fun _ _ e=>e) (fun _ _ e=>e) (fun b hb=>heap_alloc_old w o b ((st.hp.ent id sb hl).lt hb).1) fun _ hb=>((st.hp.ent id sb hl).lt hb).2.1,st.hp.Gu⟩,
  st.Cm.alloc o,st.free,st.gl,st.defers⟩
theorem IG.alloc{c:Core}{a:Act}(hx:IG h K H E w c.hp)(st:St C K H E w c a)(o:Obj):IG (I8 h w.heap.size o) K H E (w.alloc o) c.hp:=by
 intro x o2 e;by_cases hxb:x=w.heap.size
 ·subst hxb
  rw[NI] at e;cases e;refine ⟨World.alloc_heap_new w o,?_,fun id sb hl ho=>?_,.inl st.Cm.size⟩
  ·cases hH:H w.heap.size with
   |none=>rfl |some o'=>have:=(bH.1 (st.Cm.on _ _ hH)).1;omega
  ·have:=((st.hp.ent id sb hl).lt ho).1;omega
 ·rw[Fj hxb] at e
  obtain ⟨h1,h2⟩:=hx x o2 e;exact ⟨by rw[heap_alloc_old w o x (bH.1 h1).1];exact h1,h2⟩
theorem Zn.put{f:Fw}{mf:Frame}{rs:List Nat}(x:Zn C H E h f mf rs){b:Nat}{o:Obj}(h1:b ∉ rs)(h2:b ∉ Rx f):Zn C H E (I8 h b o) f mf rs:=by
 obtain ⟨fn,a,items,q1,q2,q3,q4,q5,q6⟩:=x;refine ⟨fn,a,items,q1,q2,q3,q4,fun y hy=>by rw[Fj (fun e=>h1 (by rw[<-e];exact hy))];exact q5 y hy,?_⟩;unfold Rx at h2;split at q6
 ·exact q6
 ·rename_i l p s hl
  rw[hl] at h2;obtain ⟨q7,o',q8,q9⟩:=q6;exact ⟨q7,o',by rw[Fj (fun e=>h2 (by simp[e]))];exact q8,q9⟩
theorem F7.put{b:Nat}{o:Obj}:∀{s:List Fw} {ms:List Frame} {B:List Nat},F7 C H E h s ms B->b ∉ B->F7 C H E (I8 h b o) s ms B
 |[],[],_,x,_=>x |f::_,_::_,B,⟨rs,B',h1,h2,h3⟩,hb=>by
  subst h1;simp only[bK,not_or] at hb;exact ⟨rs,B',rfl,h2.put hb.1.1 hb.1.2,F7.put h3 hb.2⟩
 |[],_::_,_,x,_=>x.elim |_::_,[],_,x,_=>x.elim
theorem F7.len:∀{s:List Fw} {ms:List Frame} {B:List Nat},F7 C H E h s ms B->s.length=ms.length
 |[],[],_,_=>rfl |_::_,_::_,_,⟨_,_,_,_,h3⟩=>by simp[F7.len h3] |[],_::_,_,x=>x.elim |_::_,[],_,x=>x.elim
theorem F7.has:∀{s:List Fw} {ms:List Frame} {B:List Nat},F7 C H E h s ms B->∀x∈B,∃o,h x=ay o
 |[],[],_,e,x,hx=>by have e:_=[]:=e;subst e;cases hx |f::_,_::_,B,⟨rs,B',h1,h2,h3⟩,x,hx=>by
  subst h1;obtain ⟨fn,a,items,q1,q2,q3,q4,q5,q6⟩:=h2;simp only[bK] at hx;rcases hx with (hx|hx) |hx
  ·exact ⟨_,q5 x hx⟩
  ·unfold Rx at hx
   split at q6
   ·rename_i hl;rw[hl] at hx;cases hx
   ·rename_i l p s hl
    rw[hl] at hx;obtain ⟨_,o,q8,_⟩:=q6;have:x=l:=by simpa using hx
    exact ⟨o,this ▸ q8⟩
  ·exact F7.has h3 x hx
 |[],_::_,_,e,_,_=>e.elim |_::_,[],_,e,_,_=>e.elim
theorem collects{c:Core}{a:Act}:∀{rs:List Nat} {B:List Nat} {h:Hp} {w:World} {s:List Fw} {ms:List Frame} (g:Nat) (todo:List Item) (cs:List Frame),St C K H E w c a->IG h K H E w c.hp->(∀x∈rs,h x=ay (.deferred (ay [])))->F7 C H E h s ms B->(rs++B).Nodup->
  ∃w' h',Steps P (lone {CW (bq g aN (marks rs)) a todo with mode:=.returning} cs w) (lone {(base g).at a todo with mode:=.returning} cs w')/\St C K H E w' c a/\IG h' K H E w' c.hp/\F7 C H E h' s ms B
 |[],B,h,w,s,ms,g,todo,cs,st,hx,_,hs,_=>⟨w,h,by rw[<-Yb];exact .refl _ _,st,hx,hs⟩ |r::rs,B,h,w,s,ms,g,todo,cs,st,hx,hm,hs,hnd=>by
  have h0:=hm r (List.mem_cons_self ..);have hw:=(hx r _ h0).1;simp only[List.cons_append,List.nodup_cons,bK,not_or] at hnd;have hstep:step P (lone {CW (bq g aN (marks (r::rs))) a todo with mode:=.returning} cs w)=.next (lone {CW (bq g aN (marks rs)) a todo with mode:=.returning} cs (w.putObj r (.deferred aN))):=by
   have:=step_collected (P:=P) (fr:={CW (bq g aN (marks (r::rs))) a todo with mode:=.returning}) (cs:=cs) (w:=w) (d:={target:=.collected r,args:=#[]}) (r:=r) (ds:=marks rs) (calls:=[]) (by simp)
    (by simp[CW,bq,marks,st.defers]) rfl (run_takeDeferred hw)
   rw[this];simp[CW,bq,marks,st.defers]
  obtain ⟨w',h',q1,q2,q3,q4⟩:=collects g todo cs (st.putObj (o':=.deferred aN) hx h0) (hx.put (o':=.deferred aN) h0) (fun x hxm=>by
   rw[Fj (fun e=>hnd.1.1 (by rw[<-e];exact hxm))];exact hm x (List.mem_cons_of_mem _ hxm)) (hs.put hnd.1.2) hnd.2
  exact ⟨w',h',.head hstep q1,q2,q3,q4⟩
end
end Go.Sx
