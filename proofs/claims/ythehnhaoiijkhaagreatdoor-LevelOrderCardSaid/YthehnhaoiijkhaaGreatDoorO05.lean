/- Own work. -/
import Derived.Test.YthehnhaoiijkhaaGreatDoorO04
import Derived.Laws.StructEq
import Derived.RangeFuncIn
import Derived.RangeFuncRecord
open Int (ofNat)
open Array renaming getElem?_eq_some_iff->aM,replicate->bw
open Bool renaming false->ag,true->aj,and_eq_true->al,or_eq_true->eT
open Go.Deferred renaming ofValue->cY
open Go.Frame renaming enter->bY,finish_at->eA
open Go.Op renaming eqFields->iK
open Go.Oper renaming upon->ku
open Go.Region renaming schedule->fL
open Go.Result renaming andThen_ok->cH
open Go.Sem renaming run_bind->cn,run_ite->lS
open Go.Sx.Cq renaming v->ff
open Go.Sx.mW renaming any->ig
open Go.Sx.oC renaming all->aX,sK->bE
open Go.Sx.pq renaming code->cg,nil->gT,loop->gn
open Go.Sx.Tree renaming vk->bG
open Go.World renaming putObj_heap_other->cU
open Go.stepG renaming apply->b5
open List renaming replicate->bp,getElem?_cons_zero->dY,contains_cons->iL,all_eq_true->be,range->aE,mem_append->aU
open Nat renaming blt->bT,ble->cm,le_refl->aV,le_trans->co,lt_of_lt_of_le->da,add_zero->d9
open Option renaming some->ae,none->aq,map_eq_some_iff->aO,isSome_iff_exists->bJ
namespace Go.Sx
def Yg(r:Option Rn)(id:Nat):Bool:=match r with|some (.id i)=>i==id|_=>ag
def Vk(r:Option Rn):Bool:=match r with|some .nil=>aj|_=>ag
mutual
def qS(hp:List (Nat×SB))(ρ:List (Nat×Rn)):SV->SV->Option (List oC)
 |_,.any=>ae [] |x,.sym k m=>match x with
  | .int k' n=>qc (k'==k) (ae [.int n m]) | .sym k' n=>qc (k'==k) (ae [.int n m]) |_=>aq
 |x,.test b=>match x with
  | .bool b'=>ae [.bool b' b] | .test b'=>ae [.bool b' b] |_=>aq
 |x,.gs id'=>match x with
  | .gs id=>qc (Yg (mG ρ id') id) (ae []) | .nD=>qc (Vk (mG ρ id')) (ae []) |_=>aq
 |x,.ptr id' off'=>match x with
  | .ptr id off=>qc (Yg (mG ρ id') id&&off==off') (ae []) |_=>aq
 |x,.mp id'=>match x with
  | .mp id=>qc (Yg (mG ρ id') id) (ae []) |_=>aq
 |x,.fn f' l'=>match x with
  | .fn f l=>qc (f==f') (qL hp ρ l l') |_=>aq
 |x,.agg l'=>match x with
  | .agg l=>qL hp ρ l l' |_=>aq
 |x,.mV l'=>match x with
  | .mV l=>qL hp ρ l l' |_=>aq
 |x,.pV t' y=>match x with
  | .pV t z=>qc (t==t') (qS hp ρ z y) |_=>aq
 |x,.sh s=>(rG hp x).map fun s'=>[.sh s' s] |x,.wV st' n' g' i' off'=>match x with
  | .wV st n g i off=>qc (st==st'&&off==off') (ae [.nat n n',.Ez g g',.nat i i']) |x=>qc (off'==0) ((rG hp x).map fun s=>[.sh s (.pt (g' i')),.nat (g' i').length st',.bool (bT i' n') aj])
 |x,.int k' n'=>match x with
  | .int k n=>qc (k==k') (ae [.int n n']) | .sym k n=>qc (k==k') (ae [.int n n']) |_=>aq
 |x,.bool b'=>match x with
  | .bool b=>qc (b==b') (ae []) | .test b=>ae [.bool b b'] |_=>aq
 | .uj,.uj=>ae [] | .nD,.nD=>ae [] | .wC,.wC=>ae [] | .qP,.qP=>ae [] | .vC,.vC=>ae [] | .glob g,.glob g'=>qc (g==g') (ae []) | .str l,.str l'=>ae [.str l l'] | .val v,.val v'=>ae [.val v v'] |_,_=>aq
def qL(hp:List (Nat×SB))(ρ:List (Nat×Rn)):List SV->List SV->Option (List oC)
 |[],[]=>ae [] |x::l,y::l'=>uq (qS hp ρ x y) (qL hp ρ l l') |_,_=>aq
end
def qM(hp:List (Nat×SB))(ρ:List (Nat×Rn)):List (SV×SV)->List (SV×SV)->Option (List oC)
 |[],[]=>ae [] |(a,b)::l,(a',b')::l'=>uq (qS hp ρ a a') (uq (qS hp ρ b b') (qM hp ρ l l')) |_,_=>aq
def qB(hp:List (Nat×SB))(ρ:List (Nat×Rn))(id':Nat):SB->Option (List oC)
 | .box cells' e'=>match mG ρ id' with
  |some (.id id)=>match mG hp id with
   |some (.box cells e)=>qc (e==e') (qL hp ρ cells cells') |_=>aq
  |_=>aq
 | .row cells' e' st' n'=>match mG ρ id' with
  |some (.id id)=>match mG hp id with
   |some (.row cells e st n)=>qc (e==e'&&st==st'&&n==n') (qL hp ρ cells cells') |_=>aq
  |_=>aq
 | .own e' st' n' g'=>match mG ρ id' with
  |some (.id id)=>match OE hp id with
   |some (e,st,n,g)=>qc (e==e'&&st==st') (ae [.nat n n',.get n g g']) |_=>aq
  |some .nil=>ae [.nat n' 0] |none=>aq
 | .map es'=>match mG ρ id' with
  |some (.id id)=>match mG hp id with
   |some (.map es)=>qM hp ρ es es' |_=>aq
  |_=>aq
 | .fz _ _ _=>aq | .IQ _=>aq | .wK _ _ _ _ _=>aq | .fm _ _ _ _ _=>aq | .pm vt' M' us'=>match us',mG ρ id' with
  |[],ae (.id id)=>match mG hp id with
   |some (.pm vt M us)=>match Vh M us with
    |some N=>qc (vt==vt') (ae [.mg N M']) |none=>aq
   |_=>aq
  |_,_=>aq
 | .buf e' l'=>match mG ρ id' with
  |some (.id id)=>match mG hp id with
   |some (.buf e l)=>qc (e==e') (ae [.str l l']) |_=>aq
  |_=>aq
def qH(hp:List (Nat×SB))(ρ:List (Nat×Rn)):List (Nat×SB)->Option (List oC)
 |[]=>ae [] |(id',sb)::l=>uq (qB hp ρ id' sb) (qH hp ρ l)
def qC(ρ:List (Nat×Rn))(c c':Core):Option (List oC):=qc (ai4 c'.nx ρ) (uq (qL c.hp ρ c.tm c'.tm) (qH c.hp ρ c'.hp))
section
variable{hp:List (Nat×SB)}{ρ:List (Nat×Rn)}
theorem OJ{r:Option Rn}{id:Nat}(h:Yg r id=aj):r=ae (.id id):=by
 unfold Yg at h;grind
theorem abu{r:Option Rn}(h:Vk r=aj):r=ae .nil:=by
 grind [Vk]
mutual
theorem Vl:∀{x:SV} (y:SV) {l:List oC},qS hp ρ x y=ae l->aX l->uo hp ρ x y
 |x,.any,l,h,ha=>by cases x<;>trivial |x,.sym k m,l,h,ha=>by
  cases x<;>simp only[qS] at h
  all_goals first
   |(cases h;done)
   |(obtain ⟨h1,h2⟩:=nO h;cases h2;simp only[beq_iff_eq] at h1;subst h1;simp only[uo];exact ⟨trivial,ha.1⟩)
 |x,.test b,l,h,ha=>by
  cases x<;>simp only[qS] at h
  all_goals first
   |(cases h;done)
   |(cases h;simp only[uo];exact ha.1)
 |x,.gs id',l,h,ha=>by
  cases x<;>simp only[qS] at h
  all_goals first
   |(cases h;done)
   |(obtain ⟨h1,h2⟩:=nO h;simp only[uo];exact OJ h1)
   |(obtain ⟨h1,h2⟩:=nO h;simp only[uo];exact abu h1)
 |x,.ptr id' off',l,h,ha=>by
  cases x<;>simp only[qS] at h
  all_goals first
   |(cases h;done)
   |(obtain ⟨h1,h2⟩:=nO h;simp only[al,beq_iff_eq] at h1;simp only[uo];exact ⟨OJ h1.1,h1.2⟩)
 |x,.mp id',l,h,ha=>by
  cases x<;>simp only[qS] at h
  all_goals first
   |(cases h;done)
   |(obtain ⟨h1,h2⟩:=nO h;simp only[uo];exact OJ h1)
 |x,.fn f' l',l,h,ha=>by
  cases x<;>simp only[qS] at h
  all_goals first
   |(cases h;done)
   |(obtain ⟨h1,h2⟩:=nO h;simp only[beq_iff_eq] at h1;simp only[uo];exact ⟨h1,Fq l' h2 ha⟩)
 |x,.agg l',l,h,ha=>by
  cases x<;>simp only[qS] at h
  all_goals first
   |(cases h;done)
   |(simp only[uo];exact Fq l' h ha)
 |x,.mV l',l,h,ha=>by
  cases x<;>simp only[qS] at h
  all_goals first
   |(cases h;done)
   |(simp only[uo];exact Fq l' h ha)
 |x,.pV t' y,l,h,ha=>by
  cases x<;>simp only[qS] at h
  all_goals first
   |(cases h;done)
   |(obtain ⟨h1,h2⟩:=nO h;simp only[beq_iff_eq] at h1;simp only[uo];exact ⟨h1,Vl y h2 ha⟩)
 |x,.sh s,l,h,ha=>by
  have h0:∃s',rG hp x=ae s'/\s'=s:=by
   cases x<;>simp only[qS,aO] at h
   all_goals
    obtain ⟨s',h1,rfl⟩:=h;exact ⟨s',h1,ha.1⟩
  obtain ⟨s',h1,rfl⟩:=h0;cases x<;>simp only[uo]<;>exact .inl h1
 |x,.int k n,l,h,ha=>by
  cases x<;>simp only[qS] at h
  all_goals first
   |(cases h;done)
   |(obtain ⟨h1,h2⟩:=nO h;cases h2;simp only[beq_iff_eq] at h1;simp only[uo];exact ⟨h1,ha.1⟩)
 |x,.bool b,l,h,ha=>by
  cases x<;>simp only[qS] at h
  all_goals first
   |(cases h;done)
   |(obtain ⟨h1,h2⟩:=nO h;simp only[beq_iff_eq] at h1;simp only[uo];exact h1)
   |(cases h;simp only[uo];exact ha.1)
 |x,.uj,l,h,ha=>by cases x<;>simp only[qS] at h<;>first|(cases h;done) |(simp only[uo])
 |x,.nD,l,h,ha=>by cases x<;>simp only[qS] at h<;>first|(cases h;done) |(simp only[uo])
 |x,.wC,l,h,ha=>by cases x<;>simp only[qS] at h<;>first|(cases h;done) |(simp only[uo])
 |x,.qP,l,h,ha=>by cases x<;>simp only[qS] at h<;>first|(cases h;done) |(simp only[uo])
 |x,.vC,l,h,ha=>by cases x<;>simp only[qS] at h<;>first|(cases h;done) |(simp only[uo])
 |x,.glob g,l,h,ha=>by
  cases x<;>simp only[qS] at h
  all_goals first
   |(cases h;done)
   |(obtain ⟨h1,h2⟩:=nO h;simp only[beq_iff_eq] at h1;simp only[uo];exact h1)
 |x,.str s,l,h,ha=>by
  cases x<;>simp only[qS] at h
  all_goals first
   |(cases h;done)
   |(cases h;simp only[uo];exact ha.1)
 |x,.val s,l,h,ha=>by
  cases x<;>simp only[qS] at h
  all_goals first
   |(cases h;done)
   |(cases h;simp only[uo];exact ha.1)
 |x,.wV st n g i off,l,h,ha=>by
  have key:∀(q:Option Sh),qc (off==0) (q.map fun s=>[oC.sh s (.pt (g i)),.nat (g i).length st,.bool (bT i n) aj])=ae l->q=ae (.pt (g i))/\off=0/\(g i).length=st/\i<n:=fun q h=>by
   obtain ⟨h1,h2⟩:=nO h;simp only[aO] at h2;obtain ⟨s,h3,rfl⟩:=h2;have e1:s=.pt (g i):=ha.1;exact ⟨by rw[h3,e1],by simpa using h1,ha.2.1,AA ha.2.2.1⟩
  cases x<;>simp only[qS] at h
  case wV=>obtain ⟨h1,h2⟩:=nO h;cases h2;simp only[al,beq_iff_eq] at h1;simp only[uo];exact ⟨h1.1,ha.1,ha.2.1,ha.2.2.1,h1.2⟩
  all_goals
   simp only[uo];exact key _ h
 |x,.gp id st i off,l,h,ha=>by cases x<;>simp only[qS] at h<;>cases h |x,.ev id,l,h,ha=>by cases x<;>simp only[qS] at h<;>cases h |x,.vw id n,l,h,ha=>by cases x<;>simp only[qS] at h<;>cases h
theorem Fq:∀{l:List SV} (l':List SV) {q:List oC},qL hp ρ l l'=ae q->aX q->Vg hp ρ l l'
 |[],[],_,_,_=>trivial |x::l,y::l',q,h,ha=>by
  simp only[qL] at h;obtain ⟨a,b,h1,h2,rfl⟩:=oK h;exact ⟨Vl y h1 (bE ha).1,Fq l' h2 (bE ha).2⟩
 |[],_::_,_,h,_=>by simp[qL] at h |_::_,[],_,h,_=>by simp[qL] at h
end
theorem ai8:∀{l l':List (SV×SV)} {q:List oC},qM hp ρ l l'=ae q->aX q->leM hp ρ l l'
 |[],[],_,_,_=>trivial |(a,b)::l,(a',b')::l',q,h,ha=>by
  simp only[qM] at h;obtain ⟨q1,q2,h1,h2,rfl⟩:=oK h;obtain ⟨q3,q4,h3,h4,rfl⟩:=oK h2;obtain ⟨a1,a2⟩:=bE ha;obtain ⟨a3,a4⟩:=bE a2;exact ⟨Vl a' h1 a1,Vl b' h3 a3,ai8 h4 a4⟩
 |[],_::_,_,h,_=>by simp[qM] at h |_::_,[],_,h,_=>by simp[qM] at h
theorem ai9{id':Nat}{sb:SB}{q:List oC}(h:qB hp ρ id' sb=ae q)(ha:aX q):leB hp ρ id' sb:=by
 cases sb with
 |box cells' e'=>
  simp only[qB] at h;simp only[leB];split at h
  ·rename_i id hr
   simp only[hr];split at h
   ·rename_i cells e hl
    simp only[hl];obtain ⟨h1,h2⟩:=nO h;exact ⟨by simpa using h1,Fq _ h2 ha⟩
   ·cases h
  ·cases h
 |row cells' e' st' n'=>
  simp only[qB] at h;simp only[leB];split at h
  ·rename_i id hr
   simp only[hr];split at h
   ·rename_i cells e st n hl
    simp only[hl];obtain ⟨h1,h2⟩:=nO h;simp only[al,beq_iff_eq] at h1;exact ⟨h1.1.1,h1.1.2,h1.2,Fq _ h2 ha⟩
   ·cases h
  ·cases h
 |own e' st' n' g'=>
  simp only[qB] at h;simp only[leB];split at h
  ·rename_i id hr
   simp only[hr];split at h
   ·rename_i e st n g hl
    simp only[hl];obtain ⟨h1,h2⟩:=nO h;cases h2;simp only[al,beq_iff_eq] at h1;exact ⟨h1.1,h1.2,ha.1,ha.2.1⟩
   ·cases h
  ·rename_i hr
   simp only[hr];cases h;exact ha.1
  ·cases h
 |map es'=>
  simp only[qB] at h;grind [leB,id,ai8]
 |fz st n g=>simp[qB] at h |IQ l=>simp[qB] at h |wK e st n g m=>simp[qB] at h |fm k M fs us t=>simp[qB] at h |pm vt' M' us'=>
  simp only[qB] at h;split at h
  ·rename_i id hr
   split at h
   ·rename_i vt M us hl
    split at h
    ·rename_i N h1
     obtain ⟨h2,h3⟩:=nO h;cases h3;simp only[leB,hr,hl];have e:N=M':=ha.1;simp_all
    ·cases h
   ·cases h
  ·cases h
 |buf e' l'=>
  simp only[qB] at h;split at h
  ·rename_i id hr
   split at h
   ·rename_i e l hl
    obtain ⟨h1,h2⟩:=nO h;cases h2;simp only[leB,hr,hl];exact ⟨by grind,ha.1⟩
   ·cases h
  ·cases h
theorem aja:∀{l:List (Nat×SB)} {q:List oC},qH hp ρ l=ae q->aX q->leH hp ρ l
 |[],_,_,_=>trivial |(id',sb)::l,q,h,ha=>by
  simp only[qH] at h;obtain ⟨a,b,h1,h2,rfl⟩:=oK h;exact ⟨ai9 h1 (bE ha).1,aja h2 (bE ha).2⟩
theorem ad7{c c':Core}{q:List oC}(h:qC ρ c c'=ae q)(ha:aX q):leC ρ c c':=by
 unfold qC at h;obtain ⟨h1,h2⟩:=nO h;obtain ⟨a,b,h3,h4,rfl⟩:=oK h2;exact ⟨Fq _ h3 (bE ha).1,aja h4 (bE ha).2,h1⟩
end
inductive Fe where
 |ret (s:Sh)
 |at_ (l:List oC)
def ajb:It->It->Bool
 | .code p,.code q=>p==q | .inBlock i,.inBlock j=>i==j | .reg p l,.reg q m=>p==q&&l==m | .Qj,.Qj=>aj |_,_=>ag
def zi:List It->List It->Bool
 |[],[]=>aj |x::l,y::m=>ajb x y&&zi l m |_,_=>ag
theorem ajc{x y:It}(h:ajb x y=aj):x=y:=by
 cases x<;>cases y<;>simp[ajb] at h<;>simp_all
theorem Dx:∀{l m:List It},zi l m=aj->l=m
 |[],[],_=>rfl |x::l,y::m,h=>by
  simp only[zi,al] at h;rw[ajc h.1,Dx h.2]
 |[],_::_,h=>by simp[zi] at h |_::_,[],h=>by simp[zi] at h
structure Fr where
 g:Nat
 td:List It
 tm:List SV
inductive Vm where
 |fin (v:SV) (c:Core)
 |stop (g:Nat) (td:List It) (c:Core) (stk:List Fr)
def Hf(C:Ctx)(fn:Func)(td:List It)(c:Core):Option (Nat×Func×List SV):=
 match td with
 | .reg p (i::_)::_=>match nP (mX fn) p with
  | .region _ ops _=>match opAt ops.toList i with
   |some o=>match EF ops.toList c.tm o with
    | .yes=>match o.op with
     | .call k=>match k.callee with
      | .value f=>match oz c.tm f with
       | .fn g cs=>match C.spec g with
        |some _=>aq |none=>match C.fns.get g with
         |some fn'=>bif cm (k.args.toList.map (oz c.tm)++cs).length fn'.ntmps&&fn'.body.isSome then ae (g,fn',k.args.toList.map (oz c.tm)++cs) else aq |none=>aq
       |_=>aq
      |_=>aq
     |_=>aq
    |_=>aq
   |none=>aq
  |_=>aq
 |_=>aq
def holdB(hold:Nat->Bool)(fn:Func)(td:List It)(c:Core):Bool:=
 match td with
 | .reg p (i::_)::_=>match nP (mX fn) p with
  | .region _ ops _=>match opAt ops.toList i with
   |some o=>match o.op with
    | .call k=>match k.callee with
     | .value f=>match oz c.tm f with
      | .fn g _=>hold g |_=>ag
     |_=>ag
    |_=>ag
   |none=>ag
  |_=>ag
 |_=>ag
def Jk(C:Ctx)(f:Fr)(v:SV)(c:Core):Option (List It×Core):=
 match C.fns.get f.g with
 |some fn=>match f.td with
  | .reg p (i::r)::k=>match nP (mX fn) p with
   | .region _ ops _=>ae (.reg p r::k,{c with tm:=IB f.tm ((opAt ops.toList i).bind (·.dst)) v})
   |_=>aq
  |_=>aq
 |none=>aq
def Sz(C:Ctx)(hold:Nat->Bool)(m:Nat):Nat->Nat->List It->Core->List Fr->Tree Vm
 |0,g,td,c,stk=>.leaf (.stop g td c stk) |n+1,g,td,c,stk=>match C.fns.get g with
  |none=>.fail |some fn=>bif holdB hold fn td c then .leaf (.stop g td c stk) else match Hf C fn td c with
   |some r=>Sz C hold m n r.1 [.code []] {c with tm:=r.2.2++bp (r.2.1.ntmps - r.2.2.length) .any} ({g,td,tm:=c.tm}::stk)
   |none=>(Ja C (Dt C (run C m ag)) aj g fn td c).bind fun s=>match s with
    | .go td c=>Sz C hold m n g td c stk | .halt td c=>.leaf (.stop g td c stk) | .done v c=>match stk with
     |[]=>.leaf (.fin v c) |f::stk=>match Jk C f v c with
      |some r=>Sz C hold m n f.g r.1 r.2 stk |none=>.fail
def base(g:Nat):Frame:={(default:Frame) with fn:=g,kind:=.normal}
def vT(C:Ctx)(H:Mem)(E:Env):List Fr->List Frame->Prop
 |[],[]=>True |f::s,mf::ms=>(∃fn a items,C.fns.get f.g=ae fn/\mW H E f.tm a.tmps.toList/\a.defers=[]/\pq (mX fn) f.td items/\mf=(base f.g).at a items)/\vT C H E s ms |_,_=>False
abbrev Hp:=Nat->Option Obj
def Fv(R:Hp->Prop)(K:Kx)(H:Mem)(E:Env)(w:World):Prop:=
 ∃h:Hp,R h/\∀b o,h b=ae o->w.heap[b]?=ae o/\H b=aq/\(∀i,bk E i≠ae b)/\(K.w0.heap.size<=b\/K.own b)
def emp:Hp->Prop:=fun _=>True
def IE(g:Nat):List Fr->Nat
 |[]=>g |f::s=>IE f.g s
def nX(P:Program)(C:Ctx)(K:Kx)(g:Nat)(td:List It)(c:Core)(stk:List Fr)(R:Hp->Prop)(φ:Sh->Prop):Prop:=
 ∀(H:Mem) (E:Env) (w:World) (a:Act) (items:List Item) (ms cs:List Frame) (fn:Func),C.fns.get g=ae fn->St C K H E w c a->pq (mX fn) td items->vT C H E stk ms->Fv R K H E w->
  ∃(a':Act) (w':World) (v:Value) (s:Sh) (H':Mem) (todo:List Item) (fn0:Func),C.fns.get (IE g stk)=ae fn0/\Steps P (lone ((base g).at a items) (ms++cs) w) (lone {(base (IE g stk)).at a' todo with mode:=.returning} cs w')/\
   a'.defers=[]/\φ s/\qR K.H0 K.w0 s v H' w'/\(results fn0 a'.tmps).run P w'=.ok v w'
section
variable{P:Program}{C:Ctx}{K:Kx}{H H' Fj H0:Mem}{E E' Fp E1:Env}{w w' w'' w0:World}
theorem vT.le(hH:H.le H')(hE:E.le E'):∀{s:List Fr} {ms:List Frame},vT C H E s ms->vT C H' E' s ms
 |[],[],_=>trivial |_::_,_::_,⟨⟨fn,a,items,h1,h2,h3⟩,h4⟩=>⟨⟨fn,a,items,h1,h2.le hH hE,h3⟩,vT.le hH hE h4⟩ |[],_::_,h=>h.elim |_::_,[],h=>h.elim
def IU(H:Mem)(E:Env)(w:World)(hp:List (Nat×SB)):Kx:=⟨w,fun b=>∃id sb,mG hp id=ae sb/\nN E id sb=ae b,H⟩
theorem wo.IU{K1 K2:Kx}{id:Nat}{sb:SB}(h:wo K1 H E w id sb)(hm:∀b,nN E id sb=ae b->Mine K1 H b->Mine K2 H b):wo K2 H E w id sb:=by
 cases sb with
 |box cells elem=>obtain ⟨b,cs,he,h1,h2,h3⟩:=h;exact ⟨b,cs,he,h1,h2,hm b (by simp[nN,he,mY]) h3⟩ |row cells elem st n=>obtain ⟨v,xs,he,h1,h2,h3⟩:=h;exact ⟨v,xs,he,h1,h2,fun b hb=>hm b (by simp[nN,he,hb]) (h3 b hb)⟩ |own elem st n g=>obtain ⟨v,xs,he,h1,h2,h3⟩:=h;exact ⟨v,xs,he,h1,h2,fun b hb=>hm b (by simp[nN,he,hb]) (h3 b hb)⟩ |fz st n g=>exact h |map es=>obtain ⟨b,ms,clk,he,h1,h2,h3⟩:=h;exact ⟨b,ms,clk,he,h1,h2,hm b (by simp[nN,he,mY]) h3⟩ |IQ l=>exact h |wK elem st n g more=>obtain ⟨v,xs,ys,he,h1,h2,h3,h4,h5,h6⟩:=h;exact ⟨v,xs,ys,he,h1,h2,h3,h4,h5,fun b hb=>hm b (by simp[nN,he,hb]) (h6 b hb)⟩ |fm k M fs us tag=>obtain ⟨b,ms,clk,fv,uv,he,h1,h2,h3,h4,h5,h6,h7⟩:=h;exact ⟨b,ms,clk,fv,uv,he,h1,h2,h3,h4,h5,h6,hm b (by simp[nN,he,mY]) h7⟩ |pm vt M us=>obtain ⟨b,ms,clk,uv,he,h1,h2,h3,h4,h5,h7⟩:=h;exact ⟨b,ms,clk,uv,he,h1,h2,h3,h4,h5,hm b (by simp[nN,he,mY]) h7⟩ |buf e l=>obtain ⟨v,he,h1,h3⟩:=h;exact ⟨v,he,h1,fun b hb=>hm b (by simp[nN,he,hb]) (h3 b hb)⟩
theorem abv{hp:List (Nat×SB)}(hh:mZ K H E w hp)(hw:rW K H w):mZ (IU H E w hp) H E w hp/\rW (IU H E w hp) H w:=
 ⟨⟨fun id sb hl=>(hh.ent id sb hl).IU fun _ hb hm=>⟨hm.1,.inr ⟨id,sb,hl,hb⟩⟩,hh.vO⟩,
  ⟨rfl,rfl,rfl,aV _,fun _ _ _=>rfl,hw.on,fun _ _ h=>h,fun _ h=>.inl h⟩⟩
theorem Vo{hp:List (Nat×SB)}(hh:mZ K H E w hp)(hw:rW K H w){b:Nat}(h:w.heap.size<=b\/(IU H E w hp).own b):K.w0.heap.size<=b\/K.own b:=by
 rcases h with h|⟨id,sb,h1,h2⟩
 ·exact .inl (co hw.size h)
 ·exact ((hh.ent _ _ h1).lt h2).2.2
theorem abw{hp hp':List (Nat×SB)}(hh:mZ K H E w hp)(hw:rW K H w)(hh':mZ (IU H E w hp) H' E' w' hp')(hw':rW (IU H E w hp) H' w'):mZ K H' E' w' hp'/\rW K H' w':=by
 refine ⟨⟨fun id sb hl=>(hh'.ent id sb hl).IU fun b hb hm=>⟨hm.1,Vo hh hw hm.2⟩,hh'.vO⟩,⟨hw'.os.trans hw.os,hw'.tape.trans hw.tape,hw'.output.trans hw.output,co hw.size hw'.size,fun b hb hn=>?_,hw'.on,fun b o h=>hw'.le b o (hw.le b o h),fun b hb=>?_⟩⟩
 ·rw[hw'.kept b (by have:=hw.size;exact da hb this) fun ho=>?_]
  ·exact hw.kept b hb hn
  ·(rcases Vo hh hw (.inr ho) with h|h)<;>grind
 ·rcases hw'.fresh b hb with h|h
  ·exact hw.fresh b h
  ·exact .inr (Vo hh hw h)
theorem St.re{c:Core}{a:Act}(st:St C K H E w c a):St C (IU H E w c.hp) H E w c a:=
 ⟨st.den,(abv st.hp st.oQ).1,(abv st.hp st.oQ).2,st.free,st.gl,st.defers⟩
theorem St.un{c c':Core}{a a':Act}(st:St C K H E w c a)(st':St C (IU H E w c.hp) H' E' w' c' a'):St C K H' E' w' c' a':=
 ⟨st'.den,(abw st.hp st.oQ st'.hp st'.oQ).1,(abw st.hp st.oQ st'.hp st'.oQ).2,st'.free,st'.gl,st'.defers⟩
theorem Fv.keep{R:Hp->Prop}{c c':Core}{a a':Act}(h:Fv R K H E w)(st:St C K H E w c a)(st':St C (IU H E w c.hp) H' E' w' c' a')(mv:Mv (IU H E w c.hp) H E w c H' E' w' c'):Fv R K H' E' w':=by
 obtain ⟨hh,hr,hb⟩:=h;refine ⟨hh,hr,fun b o e=>?_⟩;obtain ⟨h1,h2,h3,h4⟩:=hb b o e;have hlt:=(aM.1 h1).1;have hno:¬(IU H E w c.hp).own b:=fun ⟨id,sb,_,q⟩=>h3 id (wz q);refine ⟨by rw[st'.oQ.kept b hlt hno];exact h1,?_,fun i hi=>?_,h4⟩
 ·cases hx:H' b with
  |none=>rfl |some o'=>
   rcases st'.oQ.fresh b (by rw[hx];simp) with q|q|q
   ·exact (q h2).elim
   ·have q:w.heap.size<=b:=q;omega
   simp_all
 ·cases he:E i with
  |none=>
   (rcases mv.EJ i b he hi with q|⟨id,_,q⟩)<;>grind
  |some v=>
   have:bk E' i=bk E i:=by simp[bk,he,mv.Dc _ _ he]
   simp_all
def afI(P:Program)(C:Ctx)(K:Kx)(R:Hp->Prop)(φ:Sh->Prop):Vm->Prop
 | .fin v c=>∃s,finish c v=ae s/\φ s | .stop g td c stk=>nX P C K g td c stk R φ
theorem BJ{g:Nat}{fn:Func}{body:Code}(hP:P.funcs[g]?=ae fn)(hb:fn.body=ae body)(args:Array Value):
  bY P g args .normal=(base g).at {tmps:=args++bw (fn.ntmps - args.size) undef,defers:=[]} [.code body]:=by
 simp[bY,Frame.at,hP,hb,base]
theorem AU(hC:oh P C)(hF:oH P C){hold:Nat->Bool}{m:Nat}{R:Hp->Prop}{φ:Sh->Prop}:∀{n g:Nat} {td:List It} {c:Core} {stk:List Fr},(Sz C hold m n g td c stk).All (afI P C (K0 H0 w0) R φ)->nX P C (K0 H0 w0) g td c stk R φ
 |0,g,td,c,stk,h=>h |n+1,g,td,c,stk,h=>by
  intro H E w a items ms cs fn hfn st hi hs hx;simp only[Sz,hfn] at h;cases ad8:holdB hold fn td c<;>simp only[ad8,cond_true,cond_false] at h
  rotate_left
  ·exact h H E w a items ms cs fn hfn st hi hs hx
  split at h
  ·
   rename_i r hr;unfold Hf at hr;split at hr
   ·rename_i p i rest k
    split at hr
    ·rename_i rid ops dr hcode
     split at hr
     ·rename_i o ho
      split at hr
      ·rename_i hwant
       split at hr
       ·rename_i kk hop
        split at hr
        ·rename_i f afJ
         split at hr
         ·rename_i g2 caps hev
          split at hr
          ·cases hr
          ·rename_i hspec
           split at hr
           ·rename_i uO hfn2
            cases hb:(cm (kk.args.toList.map (oz c.tm)++caps).length uO.ntmps&&uO.body.isSome)<;>simp only[hb,cond_true,cond_false] at hr
            ·cases hr
            cases hr;simp only[al] at hb;obtain ⟨body2,Hg⟩:=bJ.1 hb.2;have ih:=AU hC hF h;have hP2:=hC.fn g2 uO hfn2;cases hi with
            |reg p l id ops2 hc hk=>
             rw[hc] at hcode;cases hcode;rename_i k';have df:=nU (H:=H) (E:=E) st.den f;rw[hev] at df;obtain ⟨vs,ef,hvs⟩:=df;have hargs:=(DZ st.den kk.args.toList).append hvs;have ho':ops[i]?=ae o:=by grind [opAt]
             have hw':=wX (ops:=ops) st.den o;rw[hwant] at hw';have hent:=hF.en g2 (.inr (by grind));have hrun:(execOp a.eval o).run P w=.ok (.enter g2 (kk.args.map a.eval++vs)) w:=by
              simp_all [execOp,resolve,cY,invoke,xG]
             have hg:=stepG_op (P:=P) (b:=base g) (k:=k') (cs:=ms++cs) (w:=w) (rest:=rest) ho' hw';have henter:step P (lone ((base g).at a (.inRegion ops (i::rest)::k')) (ms++cs) w)=.next (lone (bY P g2 (kk.args.map a.eval++vs) .normal) ((base g).at a (.inRegion ops (i::rest)::k')::(ms++cs)) w):=
              step_lone_go (by simp_all [b5,Frame.at])
             rw[BJ hP2 Hg] at henter;have hl:=hargs.length;have hlen:(kk.args.map a.eval++vs).size=(kk.args.toList.map (oz c.tm)++caps).length:=by
              simp_all
             have st2:St C (K0 H0 w0) H E w {c with tm:=(kk.args.toList.map (oz c.tm)++caps)++bp (uO.ntmps - (kk.args.toList.map (oz c.tm)++caps).length) .any} {tmps:=(kk.args.map a.eval++vs)++bw (uO.ntmps - (kk.args.map a.eval++vs).size) undef,defers:=[]}:=by
              refine ⟨?_,st.hp,st.oQ,st.free,st.gl,rfl⟩;have:((kk.args.map a.eval++vs)++bw (uO.ntmps - (kk.args.map a.eval++vs).size) undef).toList=(kk.args.toList.map a.eval++vs.toList)++bp (uO.ntmps - (kk.args.toList.map (oz c.tm)++caps).length) undef:=by
               rw[hlen];simp
              simp only[this];exact hargs.append (ig _ _ (by simp))
             have hit2:pq (mX uO) [.code []] [.code body2]:=by
              have:=cg (body:=mX uO) [] gT;simp_all [nP,mX]
             have hs2:vT C H E ({g,td:=.reg p (i::rest)::k,tm:=c.tm}::stk) ((base g).at a (.inRegion ops (i::rest)::k')::ms):=
              ⟨⟨fn,a,_,hfn,st.den,st.defers,.reg p (i::rest) _ ops hc hk,rfl⟩,hs⟩
             obtain ⟨a',w',v,s,H',todo,fn0,q1,q2,q3⟩:=ih H E w _ _ (_::ms) cs uO hfn2 st2 hit2 hs2 hx;exact ⟨a',w',v,s,H',todo,fn0,q1,.head henter q2,q3⟩
           ·cases hr
         ·cases hr
        ·cases hr
       ·cases hr
      ·cases hr
     ·cases hr
    ·cases hr
   ·cases hr
  ·have hK:=Kw (K:=IU H E w c.hp) hC hF (Ky hC hF m)
   obtain ⟨sig,h1,h2⟩:=Qu hC hF hK (bG h) st.re hi (base g) (ms++cs);cases sig with
   |go vS c'=>
    obtain ⟨a',w',H',E',items',q1,q2,q3,q4⟩:=h2;obtain ⟨a2,w2,v,s,H2,todo,fn0,r1,r2,r3⟩:=AU hC hF h1 H' E' w' a' items' ms cs fn hfn (st.un q2) q4 (hs.le q3.yF q3.Dc) (hx.keep st q2 q3);exact ⟨a2,w2,v,s,H2,todo,fn0,r1,q1.trans r2,r3⟩
   |halt vS c'=>
    obtain ⟨a',w',H',E',items',q1,q2,q3,q4⟩:=h2;obtain ⟨a2,w2,v,s,H2,todo,fn0,r1,r2,r3⟩:=h1 H' E' w' a' items' ms cs fn hfn (st.un q2) q4 (hs.le q3.yF q3.Dc) (hx.keep st q2 q3);exact ⟨a2,w2,v,s,H2,todo,fn0,r1,q1.trans r2,r3⟩
   |done sv c'=>
    obtain ⟨a',w',H',E',v,todo,q1,q2,q3,q4,q5⟩:=h2;cases stk with
    |nil=>
     cases ms with
     |cons _ _=>exact hs.elim |nil=>
      obtain ⟨s,e1,e2⟩:=h1;obtain ⟨H2,r⟩:=G9 (st.un q2) e1 q4;exact ⟨a',w',v,s,H2,todo,fn,hfn,q1,q2.defers,e2,r,q5⟩
    |cons f stk=>
     cases ms with
     |nil=>exact hs.elim |cons mf ms=>
      simp only at h1;split at h1
      ·rename_i r hr
       unfold Jk at hr;split at hr
       ·rename_i Fz abx
        split at hr
        ·rename_i p i rest k htd
         split at hr
         ·rename_i rid ops dr hcode
          cases hr;obtain ⟨⟨fn3,a3,afK,g1,g2,g3,g4,g5⟩,hs'⟩:=hs.le q3.yF q3.Dc;rw[abx] at g1;cases g1;rw[htd] at g4;cases g4 with
          |reg p l id ops2 hc hk=>
           rw[hc] at hcode;cases hcode;rename_i k';subst g5;have hleave:step P (lone {(base g).at a' todo with mode:=.returning} ((base f.g).at a3 (.inRegion ops (i::rest)::k')::(ms++cs)) w')=.next (lone ((base f.g).at (a3.put ((opAt ops.toList i).bind (·.dst)) v) (.inRegion ops rest::k')) (ms++cs) w'):=by
            rw[step_leave_returned (v:=v) ⟨rfl,q2.defers,rfl,fn,hC.fn g fn hfn,q5⟩,eA];simp[opAt]
           have XC:St C (K0 H0 w0) H' E' w' {c' with tm:=IB f.tm ((opAt ops.toList i).bind (·.dst)) sv} (a3.put ((opAt ops.toList i).bind (·.dst)) v):=
            ⟨zU (c:={c' with tm:=f.tm}) g2 _ q4,(st.un q2).hp,(st.un q2).oQ,q2.free,q2.gl,by rw[put_defers];exact g3⟩
           obtain ⟨a2,w2,v2,s,H2,Vp,fn0,r1,r2,r3⟩:=AU hC hF h1 H' E' w' _ _ ms cs Fz abx XC (.reg p rest _ ops hc hk) hs' (hx.keep st q2 q3);exact ⟨a2,w2,v2,s,H2,Vp,fn0,r1,(q1.trans (.one hleave)).trans r2,r3⟩
         ·cases hr
        ·cases hr
       ·cases hr
      ·exact h1.elim
end
structure Dh where
 g:Nat
 td:List It
 c:Core
 stk:List Fr
mutual
def coll:SV->SV->List (Nat×Rn)
 | .gs i,.gs j=>[(i,.id j)] | .gs i,.nD=>[(i,.nil)] | .ptr i _,.ptr j _=>[(i,.id j)] | .mp i,.mp j=>[(i,.id j)] | .fn _ l,.fn _ m=>D6 l m | .agg l,.agg m=>D6 l m | .mV l,.mV m=>D6 l m | .pV _ x,.pV _ y=>coll x y |_,_=>[]
def D6:List SV->List SV->List (Nat×Rn)
 |x::l,y::m=>coll x y++D6 l m |_,_=>[]
end
def ajd:List (SV×SV)->List (SV×SV)->List (Nat×Rn)
 |(a,b)::l,(c,d)::m=>coll a c++coll b d++ajd l m |_,_=>[]
def aje:Option SB->Option SB->List (Nat×Rn)
 |some (.box l _),ae (.box m _)=>D6 l m |some (.row l _ _ _),ae (.row m _ _ _)=>D6 l m |some (.map l),ae (.map m)=>ajd l m |_,_=>[]
def ajf:List Fr->List Fr->List (Nat×Rn)
 |f::s,f'::s'=>D6 f.tm f'.tm++ajf s s' |_,_=>[]
def infer(hp' hp:List (Nat×SB)):Nat->List (Nat×Rn)->List (Nat×Rn)->List (Nat×Rn)
 |0,_,acc=>acc |_,[],acc=>acc |n+1,(i,r)::t,acc=>match mG acc i with
  |some _=>infer hp' hp n t acc |none=>match r with
   | .id j=>infer hp' hp n (aje (mG hp' i) (mG hp j)++t) ((i,r)::acc) | .nil=>infer hp' hp n t ((i,r)::acc)
def Vq(hp:List (Nat×SB))(ρ:List (Nat×Rn)):List Fr->List Fr->Option (List oC)
 |[],[]=>ae [] |f::s,f'::s'=>qc (f.g==f'.g&&zi f.td f'.td) (uq (qL hp ρ f.tm f'.tm) (Vq hp ρ s s')) |_,_=>aq
inductive rQ where
 |ret (s:Sh)
 |at_ (k:Nat) (l:List oC)
def Jl:List Fr->List Fr->Bool
 |[],[]=>aj |f::s,f'::s'=>f.g==f'.g&&zi f.td f'.td&&Jl s s' |_,_=>ag
def Dh.rn(t:Dh)(c:Core)(stk:List Fr):List (Nat×Rn):=infer t.c.hp c.hp 4000 (D6 t.c.tm c.tm++ajf t.stk stk) []
def OL(g:Nat)(td:List It)(c:Core)(stk:List Fr):Nat->List Dh->Tree rQ
 |_,[]=>.fail |k,t::r=>bif g==t.g&&zi td t.td&&Jl stk t.stk then match uq (qC (t.rn c stk) c t.c) (Vq c.hp (t.rn c stk) stk t.stk) with
   |some l=>.leaf (.at_ k l) |none=>.fail
  else OL g td c stk (k+1) r
def ajg(ts:List Dh):Vm->Tree rQ
 | .fin v c=>match finish c v with
  |some s=>.leaf (.ret s) |none=>.fail
 | .stop g td c stk=>OL g td c stk 0 ts
def nZ(C:Ctx)(hold:Nat->Bool)(m n g:Nat)(td:List It)(c:Core)(stk:List Fr)(ts:List Dh):Tree rQ:=(Sz C hold m n g td c stk).bind (ajg ts)
def yG(P:Program)(C:Ctx)(K:Kx)(ts:List Dh)(R:Hp->Prop)(φ:Sh->Prop):rQ->Prop
 | .ret s=>φ s | .at_ k l=>aX l/\∃t,ts[k]?=ae t/\nX P C K t.g t.td t.c t.stk R φ
section
variable{P:Program}{C:Ctx}{K:Kx}{H H' Fj H0:Mem}{E E' Fp E1:Env}{w w' w'' w0:World}
def Vr(hp:List (Nat×SB))(ρ:List (Nat×Rn)):List Fr->List Fr->Prop
 |[],[]=>True |f::s,f'::s'=>f.g=f'.g/\f.td=f'.td/\Vg hp ρ f.tm f'.tm/\Vr hp ρ s s' |_,_=>False
theorem Vs{hp:List (Nat×SB)}{ρ:List (Nat×Rn)}:∀{s s':List Fr} {q:List oC},Vq hp ρ s s'=ae q->aX q->Vr hp ρ s s'
 |[],[],_,_,_=>trivial |f::s,f'::s',q,h,ha=>by
  simp only[Vq] at h;obtain ⟨h1,h2⟩:=nO h;obtain ⟨a,b,h3,h4,rfl⟩:=oK h2;simp only[al,beq_iff_eq] at h1;exact ⟨h1.1,Dx h1.2,Fq _ h3 (bE ha).1,Vs h4 (bE ha).2⟩
 |[],_::_,_,h,_=>by simp[Vq] at h |_::_,[],_,h,_=>by simp[Vq] at h
theorem vT.weak{hp:List (Nat×SB)}{ρ:List (Nat×Rn)}(hh:mZ K H E w hp):∀{s s':List Fr} {ms:List Frame},vT C H E s ms->Vr hp ρ s s'->vT C H (vg ρ E) s' ms
 |[],[],[],_,_=>trivial |f::s,f'::s',m::ms,⟨⟨fn,a,items,h1,h2,h3,h4,h5⟩,h6⟩,⟨e1,e2,e3,e4⟩=>
  ⟨⟨fn,a,items,by simp_all,yO hh _ e3 h2,h3,by simp_all,by simp_all⟩,vT.weak hh h6 e4⟩
 |[],[],_::_,h,_=>h.elim |_::_,_,[],h,_=>h.elim |[],_::_,_,_,h=>h.elim |_::_,[],_::_,_,h=>h.elim
theorem Fv.weak{R:Hp->Prop}{ρ:List (Nat×Rn)}(h:Fv R K H E w):Fv R K H (vg ρ E) w:=by
 obtain ⟨hh,h1,h2⟩:=h;refine ⟨hh,h1,fun b o e=>?_⟩;obtain ⟨a1,a2,a3,a4⟩:=h2 b o e;refine ⟨a1,a2,fun i=>?_,a4⟩;unfold bk vg;cases hr:mG ρ i with
 |none=>simp |some r=>
  cases r with
  |id j=>exact a3 j |nil=>simp[mY]
theorem aby{hp:List (Nat×SB)}{ρ:List (Nat×Rn)}:∀{s s':List Fr} {g:Nat},Vr hp ρ s s'->IE g s'=IE g s
 |[],[],_,_=>rfl |f::s,f'::s',_,⟨e1,_,_,e4⟩=>by simp only[IE];rw[e1];exact aby e4 |[],_::_,_,h=>h.elim |_::_,[],_,h=>h.elim
theorem SA{g:Nat}{td:List It}{c c':Core}{stk zW:List Fr}{R:Hp->Prop}{φ:Sh->Prop}(ρ:List (Nat×Rn))(hle:leC ρ c c')(hs:Vr c.hp ρ stk zW)(h:nX P C K g td c' zW R φ):nX P C K g td c stk R φ:=by
 intro H E w a items ms cs fn hfn st hi hst hx;have:=h H (vg ρ E) w a items ms cs fn hfn (st.weak hle) hi (hst.weak st.hp hs) hx.weak;grind [aby]
theorem MO{R:Hp->Prop}{φ:Sh->Prop}{ts:List Dh}{g:Nat}{td:List It}{c:Core}{stk:List Fr}:∀{r:List Dh} {k:Nat},(∀j,r[j]?=ts[k+j]?)->(OL g td c stk k r).All (yG P C K ts R φ)->nX P C K g td c stk R φ
 |[],_,_,h=>h.elim |t::r,k,hk,h=>by
  unfold OL at h;cases hb:(g==t.g&&zi td t.td&&Jl stk t.stk)<;>simp only[hb,cond_true,cond_false] at h
  ·exact MO (fun j=>by have:=hk (j+1);grind) h
  ·simp only[al,beq_iff_eq] at hb
   obtain ⟨⟨h1,h2⟩,h3⟩:=hb;split at h
   ·rename_i l hl
    obtain ⟨a,b,q1,q2,rfl⟩:=oK hl;obtain ⟨hl,t',ht,hg⟩:=h;have:=hk 0;simp only[dY,d9] at this;rw[<-this] at ht;cases ht;have h2:=Dx h2;subst h1 h2;exact SA (t.rn c stk) (ad7 q1 (bE hl).1) (Vs q2 (bE hl).2) hg
   ·exact h.elim
theorem xA(hC:oh P C)(hF:oH P C){hold:Nat->Bool}{m n g:Nat}{td:List It}{c:Core}{stk:List Fr}{ts:List Dh}{R:Hp->Prop}{φ:Sh->Prop}
  (h:(nZ C hold m n g td c stk ts).All (yG P C (K0 H0 w0) ts R φ)):nX P C (K0 H0 w0) g td c stk R φ:=by
 refine AU hC hF (hold:=hold) (m:=m) (n:=n) ((bG h).mono fun o ho=>?_);cases o with
 |fin v c=>
  simp only[ajg] at ho;split at ho
  ·rename_i s hs
   exact ⟨s,hs,ho⟩
  ·exact ho.elim
 |stop g td c stk=>exact MO (k:=0) (fun j=>by simp) ho
theorem abz{g:Nat}{fn:Func}{p:List Nat}{k:List It}{x:Code}{c:Core}{stk:List Fr}{R:Hp->Prop}{φ:Sh->Prop}(hfn:C.fns.get g=ae fn)(hx:nP (mX fn) p=.loop x)
  (h:nX P C K g (.code (0::p)::.code p::k) c stk R φ):nX P C K g (.code p::k) c stk R φ:=by
 intro H E w a items ms cs fn' hfn' st hi hs he;rw[hfn] at hfn';cases hfn';have h0:nP (mX fn) (0::p)=x:=by simp[nP,hx,child]
 cases hi with
 |code p hk=>
  have:=cg (0::p) (gn p x hx hk);rw[h0] at this;rw[hx];obtain ⟨a2,w2,v,s,H',todo,fn0,r0,r1,r2⟩:=h H E w a _ ms cs fn hfn st this hs he;exact ⟨a2,w2,v,s,H',todo,fn0,r0,.head step_loop r1,r2⟩
 |loop p y hl hk=>
  rw[hx] at hl;cases hl;have:=cg (0::p) (gn p x hx hk);rw[h0] at this;obtain ⟨a2,w2,v,s,H',todo,fn0,r0,r1,r2⟩:=h H E w a _ ms cs fn hfn st this hs he;exact ⟨a2,w2,v,s,H',todo,fn0,r0,.head step_inLoop r1,r2⟩
theorem OM:Fv emp K H E w:=⟨fun _=>aq,trivial,fun _ _ h=>by cases h⟩
theorem BA(hC:oh P C){g:Nat}{fn:Func}{F:List Sh->Tree Sh}(hfn:C.fns.get g=ae fn)(hb:fn.body.isSome=aj)
  (h:∀(H:Mem) (w:World) (nV:List Sh) (args:List Value) (φ:Sh->Prop),qQ H nV args->(F nV).All φ->∃qV:List Sh,qQ H qV args/\∃L,nX P C (K0 H w) g [.code []] (mM fn.ntmps qV L) [] emp φ):nG P C.gls g F:=by
 intro H w nV args φ hon hg hr hφ;obtain ⟨qV,hr,L,hgo⟩:=h H w nV args φ hr hφ;obtain ⟨body,hbody⟩:=bJ.1 hb;have hP:=hC.fn g fn hfn;intro cs;let a:Act:={tmps:=args.toArray++bw (fn.ntmps - args.toArray.size) undef,defers:=[]}
 have hlen:=hr.length;have st:St C (K0 H w) H E0 w (mM fn.ntmps qV L) a:=by
  refine ⟨?_,⟨fun _ _ h=>by simp[mM,mG] at h,fun _ _ _ _ _ h=>by simp[mM,mG] at h⟩,⟨rfl,rfl,rfl,aV _,fun _ _ _=>rfl,hon,fun _ _ h=>h,fun _ h=>.inl h⟩,fun _ _ _=>rfl,hg,rfl⟩;have:a.tmps.toList=args++bp (fn.ntmps - qV.length) undef:=by simp[a,hlen]
  rw[this];exact (zA hr).append (ig _ _ (by simp))
 have hit:pq (mX fn) [.code []] [.code body]:=by
  have:=cg (body:=mX fn) [] gT;simp_all [nP,mX]
 obtain ⟨a',w',v,s,H',todo,fn0,q0,q1,q2,q3,q4,q5⟩:=hgo H E0 w a [.code body] [] cs fn hfn st hit trivial OM;exact ⟨.returned v,w',_,⟨v,s,H',rfl,q3,q4⟩,by rw[BJ hP hbody];exact q1,rfl,rfl,q2,rfl,fn,hP,by cases hfn.symm.trans q0;exact q5⟩
end
def OO:Code->Bool
 | .loop _=>aj |_=>ag
def Uc(fn:Func):List It->Option (List It)
 | .code p::k=>bif OO (nP (mX fn) p) then ae (.code (0::p)::.code p::k) else aq |_=>aq
theorem wY{P:Program}{C:Ctx}{K:Kx}{g:Nat}{fn:Func}{td tb:List It}{c:Core}{stk:List Fr}{R:Hp->Prop}{φ:Sh->Prop}(hfn:C.fns.get g=ae fn)(hx:Uc fn td=ae tb)
  (h:nX P C K g tb c stk R φ):nX P C K g td c stk R φ:=by
 unfold Uc at hx;split at hx
 ·rename_i p k
  cases hb:OO (nP (mX fn) p)<;>simp only[hb,cond_true,cond_false] at hx
  ·cases hx
  ·cases hx
   unfold OO at hb;grind [abz]
 ·cases hx
def vU(P:Program):List Field->Nat->List SV->Bool
 |[],_,[]=>aj
 |f::r,j,.int .i64 _::z=>f.name != "_" && f.offset==j&&(match P.underlying f.type with|some (.int .i64)=>aj|_=>ag)&&vU P r (j+1) z
 |f::r,j,.bool _::z=>f.name != "_" && f.offset==j&&(match P.underlying f.type with|some .bool=>aj|_=>ag)&&vU P r (j+1) z
 |_,_,_=>ag
def Zz(P:Program)(t:Nat)(z:List SV):Bool:=
 (match P.underlying t with|some (.struct fs)=>vU P fs.toList 0 z|_=>ag) && !P.stoodInHeld t && !P.eqGuardType P.depth t
theorem Yh{P:Program}{t:Nat}{k:IntKind}(hu:P.underlying t=ae (.int k))(xs:List Cq)(j:Nat)(n:Int)(hj:xs[j]?=ae (.i n))(w:World):
  (part t (xs.map ff).toArray j).run P w=.ok (.int .i64 n) w:=by
 simp_all [ff,part,isAgg,run_underlying]
theorem Vt{P:Program}{t:Nat}(hu:P.underlying t=ae .bool)(xs:List Cq)(j:Nat)(n:Bool)(hj:xs[j]?=ae (.b n))(w:World):
  (part t (xs.map ff).toArray j).run P w=.ok (.bool n) w:=by
 simp_all [ff,part,isAgg,run_underlying]
theorem Vu{l:List Cq}{k:IntKind}{n:Int}{z:List SV}(h:qp l (.int k n::z)=aj):∃a r,l=.i a::r/\qp r z=aj:=by
 unfold qp at h;grind
theorem SC{l:List Cq}{n:Bool}{z:List SV}(h:qp l (.bool n::z)=aj):∃a r,l=.b a::r/\qp r z=aj:=by
 unfold qp at h;grind
theorem Vx{l:List Cq}(h:qp l []=aj):l=[]:=by
 grind [qp]
theorem KA{α:Type}{l:List α}{j:Nat}{a:α}{r:List α}(h:l.drop j=a::r):l[j]?=ae a/\l.drop (j+1)=r:=by
 have h1:l[j]?=ae a:=by
  have:=congrArg (fun x=>x[0]?) h;grind
 grind [List.tail_drop]
theorem Hl{P:Program}(d:Nat)(w:World)(xs ys:List Cq):∀(fs:List Field) (j:Nat) (z:List SV),vU P fs j z=aj->qp (xs.drop j) z=aj->qp (ys.drop j) z=aj->
  (iK (d+1) (xs.map ff).toArray (ys.map ff).toArray fs).run P w=.ok (decide (xs.drop j=ys.drop j)) w
 |[],j,z,h,h1,h2=>by
  cases z with
  |cons a z=>simp[vU] at h |nil=>rw[Vx h1,Vx h2];rfl
 |f::fs,j,z,h,h1,h2=>by
  cases z with
  |nil=>simp[vU] at h |cons a0 z=>
  cases a0;case int k n=>
   cases k;case i64=>
    unfold vU at h;simp only[al,bne_iff_ne,ne_eq,beq_iff_eq] at h;obtain ⟨⟨⟨a1,a2⟩,a3⟩,a4⟩:=h;have hu:P.underlying f.type=ae (.int .i64):=by
     grind
    obtain ⟨a,r1,q1,s1⟩:=Vu h1;obtain ⟨b,r2,q2,s2⟩:=Vu h2;obtain ⟨g1,t1⟩:=KA q1;obtain ⟨g2,t2⟩:=KA q2;have p1:=Yh hu xs j _ g1 w;have p2:=Yh hu ys j _ g2 w;have q:=run_equalIn_int (P:=P) w d f.type .i64 .i64 a b hu;have ih:=Hl d w xs ys fs (j+1) z a4 (by simp_all) (by simp_all);have hn:f.name≠ "_" :=by omega
    simp only[iK,hn,ne_eq,not_false_eq_true,if_true,a2,cn,p1,p2,q,cH,lS];rw[q1,q2];rw[t1,t2] at ih;(by_cases hb:a=b)<;>simp_all
   all_goals simp[vU] at h
  case bool n=>
   unfold vU at h;simp only[al,bne_iff_ne,ne_eq,beq_iff_eq] at h;obtain ⟨⟨⟨a1,a2⟩,a3⟩,a4⟩:=h;have hu:P.underlying f.type=ae .bool:=by
    grind
   obtain ⟨a,r1,q1,s1⟩:=SC h1;obtain ⟨b,r2,q2,s2⟩:=SC h2;obtain ⟨g1,t1⟩:=KA q1;obtain ⟨g2,t2⟩:=KA q2;have p1:=Vt hu xs j _ g1 w;have p2:=Vt hu ys j _ g2 w;have q:=run_equalIn_bool' (P:=P) w d f.type a b hu;have ih:=Hl d w xs ys fs (j+1) z a4 (by simp_all) (by simp_all);have hn:f.name≠ "_" :=by omega
   simp only[iK,hn,ne_eq,not_false_eq_true,if_true,a2,cn,p1,p2,q,cH,lS];rw[q1,q2];rw[t1,t2] at ih;(by_cases hb:a=b)<;>simp_all
  all_goals simp[vU] at h
theorem Qx{P:Program}{t:Nat}{z:List SV}(h:Zz P t z=aj)(xs ys:List Cq)(w:World)(h1:qp xs z=aj)(h2:qp ys z=aj)(x y:Operand):
  (do eqGuard .eql t x y (.agg (xs.map ff).toArray) (.agg (ys.map ff).toArray);binOp .eql t (.agg (xs.map ff).toArray) (.agg (ys.map ff).toArray):Sem Value).run P w=.ok (.bool (decide (xs=ys))) w/\
  (do eqGuard .neq t x y (.agg (xs.map ff).toArray) (.agg (ys.map ff).toArray);binOp .neq t (.agg (xs.map ff).toArray) (.agg (ys.map ff).toArray):Sem Value).run P w=.ok (.bool (!decide (xs=ys))) w:=by
 unfold Zz at h;simp only[al,Bool.not_eq_true'] at h;obtain ⟨⟨a1,a2⟩,a3⟩:=h;split at a1
 ·rename_i fs hu
  have hf:P.fieldsOf t=fs:=by simp[Program.fieldsOf,hu]
  have he:=run_equalIn_struct (P:=P) w 9999 t (xs.map ff).toArray (ys.map ff).toArray (by simp_all) a2;rw[hf,Hl 9998 w xs ys fs.toList 0 z a1 (by assumption) (by assumption)] at he;simp only[List.drop_zero] at he;simp_all [run_eqGuard_agg,run_eql_struct,run_neq_struct,cn,cH]
 ·cases a1
def abA(P:Program):List Nat->Bool
 |[]=>aj |T::r=>(match P.info? T with|some inf=>inf.comparable|none=>ag)&&(match P.underlying T with|some (.pointer e)=>(match P.info? e with|some ie=>ie.size != 0|none=>ag) |_=>ag)&&abA P r
theorem OQ{P:Program}:∀{l:List Nat},abA P l=aj->∀T,l.contains T=aj->∃inf e ie,P.info? T=ae inf/\inf.comparable=aj/\P.underlying T=ae (.pointer e)/\P.info? e=ae ie/\ie.size≠0
 |[],_,T,h=>by simp at h |T'::r,h,T,hT=>by
  simp only[abA,al] at h;obtain ⟨⟨h1,h2⟩,h3⟩:=h;simp only[iL,eT,beq_iff_eq] at hT;rcases hT with rfl|hT
  ·grind
  ·exact OQ h3 T hT
def OT(P:Program)(tys:BT Ai):List Nat->Bool
 |[]=>aj |t::r=>(match tys.get t with|some i=>Zz P t i.zero|none=>aj)&&OT P tys r
theorem Ho{P:Program}{tys:BT Ai}:∀{l:List Nat},OT P tys l=aj->∀t i,l.contains t=aj->tys.get t=ae i->Zz P t i.zero=aj
 |[],_,t,_,h,_=>by simp at h |t'::r,h,t,i,ht,hi=>by
  simp only[OT,al] at h;simp only[iL,eT,beq_iff_eq] at ht;rcases ht with rfl|ht
  ·simp_all
  ·exact Ho h.2 t i ht hi
section
variable{P:Program}{C:Ctx}{H H':Mem}{E E':Env}{w w':World}
def Ci(E:Env)(hp:List (Nat×SB)):Nat->Prop:=fun b=>∃id sb,mG hp id=ae sb/\nN E id sb=ae b
theorem ZA{K:Kx}{hp:List (Nat×SB)}(p:Nat->Bool)(h:mZ K H E w hp):mZ K H E w (dropKey p hp):=by
 have key:∀{i:Nat} {sb:SB},mG (dropKey p hp) i=ae sb->mG hp i=ae sb:=fun {i sb} hl=>by
  grind [Bz]
 exact ⟨fun id sb hl=>h.ent id sb (key hl),fun id id' sb sb' b l1 l2 o1 o2=>h.vO id id' sb sb' b (key l1) (key l2) o1 o2⟩
end
inductive avG where
 |fin (v:SV) (hp:List (Nat×SB))
 |stop (td:List It) (c:Core)
section
variable{P:Program}{C:Ctx}{K:Kx}{H H':Mem}{E E' E0:Env}{w w':World}
end
def qF(hp:List (Nat×SB))(ρ:List (Nat×Rn)):List (Int×Bool×SV)->List (Int×Bool×SV)->Option (List oC)
 |[],[]=>ae [] |(n,p,x)::l,(n',p',x')::l'=>qc (p==p') (uq (ae [.int n n']) (uq (bif p' then qS hp ρ x x' else ae []) (qF hp ρ l l'))) |_,_=>aq
def qB2(hp:List (Nat×SB))(ρ:List (Nat×Rn))(id':Nat):SB->Option (List oC)
 | .fm k' M' fs' us' tg'=>match mG ρ id' with
  |some (.id id)=>match mG hp id with
   |some (.fm k M fs us _)=>qc (k==k'&&tg'.isNone) (uq (ae [.mp M M']) (uq (qF hp ρ fs fs') (qF hp ρ us us'))) |_=>aq
  |_=>aq
 | .wK e' st' n' g' more'=>match mG ρ id' with
  |some (.id id)=>match mG hp id with
   |some (.wK e st n g more)=>qc (e==e'&&st==st'&&more.length==more'.length&&uP more') (uq (ae [.nat n n',.get n g g']) (qL hp ρ more more')) |_=>aq
  |_=>aq
 |sb=>qB hp ρ id' sb
def qH2(hp:List (Nat×SB))(ρ:List (Nat×Rn)):List (Nat×SB)->Option (List oC)
 |[]=>ae [] |(id',sb)::l=>uq (qB2 hp ρ id' sb) (qH2 hp ρ l)
def Ud:List (Int×Bool×SV)->List (Int×Bool×SV)->List (Nat×Rn)
 |(_,aj,x)::l,(_,aj,y)::m=>coll x y++Ud l m |_::l,_::m=>Ud l m |_,_=>[]
def am4:Option SB->Option SB->List (Nat×Rn)
 |some (.fm _ _ fs us _),ae (.fm _ _ gs vs _)=>Ud fs gs++Ud us vs |some (.wK _ _ _ _ l),ae (.wK _ _ _ _ m)=>D6 l m |a,b=>aje a b
def Ue(hp' hp:List (Nat×SB)):Nat->List (Nat×Rn)->List (Nat×Rn)->List (Nat×Rn)
 |0,_,acc=>acc |_,[],acc=>acc |n+1,(i,r)::t,acc=>match mG acc i with
  |some _=>Ue hp' hp n t acc |none=>match r with
   | .id j=>Ue hp' hp n (am4 (mG hp' i) (mG hp j)++t) ((i,r)::acc) | .nil=>Ue hp' hp n t ((i,r)::acc)
structure IV where
 hp:List (Nat×SB)
 keep:List Nat
def IV.rn(t:IV)(hp:List (Nat×SB)):List (Nat×Rn):=Ue t.hp hp 4000 (t.keep.map fun i=>(i,.id i)) []
def afL(hp:List (Nat×SB))(t:IV):Option (List oC):=qc (AQ (Ce (t.rn hp))&&t.keep.all fun i=>Yg (mG (t.rn hp) i) i) (qH2 hp (t.rn hp) t.hp)
def afM(v:SV)(hp:List (Nat×SB)):Nat->List IV->Tree (SV×Nat×List oC)
 |_,[]=>.fail |k,t::r=>match afL hp t with
  |some l=>.leaf (v,k,l) |none=>afM v hp (k+1) r
def toEnd(ts:List IV):Out->Tree (SV×Nat×List oC)
 | .done v c=>afM v c.hp 0 ts | .stop _ _ _=>.fail
def vV(ts:List IV)(φ:SV->Nat->Prop):SV×Nat×List oC->Prop
 |(v,k,l)=>aX l/\φ v k
@[irreducible] def tJ (ψ:SV×Nat×List oC->Prop) (t:Tree (SV×Nat×List oC)):Prop:=t.All ψ
theorem pG(ψ:SV×Nat×List oC->Prop)(t:Tree (SV×Nat×List oC)):tJ ψ t=t.All ψ:=by unfold tJ;rfl
section
variable{P:Program}{C:Ctx}{K:Kx}{H H':Mem}{E E':Env}{w w':World}{hp:List (Nat×SB)}{ρ:List (Nat×Rn)}
theorem ZB(hh:mZ K H E w hp):∀{l l':List (Int×Bool×SV)} {q:List oC} {r:List (Int×Option Value)},qF hp ρ l l'=ae q->aX q->vY H E l r->vY H (vg ρ E) l' r
 |[],[],_,[],_,_,_=>trivial |(n,p,x)::l,(n',p',x')::l',q,(k,o)::r,hq,ha,⟨h1,h2,h3⟩=>by
  simp only[qF] at hq;obtain ⟨hp',hq⟩:=nO hq;obtain ⟨a,b,e1,e2,rfl⟩:=oK hq;obtain ⟨c,d,e3,e4,rfl⟩:=oK e2;cases e1;have hpp:p=p':=by grind
  subst hpp;obtain ⟨hn,ha⟩:=ha;have hn:n=n':=hn;subst hn;have ha2:=bE (show aX (c++d) from ha);refine ⟨h1,?_,ZB hh e4 ha2.2 h3⟩;cases p with
  |true=>
   cases o with
   |none=>exact h2 |some v=>exact ⟨Ji hh _ (Vl _ e3 ha2.1) h2.1,h2.2⟩
  |false=>
   grind
 |[],_::_,_,_,h,_,_=>by simp[qF] at h |_::_,[],_,_,h,_,_=>by simp[qF] at h |_::_,_::_,_,[],_,_,h=>h.elim |[],[],_,_::_,_,_,h=>h.elim
theorem ZC(hh:mZ K H E w hp){id':Nat}{sb:SB}{q:List oC}(hq:qB2 hp ρ id' sb=ae q)(ha:aX q):
  wo K H (vg ρ E) w id' sb/\∀b,nN (vg ρ E) id' sb=ae b->∃id s0,mG ρ id'=ae (.id id)/\mG hp id=ae s0/\nN E id s0=ae b:=by
 unfold qB2 at hq;split at hq
 ·rename_i k' M' fs' us' tg'
  split at hq
  ·rename_i id hr
   split at hq
   ·rename_i k M fs us tg hl
    obtain ⟨hk,hq⟩:=nO hq;obtain ⟨a,b,e1,e2,rfl⟩:=oK hq;obtain ⟨c,d,e3,e4,rfl⟩:=oK e2;cases e1;simp only[al,beq_iff_eq,Option.isNone_iff_eq_none] at hk;obtain ⟨rfl,rfl⟩:=hk;obtain ⟨hM,ha⟩:=ha;have hM:M=M':=hM;subst hM;have ha2:=bE (show aX (c++d) from ha);obtain ⟨b,ms,clk,fv,uv,he,h1,h2,h3,h4,h5,h6,h7⟩:=hh.ent _ _ hl;refine ⟨⟨b,ms,clk,fv,uv,by grind [qO],h1,ZB hh e3 ha2.1 h2,ZB hh e4 ha2.2 h3,h4,h5,trivial,h7⟩,fun b' hb=>⟨id,_,hr,hl,?_⟩⟩;simp_all [nN,qO]
   ·cases hq
  ·cases hq
 ·rename_i e' st' n' g' more'
  split at hq
  ·rename_i id hr
   split at hq
   ·rename_i e st n g more hl
    obtain ⟨hk,hq⟩:=nO hq;obtain ⟨a,b,e1,e2,rfl⟩:=oK hq;cases e1;simp only[al,beq_iff_eq] at hk;obtain ⟨⟨⟨rfl,rfl⟩,hlen⟩,hone⟩:=hk;obtain ⟨hn,hg,ha⟩:=ha;have hn:n=n':=hn;subst hn;have hg:∀i,i<n->g i=g' i:=hg;obtain ⟨v,xs,ys,he,h1,h2,h3,h4,h5,h6⟩:=hh.ent _ _ hl;refine ⟨⟨v,xs,ys,by grind [qO],by simp_all,Jj h2 hg,yO hh _ (Fq _ e2 ha) h3,by simp_all,hone,h6⟩,fun b' hb=>⟨id,_,hr,hl,?_⟩⟩;simp_all [nN,qO]
   ·cases hq
  ·cases hq
 grind [OH,ai9]
theorem Uf:∀{l:List (Nat×SB)} {q:List oC} {i:Nat} {sb:SB},qH2 hp ρ l=ae q->aX q->mG l i=ae sb->∃q',qB2 hp ρ i sb=ae q'/\aX q'
 |[],_,_,_,_,_,h=>by simp[mG] at h |(j,x)::l,q,i,sb,hq,ha,h=>by
  simp only[qH2] at hq;obtain ⟨a,b,e1,e2,rfl⟩:=oK hq;simp only[mG] at h;cases hj:(j==i)<;>simp only[hj,cond_true,cond_false] at h
  ·exact Uf e2 (bE ha).2 h
  grind [bE]
theorem ajh(hh:mZ K H E w hp){t:IV}{q:List oC}(hq:afL hp t=ae q)(ha:aX q):∃E',mZ K H E' w t.hp/\∀i∈t.keep,E' i=E i:=by
 unfold afL at hq;obtain ⟨h1,h2⟩:=nO hq;simp only[al,be] at h1;refine ⟨vg (t.rn hp) E,⟨fun id sb hl=>?_,fun id id' sb sb' b l1 l2 o1 o2=>?_⟩,fun i hi=>qO (OJ (h1.2 i hi))⟩
 ·grind [Uf,ZC]
 ·obtain ⟨q1,e1,e2⟩:=Uf h2 ha l1
  obtain ⟨q2,e3,e4⟩:=Uf h2 ha l2;obtain ⟨i1,s1,a1,a2,a3⟩:=(ZC hh e1 e2).2 b o1;obtain ⟨i2,s2,b1,b2,b3⟩:=(ZC hh e3 e4).2 b o2;have:=hh.vO _ _ _ _ _ a2 b2 a3 b3;grind [Zx]
theorem abB{v:SV}{φ:SV->Nat->Prop}{ts:List IV}:∀{r:List IV} {k:Nat},(∀j,r[j]?=ts[k+j]?)->(afM v hp k r).All (vV ts φ)->∃j t q,ts[j]?=ae t/\afL hp t=ae q/\aX q/\φ v j
 |[],_,_,h=>h.elim |t::r,k,hk,h=>by
  unfold afM at h;split at h
  ·rename_i l hl
   have:=hk 0;simp only[dY,d9] at this;exact ⟨k,t,l,this.symm,hl,h.1,h.2⟩
  ·exact abB (fun j=>by have:=hk (j+1);grind) h
theorem ad9(hC:oh P C)(hF:oH P C){n g:Nat}{fn:Func}{c:Core}{args:Array Value}{ts:List IV}{φ:SV->Nat->Prop}(hfn:C.fns.get g=ae fn)(hb:fn.body.isSome=aj)
  (hd:mW H E c.tm (args++bw (fn.ntmps - args.size) undef).toList) (hh:mZ ⟨w,Ci E c.hp,H⟩ H E w c.hp) (hon:H.on w) (hfree:Free E c) (hg:qh C.gls H)
  (h:tJ (vV ts φ) ((run C n aj g [.code []] c).bind (toEnd ts))) :
  Calls P g args w fun e w'=>∃v sv k t H' E1 E',e=.returned v/\φ sv k/\ts[k]?=ae t/\Den H' E1 sv v/\mZ ⟨w,Ci E c.hp,H⟩ H' E' w' t.hp/\rW ⟨w,Ci E c.hp,H⟩ H' w'/\H.le H'/\∀i∈t.keep,∀u,E i=ae u->E' i=ae u:=by
 rw[pG] at h;intro cs;obtain ⟨body,hbody⟩:=bJ.1 hb;have hP:=hC.fn g fn hfn;let b:Frame:={(default:Frame) with fn:=g,kind:=.normal}
 let a:Act:={tmps:=args++bw (fn.ntmps - args.size) undef,defers:=[]}
 have henter:bY P g args .normal=b.at a [.code body]:=by
  grind [bY,Frame.at]
 have st:St C ⟨w,Ci E c.hp,H⟩ H E w c a:=
  ⟨hd,hh,⟨rfl,rfl,rfl,aV _,fun _ _ _=>rfl,hon,fun _ _ h=>h,fun _ h=>.inl h⟩,hfree,hg,rfl⟩
 have hit:pq (mX fn) [.code []] [.code body]:=by
  have:=cg (body:=mX fn) [] gT;simp_all [nP,mX]
 obtain ⟨out,h1,h2⟩:=Ky hC hF n aj g [.code []] c H E w a fn [.code body] _ hfn (bG h) st hit b cs;cases out with
 |stop g' vS c'=>exact h1.elim |done sv c'=>
  obtain ⟨a',w',H',E',v,todo,q1,q2,q3,q4,q5⟩:=h2;obtain ⟨k,t,q,r1,r2,r3,r4⟩:=abB (ts:=ts) (k:=0) (fun j=>by simp) h1;obtain ⟨E2,r5,r6⟩:=ajh q2.hp r2 r3;exact ⟨.returned v,w',_,⟨v,sv,k,t,H',E',E2,rfl,r4,r1,q4,r5,q2.oQ,q3.yF,fun i hi u hu=>by rw[r6 i hi];exact q3.Dc i u hu⟩,by rw[henter];exact q1,rfl,rfl,q2.defers,rfl,fn,hP,q5⟩
end
def afN(fn:Func)(td:List It)(c:Core):Option (Nat×List SV×Option Nat×List It):=
 match td with
 | .reg p (i::r)::k=>match nP (mX fn) p with
  | .region _ ops _=>match opAt ops.toList i with
   |some o=>match EF ops.toList c.tm o with
    | .yes=>match o.op with
     | .call kk=>match kk.callee with
      | .value f=>match oz c.tm f with
       | .fn g cs=>ae (g,kk.args.toList.map (oz c.tm)++cs,o.dst,.reg p r::k) |_=>aq
      |_=>aq
     |_=>aq
    |_=>aq
   |none=>aq
  |_=>aq
 |_=>aq
def Hp.at(h:Hp)(H:Mem)(w:World):Prop:=∀b o,h b=ae o->w.heap[b]?=ae o/\H b=aq
mutual
def yP:SV->Bool
 | .ptr _ _=>ag | .gs _=>ag | .gp _ _ _ _=>ag | .mp _=>ag | .ev _=>ag | .vw _ _=>ag | .fn _ l=>Cj l | .agg l=>Cj l | .mV l=>Cj l | .pV _ x=>yP x |_=>aj
def Cj:List SV->Bool
 |[]=>aj |x::l=>yP x&&Cj l
end
def ZE:List Fr->Bool
 |[]=>aj |f::s=>Cj f.tm&&ZE s
def CO:Env:=fun _=>aq
mutual
theorem Dy{H:Mem}{E E':Env}:∀{x:SV} {v:Value},yP x=aj->Den H E x v->Den H E' x v
 | .any,_,_,_=>trivial | .val _,_,_,h=>h | .int _ _,_,_,h=>h | .sym _ _,_,_,h=>h | .bool _,_,_,h=>h | .test _,_,_,h=>h | .str _,_,_,h=>h | .ptr _ _,_,h,_=>by simp[yP] at h | .gs _,_,h,_=>by simp[yP] at h | .gp _ _ _ _,_,h,_=>by simp[yP] at h | .uj,_,_,h=>h | .nD,_,_,h=>h | .wC,_,_,h=>h | .qP,_,_,h=>h | .vC,_,_,h=>h | .fn _ l,_,hn,⟨vs,h1,h2⟩=>⟨vs,h1,AV (by assumption) h2⟩ | .agg l,_,hn,⟨vs,h1,h2⟩=>⟨vs,h1,AV (by assumption) h2⟩ | .mV l,_,hn,⟨vs,h1,h2⟩=>⟨vs,h1,AV (by assumption) h2⟩ | .pV _ x,_,hn,⟨v,h1,h2⟩=>⟨v,h1,Dy (by assumption) h2⟩ | .mp _,_,h,_=>by simp[yP] at h | .sh _,_,_,h=>h | .wV _ _ _ _ _,_,_,h=>h | .glob _,_,_,h=>h | .ev _,_,h,_=>by simp[yP] at h | .vw _ _,_,h,_=>by simp[yP] at h
theorem AV{H:Mem}{E E':Env}:∀{l:List SV} {vs:List Value},Cj l=aj->mW H E l vs->mW H E' l vs
 |[],[],_,_=>trivial |_::_,_::_,hn,⟨h1,h2⟩=>by
  simp only[Cj,al] at hn;exact ⟨Dy hn.1 h1,AV hn.2 h2⟩
 |[],_::_,_,h=>h.elim |_::_,[],_,h=>h.elim
end
theorem Yi{C:Ctx}{H:Mem}{E E':Env}:∀{s:List Fr} {ms:List Frame},ZE s=aj->vT C H E s ms->vT C H E' s ms
 |[],[],_,_=>trivial |f::s,m::ms,hn,⟨⟨fn,a,items,h1,h2,h3⟩,h4⟩=>by
  simp only[ZE,al] at hn;exact ⟨⟨fn,a,items,h1,AV hn.1 h2,h3⟩,Yi hn.2 h4⟩
 |[],_::_,_,h=>h.elim |_::_,[],_,h=>h.elim
theorem Gg{K:Kx}{H:Mem}{E:Env}{w:World}:mZ K H E w []:=⟨fun _ _ hl=>by simp[mG] at hl,fun _ _ _ _ _ hl=>by simp[mG] at hl⟩
section
variable{P:Program}{C:Ctx}{H H' H0:Mem}{E E':Env}{w w' w0:World}
def afO(P:Program)(gls:List (Nat×Sh))(g:Nat)(args:List SV)(R:Hp->Prop)(sv:SV)(R':Hp->Prop):Prop:=
 ∀(H:Mem) (E:Env) (w:World) (vs:List Value) (h:Hp),mW H E args vs->H.on w->qh gls H->R h->h.at H w->
  Calls P g vs.toArray w fun en w'=>∃v H' h',en=.returned v/\Den H' E sv v/\R' h'/\h'.at H' w'/\H.le H'/\rW ⟨w,fun b=>h b≠aq,H⟩ H' w'/\∀b,h' b≠aq->w.heap.size<=b\/h b≠aq
theorem abC{K:Kx}{g g2:Nat}{fn:Func}{td vS:List It}{c:Core}{stk:List Fr}{R R':Hp->Prop}{φ:Sh->Prop}{args:List SV}{sv:SV}{dst:Option Nat}(hfn:C.fns.get g=ae fn)
  (hp:afN fn td c=ae (g2,args,dst,vS)) (hen:Enters P g2) (hn:c.hp=[]/\Cj c.tm=aj/\ZE stk=aj) (hcall:afO P C.gls g2 args R sv R') (hgo:nX P C K g vS {c with tm:=IB c.tm dst sv} stk R' φ):nX P C K g td c stk R φ:=by
 intro H E1 w a items ms cs fn' hfn' st hi hs hx;rw[hfn] at hfn';cases hfn';let E:Env:=CO
 have st:St C K H E w c a:=⟨AV hn.2.1 st.den,by grind [Gg],st.oQ,fun _ _ _=>rfl,st.gl,st.defers⟩;have hs:vT C H E stk ms:=Yi hn.2.2 hs;have hx:Fv R K H E w:=let ⟨h,h1,h2⟩:=hx;⟨h,h1,fun b o e=>⟨(h2 b o e).1,(h2 b o e).2.1,fun i hi=>by grind [CO,bk],(h2 b o e).2.2.2⟩⟩;unfold afN at hp;split at hp;rotate_left
 ·cases hp
 rename_i p i rest k;split at hp;rotate_left
 ·cases hp
 rename_i rid ops dr hcode;split at hp;rotate_left
 ·cases hp
 rename_i o ho;split at hp;rotate_left
 ·cases hp
 rename_i hwant;split at hp;rotate_left
 ·cases hp
 rename_i kk hop;split at hp;rotate_left
 ·cases hp
 rename_i f afJ;split at hp;rotate_left
 ·cases hp
 rename_i g3 caps hev;cases hp;cases hi with
 |reg p l id ops2 hc hk=>
  rw[hc] at hcode;cases hcode;rename_i k';have df:=nU (H:=H) (E:=E) st.den f;rw[hev] at df;obtain ⟨vs,ef,hvs⟩:=df;have hargs:=(DZ st.den kk.args.toList).append hvs;have ho':ops[i]?=ae o:=by grind [opAt]
  have hw':=wX (ops:=ops) st.den o;rw[hwant] at hw';have hrun:(execOp a.eval o).run P w=.ok (.enter g2 (kk.args.map a.eval++vs)) w:=by
   simp_all [execOp,resolve,cY,invoke,xG]
  have hg:=stepG_op (P:=P) (b:=base g) (k:=k') (cs:=ms++cs) (w:=w) (rest:=rest) ho' hw';have henter:step P (lone ((base g).at a (.inRegion ops (i::rest)::k')) (ms++cs) w)=.next (lone (bY P g2 (kk.args.map a.eval++vs) .normal) ((base g).at a (.inRegion ops (i::rest)::k')::(ms++cs)) w):=
   step_lone_go (by simp_all [b5,Frame.at])
  obtain ⟨h,hR,hb⟩:=hx;have hcl:=hcall H E w _ h hargs st.oQ.on st.gl hR fun b o e=>⟨(hb b o e).1,(hb b o e).2.1⟩;have arv:(kk.args.toList.map a.eval++vs.toList).toArray=kk.args.map a.eval++vs:=by
   simp
  rw[arv] at hcl;obtain ⟨en,w',F,⟨v,H',h',rfl,dv,hR',hat',hH,OU,ao1⟩,q1,q2,q3⟩:=hcl ((base g).at a (.inRegion ops (i::rest)::k')::(ms++cs));have hleave:step P (lone F ((base g).at a (.inRegion ops (i::rest)::k')::(ms++cs)) w')=.next (lone ((base g).at (a.put o.dst v) (.inRegion ops rest::k')) (ms++cs) w'):=by
   rw[step_leave_returned q3,eA];simp[ho']
  have hno:∀{i:Nat} {b:Nat},bk E i=ae b->h b=aq:=fun {i b} hi=>by
   cases hx:h b with
   |none=>rfl |some o=>simp_all
  have hun:∀{b:Nat},H b=aq->b<w.heap.size->h b=aq->H' b=aq:=fun {b} h1 h2 h3=>by
   cases hx:H' b with
   |none=>rfl |some o=>
    (rcases OU.fresh b (by rw[hx];simp) with q|q|q)<;>grind
  have uZ:∀{b:Nat},h b≠aq->K.w0.heap.size<=b\/K.own b:=fun {b} hb'=>by
   cases hx:h b with
   |none=>simp_all |some o=>simp_all
  have hhp:mZ K H' E w' c.hp:=⟨fun id sb hl=>by
   have hent:=st.hp.ent id sb hl;exact hent.kept hH (fun _ _ e=>e) (fun b ho=>OU.kept b (hent.lt ho).1 (by have:=hno (wz ho);simp[this])) fun b ho=>hun (hent.lt ho).2.1 (hent.lt ho).1 (hno (wz ho)),st.hp.vO⟩
  have hW:rW K H' w':=⟨OU.os.trans st.oQ.os,OU.tape.trans st.oQ.tape,OU.output.trans st.oQ.output,co st.oQ.size OU.size,fun b hb1 hn=>by
   rw[OU.kept b (da hb1 st.oQ.size) fun hq=>by grind]
   exact st.oQ.kept b hb1 hn,OU.on,fun b o e=>hH b o (st.oQ.le b o e),fun b hb1=>by
    rcases OU.fresh b hb1 with q|q|q
    ·exact st.oQ.fresh b q
    ·exact .inr (.inl (co st.oQ.size q))
    simp_all⟩
  have XC:St C K H' E w' {c with tm:=IB c.tm o.dst sv} (a.put o.dst v):=
   ⟨zU (c:=c) (st.den.le hH fun _ _ e=>e) _ dv,hhp,hW,st.free,st.gl.le hH,by rw[put_defers];exact st.defers⟩
  have hx3:Fv R' K H' E w':=by
   refine ⟨h',hR',fun b o e=>⟨(hat' b o e).1,(hat' b o e).2,fun i hi=>?_,?_⟩⟩
   ·grind [CO,bk]
   ·rcases ao1 b (by rw[e];simp) with q|q
    ·exact .inl (co st.oQ.size q)
    simp_all
  obtain ⟨a2,w2,v2,s,H2,Vp,fn0,r1,r2,r3⟩:=hgo H' E w' _ _ ms cs fn hfn XC (.reg p rest _ ops hc hk) (hs.le hH fun _ _ e=>e) hx3;exact ⟨a2,w2,v2,s,H2,Vp,fn0,r1,(Steps.head henter (q1.trans (.one hleave))).trans r2,r3⟩
def Vy(i:Nat)(u:Value)(x:SV):SV:=match x with
 | .ptr j 0=>bif j==i then .val u else .any |_=>bif yP x then x else .any
theorem aea{E':Env}{i:Nat}{b:Nat}(he:E i=ae (.pointer (ae ⟨b,0,aq⟩))){x:SV}{v:Value}(h:Den H E x v):Den H E' (Vy i (.pointer (ae ⟨b,0,aq⟩)) x) v:=by
 unfold Vy;split
 ·rename_i j
  cases hj:(j==i)<;>simp only[cond_true,cond_false]
  ·trivial
  ·obtain ⟨b',h1,h2⟩:=h
   obtain rfl:j=i:=by grind
   rw[he] at h1;simp[mY] at h1;subst h1;exact ⟨h2,rfl⟩
 ·cases hn:yP x<;>simp only[cond_true,cond_false]
  ·trivial
  ·exact Dy hn h
theorem Jm{E':Env}{i:Nat}{b:Nat}(he:E i=ae (.pointer (ae ⟨b,0,aq⟩))):∀{l:List SV} {vs:List Value},mW H E l vs->mW H E' (l.map (Vy i (.pointer (ae ⟨b,0,aq⟩)))) vs
 |[],[],_=>trivial |_::_,_::_,⟨h1,h2⟩=>⟨aea he h1,Jm he h2⟩ |[],_::_,h=>h.elim |_::_,[],h=>h.elim
def OV(i:Nat)(u:Value):List Fr->List Fr
 |[]=>[] |f::s=>{f with tm:=f.tm.map (Vy i u)}::OV i u s
theorem Vz{E':Env}{i:Nat}{b:Nat}(he:E i=ae (.pointer (ae ⟨b,0,aq⟩))):∀{s:List Fr} {ms:List Frame},vT C H E s ms->vT C H E' (OV i (.pointer (ae ⟨b,0,aq⟩)) s) ms
 |[],[],_=>trivial |_::_,_::_,⟨⟨fn,a,items,h1,h2,h3⟩,h4⟩=>⟨⟨fn,a,items,h1,Jm he h2,h3⟩,Vz he h4⟩ |[],_::_,h=>h.elim |_::_,[],h=>h.elim
theorem SE{i:Nat}{u:Value}:∀{s:List Fr} {g:Nat},IE g (OV i u s)=IE g s
 |[],_=>rfl |f::s,_=>by simp only[OV,IE];exact SE
def OW(E:Env)(w:World)(hp:List (Nat×SB)):Hp->Prop:=fun h=>(∀b o,h b=ae o->w.heap[b]?=ae o)/\∀b,(∃id sb,mG hp id=ae sb/\nN E id sb=ae b)↔h b≠aq
theorem aeb{K:Kx}{hp:List (Nat×SB)}(hh:mZ K H E w hp):∃h,OW E w hp h:=by
 classical
 refine ⟨fun b=>if ∃id sb,mG hp id=ae sb/\nN E id sb=ae b then w.heap[b]? else aq,fun b o e=>?_,fun b=>⟨fun hq=>?_,fun hq=>?_⟩⟩
 ·simp_all
 ·have:=hq
  obtain ⟨id,sb,h1,h2⟩:=hq;have hlt:=((hh.ent _ _ h1).lt h2).1;simp_all
 grind
theorem SH{K:Kx}{g i0:Nat}{td:List It}{c:Core}{stk:List Fr}{R:Hp->Prop}{R':Nat->Hp->Prop}{φ:Sh->Prop}(q:Nat->Bool)
  (hR:∀H E w h,H.on w->mZ K H E w (dropKey q c.hp)->OW E w (dropKey q c.hp) h->∃b,E i0=ae (.pointer (ae ⟨b,0,aq⟩))/\R' b h)
  (hgo:∀b,nX P C K g td {tm:=c.tm.map (Vy i0 (.pointer (ae ⟨b,0,aq⟩))),hp:=[],nx:=0,lim:=c.lim,tc:=[]} (OV i0 (.pointer (ae ⟨b,0,aq⟩)) stk) (R' b) φ):nX P C K g td c stk R φ:=by
 intro H E w a items ms cs fn' hfn' st hi hs hx;have hd:=ZA q st.hp;obtain ⟨h,hh⟩:=aeb hd;obtain ⟨b,he,hR'⟩:=hR H E w h st.oQ.on hd hh;have:=hgo b H CO w a items ms cs fn' hfn' ⟨Jm he st.den,Gg,st.oQ,fun _ _ _=>rfl,st.gl,st.defers⟩ hi (Vz he hs) ⟨h,hR',fun b' o e=>by
  obtain ⟨id,sb,h1,h2⟩:=(hh.2 b').2 (by rw[e];simp);have:=((hd.ent _ _ h1).lt h2).2;exact ⟨hh.1 b' o e,this.1,fun i hi=>by simp[CO,bk] at hi,this.2⟩⟩
 simp_all [SE]
theorem abD{x y:SV}:∀{l:List SV} {vs:List Value} {i:Nat},l[i]?=ae x->(∀v,Den H E x v->Den H E y v)->mW H E l vs->mW H E (l.set i y) vs
 |[],_,_,h,_,_=>by simp at h |_::_,[],_,_,_,h=>h.elim |_::_,_::_,0,h,hf,⟨h1,h2⟩=>by
  simp at h;subst h;exact ⟨hf _ h1,h2⟩
 |_::_,_::_,i+1,h,hf,⟨h1,h2⟩=>⟨h1,abD (by simpa using h) hf h2⟩
def Mem.with(H:Mem)(h:Hp):Mem:=fun b=>match h b with|some o=>ae o|none=>H b
theorem abE{K:Kx}{g:Nat}{td:List It}{c:Core}{stk:List Fr}{R:Hp->Prop}{φ:Sh->Prop}{u:Value}{X:Type}{y:X->SV}(hR:∀H E h w,R h->H.on w->h.at H w->∃x,Den (H.with h) E (y x) u)
  {i:Nat} (hi:c.tm[i]?=ae (.val u)) (hgo:∀x,nX P C K g td {c with tm:=c.tm.set i (y x)} stk emp φ):nX P C K g td c stk R φ:=by
 intro H E w a items ms cs fn' hfn' st hit hs ⟨h,hR',hb⟩;have hat:h.at H w:=fun b o e=>⟨(hb b o e).1,(hb b o e).2.1⟩;have hle:H.le (H.with h):=fun b o e=>by
  grind [Mem.with]
 have hw:rW K (H.with h) w:=⟨st.oQ.os,st.oQ.tape,st.oQ.output,st.oQ.size,st.oQ.kept,fun b o e=>by
  unfold Mem.with at e;cases hx:h b with
  |none=>rw[hx] at e;exact st.oQ.on b o e |some o'=>simp_all,fun b o e=>hle b o (st.oQ.le b o e),fun b hb1=>by
  unfold Mem.with at hb1;cases hx:h b with
  |none=>rw[hx] at hb1;exact st.oQ.fresh b hb1 |some o'=>simp_all⟩
 have hhp:mZ K (H.with h) E w c.hp:=⟨fun id sb hl=>(st.hp.ent id sb hl).kept hle (fun _ _ e=>e) (fun _ _=>rfl) fun b ho=>by
  unfold Mem.with;cases hx:h b with
  |none=>exact ((st.hp.ent id sb hl).lt ho).2.1 |some o=>exact ((hb b o hx).2.2.1 id (wz ho)).elim,st.hp.vO⟩
 obtain ⟨x,hx⟩:=hR H E h w hR' st.oQ.on hat;exact hgo x _ E w a items ms cs fn' hfn' ⟨abD hi (fun v hv=>by obtain ⟨rfl,_⟩:=hv;exact hx) (st.den.le hle fun _ _ e=>e),hhp,hw,st.free,st.gl.le hle,st.defers⟩ hit (hs.le hle fun _ _ e=>e) OM
inductive Fe3 where
 |ret (s:Sh)
 |raw (g:Nat) (td:List It) (c:Core) (stk:List Fr)
def aji:Vm->Tree Fe3
 | .fin v c=>match finish c v with
  |some s=>.leaf (.ret s) |none=>.fail
 | .stop g td c stk=>.leaf (.raw g td c stk)
def aok(C:Ctx)(hold:Nat->Bool)(m n g:Nat)(td:List It)(c:Core)(stk:List Fr):Tree Fe3:=(Sz C hold m n g td c stk).bind aji
def ao3(P:Program)(C:Ctx)(K:Kx)(R:Hp->Prop)(φ:Sh->Prop):Fe3->Prop
 | .ret s=>φ s | .raw g td c stk=>nX P C K g td c stk R φ
@[irreducible] def ZF (ψ:Fe3->Prop) (t:Tree Fe3):Prop:=t.All ψ
theorem VA(ψ:Fe3->Prop)(t:Tree Fe3):ZF ψ t=t.All ψ:=by unfold ZF;rfl
theorem abH(hC:oh P C)(hF:oH P C){hold:Nat->Bool}{m n g:Nat}{td:List It}{c:Core}{stk:List Fr}{R:Hp->Prop}{φ:Sh->Prop}
  (h:ZF (ao3 P C (K0 H0 w0) R φ) (aok C hold m n g td c stk)):nX P C (K0 H0 w0) g td c stk R φ:=by
 rw[VA] at h;refine AU hC hF (hold:=hold) (m:=m) (n:=n) ((bG h).mono fun o ho=>?_);cases o with
 |fin v c=>
  simp only[aji] at ho;split at ho
  ·rename_i s hs
   exact ⟨s,hs,ho⟩
  ·exact ho.elim
 |stop g td c stk=>exact ho
end
def afP:List (Nat×SB)->List Nat
 |[]=>[] |(_,.wK _ _ _ _ more)::l=>zM more++afP l |_::l=>afP l
def Jo(A:Prim)(hp:List (Nat×SB)):SB->SB
 | .wK e st n g more=>match xX hp more with
  |some l=>.own e st (A.addN n (more.length / st)) (A.snoc g n (nM (chunks st (more.length / st) l))) |none=>.wK e st n g more
 |sb=>sb
def OX(A:Prim)(hp:List (Nat×SB)):List (Nat×SB)->List (Nat×SB)
 |[]=>[] |(i,sb)::l=>(i,Jo A hp sb)::OX A hp l
def settle(A:Prim)(hp:List (Nat×SB)):Option (List (Nat×SB)):=(freeze hp (afP hp)).map fun hp=>OX A hp hp
section
variable{P:Program}{C:Ctx}{K:Kx}{H H' H0:Mem}{E E':Env}{w w' w0:World}
theorem Hq{A:Prim}{hp:List (Nat×SB)}{i:Nat}:∀{l:List (Nat×SB)},mG (OX A hp l) i=(mG l i).map (Jo A hp)
 |[]=>rfl |(j,sb)::l=>by
  simp only[OX,mG];cases h:j==i<;>simp only[cond_true,cond_false,Option.map_some]
  exact Hq
theorem Jp{hp:List (Nat×SB)}(hh:mZ K H E w hp){i:Nat}{sb:SB}(h:wo K H E w i sb):wo K H E w i (Jo mD hp sb)/\nN E i (Jo mD hp sb)=nN E i sb:=by
 unfold Jo;split
 ·rename_i e st n g more
  split
  ·rename_i l hl
   obtain ⟨v,xs,ys,he,h1,h2,h3,h4,h5,h6⟩:=h;refine ⟨⟨v,xs++ys,he,h1,?_,h6⟩,by simp[nN]⟩;have hlen:=h3.length;have hm:=Nat.div_add_mod more.length st;rw[h4,d9,Nat.mul_comm] at hm;exact UU h2 (zQ (show ys.length=more.length / st*st by rw[hm];exact hlen) (sG hh hl h3) (uF h5 h3))
  ·exact ⟨h,rfl⟩
 ·exact ⟨h,rfl⟩
theorem aec{hp hp':List (Nat×SB)}(h:settle mD hp=ae hp')(hh:mZ K H E w hp)(hw:rW K H w):∃H',H.le H'/\mZ K H' E w hp'/\rW K H' w:=by
 unfold settle at h;cases hf:freeze hp (afP hp) with
 |none=>rw[hf] at h;cases h |some hp1=>
  rw[hf] at h;cases h;obtain ⟨H',h1,h2,h3,_⟩:=DX hf hh hw;refine ⟨H',h1,⟨fun id sb hl=>?_,fun id id' sb sb' b l1 l2 o1 o2=>?_⟩,h3⟩
  ·rw[Hq] at hl
   cases hx:mG hp1 id with
   |none=>rw[hx] at hl;cases hl |some s0=>
    rw[hx] at hl;cases hl;exact (Jp h2 (h2.ent _ _ hx)).1
  ·rw[Hq] at l1 l2
   cases hx:mG hp1 id with
   |none=>rw[hx] at l1;cases l1 |some s0=>
    cases hy:mG hp1 id' with
    |none=>rw[hy] at l2;cases l2 |some s1=>
     rw[hx] at l1;rw[hy] at l2;cases l1;cases l2;rw[(Jp h2 (h2.ent _ _ hx)).2] at o1;rw[(Jp h2 (h2.ent _ _ hy)).2] at o2;exact h2.vO _ _ _ _ _ hx hy o1 o2
theorem XD{g:Nat}{td:List It}{c:Core}{stk:List Fr}{φ:Sh->Prop}{hp':List (Nat×SB)}(h:settle mD c.hp=ae hp')(hgo:nX P C K g td {c with hp:=hp'} stk emp φ):nX P C K g td c stk emp φ:=by
 intro H E w a items ms cs fn hfn st hi hs hx;obtain ⟨H',h1,h2,h3⟩:=aec h st.hp st.oQ;exact hgo H' E w a items ms cs fn hfn ⟨st.den.le h1 fun _ _ e=>e,h2,h3,st.free,st.gl.le h1,st.defers⟩ hi (hs.le h1 fun _ _ e=>e) OM
def aed(A:Prim)(ts:List Dh):Vm->Tree rQ
 | .fin v c=>match finish c v with
  |some s=>.leaf (.ret s) |none=>.fail
 | .stop g td c stk=>match settle A c.hp with
  |some hp=>OL g td {c with hp:=hp} stk 0 ts
  |none=>.fail
def aol(C:Ctx)(hold:Nat->Bool)(m n g:Nat)(td:List It)(c:Core)(stk:List Fr)(ts:List Dh):Tree rQ:=(Sz C hold m n g td c stk).bind (aed C.A ts)
theorem abI(hC:oh P C)(hF:oH P C){hold:Nat->Bool}{m n g:Nat}{td:List It}{c:Core}{stk:List Fr}{ts:List Dh}{φ:Sh->Prop}
  (h:(aol C hold m n g td c stk ts).All (yG P C (K0 H0 w0) ts emp φ)):nX P C (K0 H0 w0) g td c stk emp φ:=by
 refine AU hC hF (hold:=hold) (m:=m) (n:=n) ((bG h).mono fun o ho=>?_);cases o with
 |fin v c=>
  simp only[aed] at ho;split at ho
  ·rename_i s hs
   exact ⟨s,hs,ho⟩
  ·exact ho.elim
 |stop g td c stk=>
  simp only[aed,hC.A] at ho;split at ho
  ·rename_i hp hs
   exact XD hs (MO (k:=0) (fun j=>by simp) ho)
  ·exact ho.elim
end
def OY(g:Nat)(td:List It)(c:Core)(stk:List Fr):Nat->List Dh->Tree rQ
 |_,[]=>.fail |k,t::r=>bif g==t.g&&zi td t.td&&Jl stk t.stk then match uq (qC (t.rn c stk) c t.c) (Vq c.hp (t.rn c stk) stk t.stk) with
   |some l=>.leaf (.at_ k l) |none=>OY g td c stk (k+1) r
  else OY g td c stk (k+1) r
def ajj(ts:List Dh):Vm->Tree rQ
 | .fin v c=>match finish c v with
  |some s=>.leaf (.ret s) |none=>.fail
 | .stop g td c stk=>OY g td c stk 0 ts
section
variable{P:Program}{C:Ctx}{K:Kx}{H0:Mem}{w0:World}
theorem MP{R:Hp->Prop}{φ:Sh->Prop}{ts:List Dh}{g:Nat}{td:List It}{c:Core}{stk:List Fr}:∀{r:List Dh} {k:Nat},(∀j,r[j]?=ts[k+j]?)->(OY g td c stk k r).All (yG P C K ts R φ)->nX P C K g td c stk R φ
 |[],_,_,h=>h.elim |t::r,k,hk,h=>by
  have hr:∀j,r[j]?=ts[k+1+j]?:=fun j=>by have:=hk (j+1);grind
  unfold OY at h;cases hb:(g==t.g&&zi td t.td&&Jl stk t.stk)<;>simp only[hb,cond_true,cond_false] at h
  ·exact MP hr h
  ·simp only[al,beq_iff_eq] at hb
   obtain ⟨⟨h1,h2⟩,h3⟩:=hb;split at h
   ·rename_i l hl
    obtain ⟨a,b,q1,q2,rfl⟩:=oK hl;obtain ⟨hl,t',ht,hg⟩:=h;have:=hk 0;simp only[dY,d9] at this;rw[<-this] at ht;cases ht;have h2:=Dx h2;subst h1 h2;exact SA (t.rn c stk) (ad7 q1 (bE hl).1) (Vs q2 (bE hl).2) hg
   ·exact MP hr h
end
def Yj(C:Ctx)(pause:Nat->List It->Bool)(hold:Nat->Bool)(m:Nat):Nat->Nat->List It->Core->List Fr->Tree Vm
 |0,g,td,c,stk=>.leaf (.stop g td c stk) |n+1,g,td,c,stk=>match C.fns.get g with
  |none=>.fail |some fn=>bif pause g td||holdB hold fn td c then .leaf (.stop g td c stk) else match Hf C fn td c with
   |some r=>Yj C pause hold m n r.1 [.code []] {c with tm:=r.2.2++bp (r.2.1.ntmps - r.2.2.length) .any} ({g,td,tm:=c.tm}::stk)
   |none=>(Ja C (Dt C (run C m ag)) aj g fn td c).bind fun s=>match s with
    | .go td c=>Yj C pause hold m n g td c stk | .halt td c=>.leaf (.stop g td c stk) | .done v c=>match stk with
     |[]=>.leaf (.fin v c) |f::stk=>match Jk C f v c with
      |some r=>Yj C pause hold m n f.g r.1 r.2 stk |none=>.fail
section
variable{P:Program}{C:Ctx}{K:Kx}{H H' Fj H0:Mem}{E E' Fp E1:Env}{w w' w'' w0:World}
theorem EK(hC:oh P C)(hF:oH P C){pause:Nat->List It->Bool}{hold:Nat->Bool}{m:Nat}{R:Hp->Prop}{φ:Sh->Prop}:∀{n g:Nat} {td:List It} {c:Core} {stk:List Fr},(Yj C pause hold m n g td c stk).All (afI P C (K0 H0 w0) R φ)->nX P C (K0 H0 w0) g td c stk R φ
 |0,g,td,c,stk,h=>h |n+1,g,td,c,stk,h=>by
  intro H E w a items ms cs fn hfn st hi hs hx;simp only[Yj,hfn] at h;cases ad8:(pause g td||holdB hold fn td c)<;>simp only[ad8,cond_true,cond_false] at h
  rotate_left
  ·exact h H E w a items ms cs fn hfn st hi hs hx
  split at h
  ·
   rename_i r hr;unfold Hf at hr;split at hr
   ·rename_i p i rest k
    split at hr
    ·rename_i rid ops dr hcode
     split at hr
     ·rename_i o ho
      split at hr
      ·rename_i hwant
       split at hr
       ·rename_i kk hop
        split at hr
        ·rename_i f afJ
         split at hr
         ·rename_i g2 caps hev
          split at hr
          ·cases hr
          ·rename_i hspec
           split at hr
           ·rename_i uO hfn2
            cases hb:(cm (kk.args.toList.map (oz c.tm)++caps).length uO.ntmps&&uO.body.isSome)<;>simp only[hb,cond_true,cond_false] at hr
            ·cases hr
            cases hr;simp only[al] at hb;obtain ⟨body2,Hg⟩:=bJ.1 hb.2;have ih:=EK hC hF h;have hP2:=hC.fn g2 uO hfn2;cases hi with
            |reg p l id ops2 hc hk=>
             rw[hc] at hcode;cases hcode;rename_i k';have df:=nU (H:=H) (E:=E) st.den f;rw[hev] at df;obtain ⟨vs,ef,hvs⟩:=df;have hargs:=(DZ st.den kk.args.toList).append hvs;have ho':ops[i]?=ae o:=by grind [opAt]
             have hw':=wX (ops:=ops) st.den o;rw[hwant] at hw';have hent:=hF.en g2 (.inr (by grind));have hrun:(execOp a.eval o).run P w=.ok (.enter g2 (kk.args.map a.eval++vs)) w:=by
              simp_all [execOp,resolve,cY,invoke,xG]
             have hg:=stepG_op (P:=P) (b:=base g) (k:=k') (cs:=ms++cs) (w:=w) (rest:=rest) ho' hw';have henter:step P (lone ((base g).at a (.inRegion ops (i::rest)::k')) (ms++cs) w)=.next (lone (bY P g2 (kk.args.map a.eval++vs) .normal) ((base g).at a (.inRegion ops (i::rest)::k')::(ms++cs)) w):=
              step_lone_go (by simp_all [b5,Frame.at])
             rw[BJ hP2 Hg] at henter;have hl:=hargs.length;have hlen:(kk.args.map a.eval++vs).size=(kk.args.toList.map (oz c.tm)++caps).length:=by
              simp_all
             have st2:St C (K0 H0 w0) H E w {c with tm:=(kk.args.toList.map (oz c.tm)++caps)++bp (uO.ntmps - (kk.args.toList.map (oz c.tm)++caps).length) .any} {tmps:=(kk.args.map a.eval++vs)++bw (uO.ntmps - (kk.args.map a.eval++vs).size) undef,defers:=[]}:=by
              refine ⟨?_,st.hp,st.oQ,st.free,st.gl,rfl⟩;have:((kk.args.map a.eval++vs)++bw (uO.ntmps - (kk.args.map a.eval++vs).size) undef).toList=(kk.args.toList.map a.eval++vs.toList)++bp (uO.ntmps - (kk.args.toList.map (oz c.tm)++caps).length) undef:=by
               rw[hlen];simp
              simp only[this];exact hargs.append (ig _ _ (by simp))
             have hit2:pq (mX uO) [.code []] [.code body2]:=by
              have:=cg (body:=mX uO) [] gT;simp_all [nP,mX]
             have hs2:vT C H E ({g,td:=.reg p (i::rest)::k,tm:=c.tm}::stk) ((base g).at a (.inRegion ops (i::rest)::k')::ms):=
              ⟨⟨fn,a,_,hfn,st.den,st.defers,.reg p (i::rest) _ ops hc hk,rfl⟩,hs⟩
             obtain ⟨a',w',v,s,H',todo,fn0,q1,q2,q3⟩:=ih H E w _ _ (_::ms) cs uO hfn2 st2 hit2 hs2 hx;exact ⟨a',w',v,s,H',todo,fn0,q1,.head henter q2,q3⟩
           ·cases hr
         ·cases hr
        ·cases hr
       ·cases hr
      ·cases hr
     ·cases hr
    ·cases hr
   ·cases hr
  ·have hK:=Kw (K:=IU H E w c.hp) hC hF (Ky hC hF m)
   obtain ⟨sig,h1,h2⟩:=Qu hC hF hK (bG h) st.re hi (base g) (ms++cs);cases sig with
   |go vS c'=>
    obtain ⟨a',w',H',E',items',q1,q2,q3,q4⟩:=h2;obtain ⟨a2,w2,v,s,H2,todo,fn0,r1,r2,r3⟩:=EK hC hF h1 H' E' w' a' items' ms cs fn hfn (st.un q2) q4 (hs.le q3.yF q3.Dc) (hx.keep st q2 q3);exact ⟨a2,w2,v,s,H2,todo,fn0,r1,q1.trans r2,r3⟩
   |halt vS c'=>
    obtain ⟨a',w',H',E',items',q1,q2,q3,q4⟩:=h2;obtain ⟨a2,w2,v,s,H2,todo,fn0,r1,r2,r3⟩:=h1 H' E' w' a' items' ms cs fn hfn (st.un q2) q4 (hs.le q3.yF q3.Dc) (hx.keep st q2 q3);exact ⟨a2,w2,v,s,H2,todo,fn0,r1,q1.trans r2,r3⟩
   |done sv c'=>
    obtain ⟨a',w',H',E',v,todo,q1,q2,q3,q4,q5⟩:=h2;cases stk with
    |nil=>
     cases ms with
     |cons _ _=>exact hs.elim |nil=>
      obtain ⟨s,e1,e2⟩:=h1;obtain ⟨H2,r⟩:=G9 (st.un q2) e1 q4;exact ⟨a',w',v,s,H2,todo,fn,hfn,q1,q2.defers,e2,r,q5⟩
    |cons f stk=>
     cases ms with
     |nil=>exact hs.elim |cons mf ms=>
      simp only at h1;split at h1
      ·rename_i r hr
       unfold Jk at hr;split at hr
       ·rename_i Fz abx
        split at hr
        ·rename_i p i rest k htd
         split at hr
         ·rename_i rid ops dr hcode
          cases hr;obtain ⟨⟨fn3,a3,afK,g1,g2,g3,g4,g5⟩,hs'⟩:=hs.le q3.yF q3.Dc;rw[abx] at g1;cases g1;rw[htd] at g4;cases g4 with
          |reg p l id ops2 hc hk=>
           rw[hc] at hcode;cases hcode;rename_i k';subst g5;have hleave:step P (lone {(base g).at a' todo with mode:=.returning} ((base f.g).at a3 (.inRegion ops (i::rest)::k')::(ms++cs)) w')=.next (lone ((base f.g).at (a3.put ((opAt ops.toList i).bind (·.dst)) v) (.inRegion ops rest::k')) (ms++cs) w'):=by
            rw[step_leave_returned (v:=v) ⟨rfl,q2.defers,rfl,fn,hC.fn g fn hfn,q5⟩,eA];simp[opAt]
           have XC:St C (K0 H0 w0) H' E' w' {c' with tm:=IB f.tm ((opAt ops.toList i).bind (·.dst)) sv} (a3.put ((opAt ops.toList i).bind (·.dst)) v):=
            ⟨zU (c:={c' with tm:=f.tm}) g2 _ q4,(st.un q2).hp,(st.un q2).oQ,q2.free,q2.gl,by rw[put_defers];exact g3⟩
           obtain ⟨a2,w2,v2,s,H2,Vp,fn0,r1,r2,r3⟩:=EK hC hF h1 H' E' w' _ _ ms cs Fz abx XC (.reg p rest _ ops hc hk) hs' (hx.keep st q2 q3);exact ⟨a2,w2,v2,s,H2,Vp,fn0,r1,(q1.trans (.one hleave)).trans r2,r3⟩
         ·cases hr
        ·cases hr
       ·cases hr
      ·exact h1.elim
def aom(C:Ctx)(pause:Nat->List It->Bool)(m n g:Nat)(td:List It)(c:Core)(stk:List Fr)(ts:List Dh):Tree rQ:=(Yj C pause (fun _=>ag) m n g td c stk).bind (ajj ts)
theorem abJ(hC:oh P C)(hF:oH P C){pause:Nat->List It->Bool}{m n g:Nat}{td:List It}{c:Core}{stk:List Fr}{ts:List Dh}{φ:Sh->Prop}{R:Hp->Prop}
  (h:(aom C pause m n g td c stk ts).All (yG P C (K0 H0 w0) ts R φ)):nX P C (K0 H0 w0) g td c stk R φ:=by
 refine EK hC hF (pause:=pause) (hold:=fun _=>ag) (m:=m) (n:=n) ((bG h).mono fun o ho=>?_);cases o with
 |fin v c=>
  simp only[ajj] at ho;split at ho
  ·rename_i s hs
   exact ⟨s,hs,ho⟩
  ·exact ho.elim
 |stop g td c stk=>exact MP (k:=0) (fun j=>by simp) ho
end
def o9(b:Frame)(a:Act)(todo:List Item):Frame:=
 {fn:=b.fn,tmps:=a.tmps,todo,defers:=a.defers++b.defers,mode:=.run,kind:=b.kind,roundOf:=b.roundOf}
def Jq(b:Frame)(a:Act):Act:={a with defers:=a.defers++b.defers}
theorem AX(b:Frame)(a:Act)(todo:List Item):o9 b a todo=b.atR (Jq b a) todo:=rfl
theorem Hr(b:Frame)(a:Act):(Jq b a).eval=a.eval:=funext fun x=>by rfl
theorem Yk(b:Frame)(a:Act)(d:Option Nat)(v:Value):(Jq b a).put d v=Jq b (a.put d v):=by cases d<;>rfl
def bq(g:Nat)(r:Option Nat)(ds:List Deferred):Frame:={(default:Frame) with fn:=g,kind:=.normal,roundOf:=r,defers:=ds}
theorem KC(g:Nat)(a:Act)(todo:List Item):o9 (bq g aq []) a todo=(base g).at a todo:=by simp[o9,Frame.at,bq,base]
theorem Jr(b:Frame)(a:Act)(ops:Array Oper)(i:Nat)(rest:List Nat)(k:List Item)(v:Value):
  (o9 b a (.inRegion ops (i::rest)::k)).finish v=o9 b (a.put ((ops[i]?).bind (·.dst)) v) (.inRegion ops rest::k):=by
 grind [AX,Frame.finish_atR,Yk]
section moves
variable{P:Program}{b:Frame}{a:Act}{k:List Item}{cs:List Frame}{w:World}{ops:Array Oper}
theorem ajk:step P (lone (o9 b a (.code .skip::k)) cs w)=.next (lone (o9 b a k) cs w):=by rfl
theorem abK{id:Nat}:step P (lone (o9 b a (.inBlock id::k)) cs w)=.next (lone (o9 b a k) cs w):=by rfl
theorem am5{x y:Code}:step P (lone (o9 b a (.code (.seq x y)::k)) cs w)=.next (lone (o9 b a (.code x::.code y::k)) cs w):=by rfl
theorem ajl{c:Operand}{x y:Code}{t:Bool}(h:a.eval c=.bool t):step P (lone (o9 b a (.code (.cond c x y)::k)) cs w)=.next (lone (o9 b a (.code (if t then x else y)::k)) cs w):=by
 simp_all [AX,stepR_cond,Hr]
theorem ahd{id:Nat}{c:Code}:step P (lone (o9 b a (.code (.block id c)::k)) cs w)=.next (lone (o9 b a (.code c::.inBlock id::k)) cs w):=by rfl
theorem abL{c:Code}:step P (lone (o9 b a (.code (.loop c)::k)) cs w)=.next (lone (o9 b a (.code c::.inLoop c::k)) cs w):=by rfl
theorem VB{c:Code}:step P (lone (o9 b a (.inLoop c::k)) cs w)=.next (lone (o9 b a (.code c::.inLoop c::k)) cs w):=by rfl
theorem ajm{id:Nat}{k':List Item}(h:exitTo id k=ae k'):step P (lone (o9 b a (.code (.exit id)::k)) cs w)=.next (lone (o9 b a k') cs w):=by simp_all [AX,stepR_exit]
theorem am6(hb:b.roundOf=aq):step P (lone (o9 b a (.code .ret::k)) cs w)=.next (lone {o9 b a (.code .ret::k) with mode:=.returning} cs w):=by rw[AX];exact stepR_ret hb
theorem am7(hb:b.roundOf=aq):step P (lone (o9 b a []) cs w)=.next (lone {o9 b a [] with mode:=.returning} cs w):=by rw[AX];exact stepR_end hb
theorem aee{id:Nat}:step P (lone (o9 b a (.code (.region id ops ag)::k)) cs w)=.next (lone (o9 b a (.inRegion ops (aE ops.size)::k)) cs w):=by rfl
theorem Js:step P (lone (o9 b a (.inRegion ops []::k)) cs w)=.next (lone (o9 b a k) cs w):=by rfl
theorem TI{id:Nat}:step P (lone (o9 b a (.code (.region id ops aj)::k)) cs w) =
   .next (lone (o9 b a (.inRegion ops (fL (P.follows .mixedOrders) ops (w.tape w.drawn (.order b.fn id)))::k)) cs {w with drawn:=w.drawn+1}):=by rfl
end moves
def aef:Op->Bool
 | .defer _=>ag |_=>aj
def rY:Code->Bool
 | .seq a b=>rY a&&rY b | .cond _ a b=>rY a&&rY b | .block _ b=>rY b | .loop b=>rY b | .rangeFunc _ _ a b=>rY a&&rY b | .region _ ops _=>ops.toList.all fun o=>aef o.op |_=>aj
theorem VD{c:Code}(h:rY c=aj)(i:Nat):rY (child c i)=aj:=by
 unfold child;grind [rY]
theorem Jt{c:Code}(h:rY c=aj):∀p:List Nat,rY (nP c p)=aj
 |[]=>h |i::p=>VD (Jt h p) i
theorem OZ{id:Nat}{ops:Array Oper}{dr:Bool}(h:rY (.region id ops dr)=aj){i:Nat}{o:Oper}(ho:ops[i]?=ae o):∀c,o.op≠.defer c:=by
 intro c hc;simp only[rY] at h;have hm:o∈ops.toList:=by
  grind
 have:=be.1 h o hm;rw[hc] at this;cases this
section
variable{P:Program}{C:Ctx}{K:Kx}{H H' Fj:Mem}{E E' Fp:Env}{w w' w'':World}
theorem abM{ops:Array Oper}{i:Nat}{rest:List Nat}{Q:Exit->Act->World->Prop}{next:Act->World->Prop}{a:Act}(hnd:∀o,ops[i]?=ae o->∀c,o.op≠.defer c)(hQ:∀e a w,Q e a w->e=.normal)
  (h:wpOp P ops Q i next a w) (b:Frame) (k:List Item) (cs:List Frame) :
  ∃a' w',next a' w'/\Steps P (lone (o9 b a (.inRegion ops (i::rest)::k)) cs w) (lone (o9 b a' (.inRegion ops rest::k)) cs w'):=by
 unfold wpOp at h;cases ho:ops[i]? with
 |none=>
  simp only[ho] at h;have hs:=stepR_op_skip (P:=P) (b:=b) (a:=Jq b a) (k:=k) (cs:=cs) (w:=w) (ops:=ops) (i:=i) (rest:=rest) (by simp[ho]);simp only[ho,Option.bind_none,Act.put] at hs;exact ⟨a,w,h,.one hs⟩
 |some o=>
  simp only[ho] at h;by_cases hw:Region.wanted o (yielded ops a.tmps)=aj
  ·simp only[hw,if_true] at h
   rcases h with h|⟨_,_,_,hq⟩
   case inr=>grind
   simp only[Oper.wp] at h;have hg:=stepGR_op (P:=P) (b:=b) (a:=Jq b a) (k:=k) (cs:=cs) (w:=w) (rest:=rest) ho hw;rw[Oper.semAt_eq _ _ _ (hnd o ho),Hr,<-AX] at hg;have hfin:∀v,(o9 b a (.inRegion ops (i::rest)::k)).finish v=o9 b (a.put o.dst v) (.inRegion ops rest::k):=by
    simp_all [Jr]
   generalize hr:(execOp a.eval o).run P w=r at h;cases r with
   |ok n w'=>
    cases n<;>simp only[ku] at h
    case value v=>
     refine ⟨_,_,h,.one (step_lone_go ?_)⟩;simp_all [b5]
    case skip=>
     refine ⟨_,_,h,.one (step_lone_go ?_)⟩;simp_all [b5]
    case defer d=>
     refine ⟨_,_,h,.one (step_lone_go ?_)⟩;have:({o9 b a (.inRegion ops (i::rest)::k) with defers:=d::(a.defers++b.defers)}:Frame).finish undef =
       o9 b ({a with defers:=d::a.defers}.put o.dst undef) (.inRegion ops rest::k):=by
      have:=Jr b {a with defers:=d::a.defers} ops i rest k undef
      rw[ho] at this;exact this
     rw[hg];simp only[b5,Sem.runT_eq,hr,GStep.bare_after];exact congrArg (fun fr=>GStep.go {frame:=fr,callers:=cs,status:=.running,dying:=aq} w') this
    case enter f args=>
     obtain ⟨e,w'',fr,hR,hsteps,_,hleave⟩:=h (o9 b a (.inRegion ops (i::rest)::k)::cs);have henter:step P (lone (o9 b a (.inRegion ops (i::rest)::k)) cs w) =
       .next (lone (bY P f args .normal) (o9 b a (.inRegion ops (i::rest)::k)::cs) w'):=
      step_lone_go (by simp_all [b5,o9])
     cases e with
     |returned v=>
      refine ⟨_,_,hR,.head henter (hsteps.trans (.one ?_))⟩;grind [step_leave_returned]
     |panicked chain=>grind |outgrown=>obtain ⟨_,_,hq⟩:=hR;grind
    case row row args=>
     obtain ⟨v,w'',hR,hsteps⟩:=h (o9 b a (.inRegion ops (i::rest)::k)) cs;have henter:step P (lone (o9 b a (.inRegion ops (i::rest)::k)) cs w) =
       .next (lone (Frame.ofRow P row args .normal) (o9 b a (.inRegion ops (i::rest)::k)::cs) w'):=
      step_lone_go (by simp_all [b5,o9])
     refine ⟨_,_,hR,.head henter ?_⟩;simp_all
    all_goals first|exact h.elim|cases hQ _ _ _ h
   |halt x w'=>
    cases x<;>simp only[ku] at h
    grind
  ·simp only[hw,if_false,Bool.false_eq_true] at h
   have hs:=stepR_op_skip (P:=P) (b:=b) (a:=Jq b a) (k:=k) (cs:=cs) (w:=w) (ops:=ops) (i:=i) (rest:=rest)
    (by simp_all [Jq])
   simp only[ho,Option.bind_some] at hs;rw[Yk] at hs;exact ⟨_,_,h,.one hs⟩
theorem abN{ops:Array Oper}{Q:Exit->Act->World->Prop}(hnd:∀(i:Nat) (o:Oper),ops[i]?=ae o->∀c,o.op≠.defer c)(hQ:∀e a w,Q e a w->e=.normal)(b:Frame)(k:List Item)(cs:List Frame):∀(l:List Nat) (a:Act) (w:World),wpOps P ops Q l a w->
  ∃a' w',Q .normal a' w'/\Steps P (lone (o9 b a (.inRegion ops l::k)) cs w) (lone (o9 b a' k) cs w')
 |[],a,w,h=>⟨a,w,h,.one Js⟩ |i::l,a,w,h=>by
  rw[wpOps_cons] at h;obtain ⟨a1,w1,h1,h2⟩:=abM (hnd i) hQ h b k cs;obtain ⟨a2,w2,h3,h4⟩:=abN hnd hQ b k cs l a1 w1 h1;exact ⟨a2,w2,h3,h2.trans h4⟩
theorem am8{call:Nat->List SV->Core->Tree (SV×Core)}(hC:oh P C)(hF:oH P C)(hK:xw P C K call){c:Core}{a:Act}{φ:Core->Prop}{ops:Array Oper}{id:Nat}(hnd:∀(i:Nat) (o:Oper),ops[i]?=ae o->∀c,o.op≠.defer c)
  (st:St C K H E w c a) {g:Nat} (h:(drawn C call g ops c).All φ) (b:Frame) (k:List Item) (cs:List Frame) :
  ∃c' a' H' E' w',φ c'/\St C K H' E' w' c' a'/\Mv K H E w c H' E' w' c'/\Steps P (lone (o9 b a (.code (.region id ops aj)::k)) cs w) (lone (o9 b a' k) cs w'):=by
 have h1:=Va hC hF hK st h;have hm:=hC.mixed;have hs:∀t,wpOps P ops _ (fL (P.follows .mixedOrders) ops t) a {w with drawn:=w.drawn+1}:=fun t=>by
  simp only[fL,hm,Bool.true_or,if_true];exact wpAny_sound ops.size t _ a _ h1
 obtain ⟨a',w',⟨_,c',H',E',e1,e2,e3⟩,e4⟩:=abN hnd (fun _ _ _ h=>h.1) b k cs _ a _ (hs (w.tape w.drawn (.order b.fn id)));exact ⟨c',a',H',E',w',e1,e2,e3,.head TI e4⟩
theorem ZG{fn:Func}{c:Core}{φ:Out->Prop}(h:(result C fn c).All φ):∃sv,result C fn c=.leaf (.done sv c)/\φ (.done sv c):=by
 unfold result at h ⊢;split
 ·rename_i sv hs;rw[hs] at h;exact ⟨sv,rfl,h⟩
 ·rename_i l hne hs
  split at h
  ·grind
  ·rename_i l2 hne2 hs2;rw[hs] at hs2;cases hs2;exact ⟨_,rfl,h⟩
  grind
 ·rename_i hs;rw[hs] at h;exact h.elim
def ajn(P:Program)(C:Ctx)(fn:Func)(H:Mem)(E:Env)(sv:SV)(c:Core)(a:Act):Prop:=
 ∀(K:Kx) (w:World),St C K H E w c a->∃v,Den H E sv v/\(results fn a.tmps).run P w=.ok v w
theorem ahe(hC:oh P C){fn:Func}{c:Core}{a:Act}{sv:SV}(h:result C fn c=.leaf (.done sv c)):ajn P C fn H E sv c a:=fun K w st=>by
 obtain ⟨sv',v,h1,h2,h3⟩:=Vb (φ:=fun o=>o=.done sv c) hC st (by rw[h];exact rfl);simp_all
def ajo(P:Program)(C:Ctx)(K:Kx)(fn:Func)(H:Mem)(E:Env)(w:World)(c:Core)(m:Machine)(b:Frame)(cs:List Frame):Sig->Prop
 | .done sv c'=>∃(a':Act) (w':World) (H':Mem) (E':Env) (todo:List Item),Steps P m (lone {o9 b a' todo with mode:=.returning} cs w')/\St C K H' E' w' c' a'/\Mv K H E w c H' E' w' c'/\ajn P C fn H' E' sv c' a'
 | .go vS c'=>∃(a':Act) (w':World) (H':Mem) (E':Env) (items':List Item),Steps P m (lone (o9 b a' items') cs w')/\St C K H' E' w' c' a'/\Mv K H E w c H' E' w' c'/\pq (mX fn) vS items' | .halt vS c'=>∃(a':Act) (w':World) (H':Mem) (E':Env) (items':List Item),Steps P m (lone (o9 b a' items') cs w')/\St C K H' E' w' c' a'/\Mv K H E w c H' E' w' c'/\pq (mX fn) vS items'
def endsB(fn:Func):List It->Bool
 |[]=>aj | .code p::_=>match nP (mX fn) p with
  | .ret=>aj |_=>ag
 |_=>ag
theorem ahf(hC:oh P C)(hF:oH P C){call:Nat->List SV->Core->Tree (SV×Core)}(hK:xw P C K call){top:Bool}{g:Nat}{fn:Func}{td:List It}{c:Core}{a:Act}{items:List Item}{φ:Sig->Prop}(hnd:rY (mX fn)=aj)
  (h:(Ja C call top g fn td c).All φ) (st:St C K H E w c a) (hi:pq (mX fn) td items) (b:Frame) (cs:List Frame) (hr:b.roundOf=aq\/endsB fn td=ag) :
  ∃sig,φ sig/\ajo P C K fn H E w c (lone (o9 b a items) cs w) b cs sig:=by
 have Cb:Mv K H E w c H E w c:=yN st rfl rfl rfl rfl;have go:∀{vS:List It} {c':Core} {H':Mem} {E':Env} {w':World} {a':Act} {items':List Item},φ (.go vS c')->St C K H' E' w' c' a'->Mv K H E w c H' E' w' c'->pq (mX fn) vS items'->
   Steps P (lone (o9 b a items) cs w) (lone (o9 b a' items') cs w')->∃sig,φ sig/\ajo P C K fn H E w c (lone (o9 b a items) cs w) b cs sig:=fun h1 h2 h3 h4 h5=>⟨_,h1,_,_,_,_,_,h5,h2,h3,h4⟩
 have fin:∀(todo:List Item),((result C fn c).bind Ze).All φ->step P (lone (o9 b a items) cs w)=.next (lone {o9 b a todo with mode:=.returning} cs w)->∃sig,φ sig/\ajo P C K fn H E w c (lone (o9 b a items) cs w) b cs sig:=fun todo hr hs=>by
  obtain ⟨sv,h1,h2⟩:=ZG (bG hr);exact ⟨_,h2,a,w,H,E,todo,.one hs,st,Cb,ahe hC h1⟩
 unfold Ja at h;split at h
 ·cases hi
  have hb:b.roundOf=aq:=by
   rcases hr with hr|hr
   ·exact hr
   ·cases hr
  grind [am7]
 ·cases hi with
  |inBlock id hk=>exact go h st Cb hk (.one abK)
 ·exact h.elim
 ·cases hi with
  |reg p l id ops hc hk=>exact go h (st.DU g) (yN st rfl rfl rfl rfl) hk (.one Js)
 ·rename_i p i r k
  cases hi with
  |reg p l id ops hc hk=>
   have hd:rY (.region id ops ag)=aj:=by grind [Jt]
   rw[hc] at h;simp only at h;obtain ⟨a',w',h1,h2⟩:=abM (fun o ho=>OZ hd ho) (fun _ _ _ h=>h.elim) (MG hC hF hK st (bG h) (fun a' w'=>∃c' H' E',φ (.go (.reg p r::k) c')/\St C K H' E' w' c' a'/\Mv K H E w c H' E' w' c') (fun _ _ _=>False)
    fun c' a' H' E' w' e1 e2 e3 _=>⟨c',H',E',e1,e2,e3⟩) b _ cs
   obtain ⟨c',H',E',e1,e2,e3⟩:=h1;exact go e1 e2 e3 (.reg p r id ops hc hk) h2
 ·rename_i p k
  have hloop:∀{x:Code},nP (mX fn) p=x->(∀y,x≠.loop y)->∃k',items=.code x::k'/\pq (mX fn) k k':=fun {x} hx hne=>by
   cases hi with
   |code p hk=>simp_all |loop p y hl hk=>grind
  split at h
  ·rename_i hx
   obtain ⟨k',rfl,hk⟩:=hloop hx (by simp);exact go h st Cb hk (.one ajk)
  ·rename_i hx
   obtain ⟨k',rfl,hk⟩:=hloop hx (by simp);grind [endsB,am6]
  ·rename_i x y hx
   obtain ⟨k',rfl,hk⟩:=hloop hx (by simp);have h0:nP (mX fn) (0::p)=x:=by simp[nP,hx,child]
   have h1:nP (mX fn) (1::p)=y:=by simp[nP,hx,child]
   have:=cg (0::p) (cg (1::p) hk);rw[h0,h1] at this;exact go h st Cb this (.one am5)
  ·rename_i id x hx
   obtain ⟨k',rfl,hk⟩:=hloop hx (by simp);have h0:nP (mX fn) (0::p)=x:=by simp[nP,hx,child]
   have:=cg (0::p) (pq.inBlock id hk);rw[h0] at this;exact go h st Cb this (.one ahd)
  ·rename_i x hx
   have h0:nP (mX fn) (0::p)=x:=by simp[nP,hx,child]
   cases hst:C.Dq g p<;>simp only[hst,cond_true,cond_false] at h
   ·cases hi with
    |code p hk=>
     have:=cg (0::p) (gn p x hx hk);rw[h0] at this;rw[hx] at go ⊢;exact go h st Cb this (.one abL)
    |loop p y hl hk=>
     rw[hx] at hl;cases hl;have:=cg (0::p) (gn p x hx hk);rw[h0] at this;exact go h st Cb this (.one VB)
   ·exact ⟨_,h,a,w,H,E,items,.refl _ _,st,Cb,hi⟩
  ·rename_i id hx
   obtain ⟨k',rfl,hk⟩:=hloop hx (by simp);split at h
   ·rename_i k2 he
    obtain ⟨k3,h1,h2⟩:=abn hk he;exact go h st Cb h2 (.one (ajm h1))
   ·exact h.elim
  ·rename_i x y z hx
   obtain ⟨k',rfl,hk⟩:=hloop hx (by simp);have h0:=cg (0::p) hk;have h1:=cg (1::p) hk;have e0:nP (mX fn) (0::p)=y:=by simp[nP,hx,child]
   have e1:nP (mX fn) (1::p)=z:=by simp[nP,hx,child]
   rw[e0] at h0;rw[e1] at h1;have dx:=nU (H:=H) (E:=E) st.den x;have cnd:∀t:Bool,a.eval x=.bool t->step P (lone (o9 b a (.code (.cond x y z)::k')) cs w)=.next (lone (o9 b a (.code (if t then y else z)::k')) cs w):=fun t ht=>ajl ht
   split at h
   ·rename_i hv
    rw[hv] at dx;exact go h st Cb h0 (.one (cnd aj dx))
   ·rename_i hv
    rw[hv] at dx;exact go h st Cb h1 (.one (cnd ag dx))
   ·rename_i t hv
    rw[hv] at dx;have st':∀v,t=v->St C K H E w (c.put (N7 x) (.bool v)) a:=fun v hv2=>by
     subst hv2;cases x with
     |tmp d=>exact st.know hv |const u=>assumption |global u=>assumption |func u=>assumption
    have mv':∀v:Bool,Mv K H E w c H E w (c.put (N7 x) (.bool v)):=fun v=>yN st rfl rfl rfl rfl
    cases t with
    |true=>exact go (h.1 rfl) (st' aj rfl) (mv' aj) h0 (.one (cnd aj dx)) |false=>exact go (h.2 rfl) (st' ag rfl) (mv' ag) h1 (.one (cnd ag dx))
   ·exact h.elim
  ·rename_i id ops dr hx
   obtain ⟨k',rfl,hk⟩:=hloop hx (by simp);have hd:rY (.region id ops dr)=aj:=by grind [Jt]
   cases dr with
   |false=>
    simp only[cond_false] at h;exact go h st Cb (.reg p (aE ops.size) id ops hx hk) (.one aee)
   |true=>
    simp only[cond_true] at h;have key:∀(f:Core->Tree Sig),((drawn C call g ops c).bind f).All φ->∃c' a' H' E' w',(f c').All φ/\St C K H' E' w' c' a'/\Mv K H E w c H' E' w' c'/\Steps P (lone (o9 b a (.code (.region id ops aj)::k')) cs w) (lone (o9 b a' k') cs w'):=fun f hf=>
     am8 (id:=id) hC hF hK (fun i o ho=>OZ hd ho) st (bG hf) b k' cs
    cases hl:(top && !(drawn C call g ops c).lone)<;>simp only[hl,cond_true,cond_false] at h
    ·obtain ⟨c',a',H',E',w',h1,h2,h3,h4⟩:=key _ h
     exact go h1 h2 h3 hk h4
    ·obtain ⟨c',a',H',E',w',h1,h2,h3,h4⟩:=key _ h
     exact ⟨_,h1,a',w',H',E',k',h4,h2,h3,hk⟩
  ·exact h.elim
end
inductive FB where
 |ready|busy|done (q:List Nat)
structure Fw where
 g:Nat
 r:Option (Nat×Nat)
 td:List It
 tm:List SV
 lp:Option (Nat×List Nat×FB)
def AY:FB->LoopState
 | .ready=>.ready | .busy=>.busy | .done _=>.done
def vI(body:Code):FB->Option Code
 | .done q=>ae (nP body q) |_=>aq
def marks(rs:List Nat):List Deferred:=rs.map fun r=>{target:=.collected r,args:=#[]}
def Ju(r:Option (Nat×Nat)):Option Nat:=r.map (·.1)
def IW(f:Fw):List Nat:=match f.lp with
 |some (l,_,_)=>[l] |none=>[]
def abO(fn:Func)(g:Nat)(tmps:Array Value)(p:List Nat)(s:FB)(o:Obj):Prop:=
 ∃x ps ca cb df,nP (mX fn) p=.rangeFunc x ps ca cb/\o=.loop {state:=AY s,pending:=vI (mX fn) s,fn:=g,tmps,params:=ps,assign:=ca,body:=cb,defers:=df}
def SI(C:Ctx)(H:Mem)(E:Env)(h:Hp)(f:Fw)(mf:Frame)(rs:List Nat):Prop:=
 ∃fn a items,C.fns.get f.g=ae fn/\mW H E f.tm a.tmps.toList/\a.defers=[]/\pq (mX fn) f.td items/\(∀x∈rs,h x=ae (.deferred (ae [])))/\
  match f.lp with
  |none=>mf=o9 (bq f.g (Ju f.r) (marks rs)) a items |some (l,p,s)=>mf=o9 (bq f.g (Ju f.r) (marks rs)) a (.inRangeFunc l::items)/\∃o,h l=ae o/\abO fn f.g a.tmps p s o
def uX(C:Ctx)(H:Mem)(E:Env)(h:Hp):List Fw->List Frame->List Nat->Prop
 |[],[],B=>B=[] |f::s,mf::ms,B=>∃rs B',B=rs++IW f++B'/\SI C H E h f mf rs/\uX C H E h s ms B' |_,_,_=>False
def x9(h:Hp)(K:Kx)(H:Mem)(E:Env)(w:World)(hp:List (Nat×SB)):Prop:=
 ∀b o,h b=ae o->w.heap[b]?=ae o/\H b=aq/\(∀id sb,mG hp id=ae sb->nN E id sb≠ae b)/\(K.w0.heap.size<=b\/K.own b)
def IG(g:Nat):List Fw->Nat
 |[]=>g |f::s=>IG f.g s
def abP(P:Program)(C:Ctx)(K:Kx)(bot:Nat)(φ:Sh->Prop)(m:Machine)(cs:List Frame):Prop:=
 ∃(a':Act) (w':World) (v:Value) (s:Sh) (H':Mem) (todo:List Item) (fn0:Func),C.fns.get bot=ae fn0/\Steps P m (lone {(base bot).at a' todo with mode:=.returning} cs w')/\
   a'.defers=[]/\φ s/\qR K.H0 K.w0 s v H' w'/\(results fn0 a'.tmps).run P w'=.ok v w'
theorem abP.of{P:Program}{C:Ctx}{K:Kx}{bot:Nat}{φ:Sh->Prop}{m m':Machine}{cs:List Frame}(h1:Steps P m m')(h2:abP P C K bot φ m' cs):abP P C K bot φ m cs:=by
 obtain ⟨a',w',v,s,H',todo,fn0,q1,q2,q3⟩:=h2;exact ⟨a',w',v,s,H',todo,fn0,q1,h1.trans q2,q3⟩
def rE(P:Program)(C:Ctx)(K:Kx)(g:Nat)(r:Option (Nat×Nat))(td:List It)(c:Core)(stk:List Fw)(φ:Sh->Prop):Prop:=
 ∀(H:Mem) (E:Env) (w:World) (a:Act) (items:List Item) (rs B:List Nat) (ms cs:List Frame) (fn:Func) (h:Hp),C.fns.get g=ae fn->St C K H E w c a->pq (mX fn) td items->
  (∀x∈rs,h x=ae (.deferred (ae [])))->uX C H E h stk ms B->(rs++B).Nodup->x9 h K H E w c.hp->
  abP P C K (IG g stk) φ (lone (o9 (bq g (Ju r) (marks rs)) a items) (ms++cs) w) cs
section
variable{P:Program}{C:Ctx}{K:Kx}{H H' Fj H0:Mem}{E E' Fp E1:Env}{w w' w'' w0:World}{h:Hp}
theorem SI.le(hH:H.le H')(hE:E.le E'){f:Fw}{mf:Frame}{rs:List Nat}(x:SI C H E h f mf rs):SI C H' E' h f mf rs:=by
 obtain ⟨fn,a,items,h1,h2,h3⟩:=x;exact ⟨fn,a,items,h1,h2.le hH hE,h3⟩
theorem uX.le(hH:H.le H')(hE:E.le E'):∀{s:List Fw} {ms:List Frame} {B:List Nat},uX C H E h s ms B->uX C H' E' h s ms B
 |[],[],_,x=>x |_::_,_::_,_,⟨rs,B',h1,h2,h3⟩=>⟨rs,B',h1,h2.le hH hE,uX.le hH hE h3⟩ |[],_::_,_,x=>x.elim |_::_,[],_,x=>x.elim
theorem x9.keep{c c':Core}{a a':Act}(hx:x9 h K H E w c.hp)(st:St C K H E w c a)(st':St C (IU H E w c.hp) H' E' w' c' a'):x9 h K H' E' w' c'.hp:=by
 intro b o e;obtain ⟨h1,h2,h3,h4⟩:=hx b o e;have hlt:=(aM.1 h1).1;have hno:¬(IU H E w c.hp).own b:=fun ⟨id,sb,q1,q⟩=>h3 id sb q1 q;refine ⟨by rw[st'.oQ.kept b hlt hno];exact h1,?_,fun id sb hl ho=>?_,h4⟩
 ·cases hx:H' b with
  |none=>rfl |some o'=>
   rcases st'.oQ.fresh b (by rw[hx];simp) with q|q|q
   ·exact (q h2).elim
   ·have q:w.heap.size<=b:=q;omega
   simp_all
 ·obtain ⟨_,_,q⟩:=(st'.hp.ent id sb hl).lt ho
  rcases q with q|q
  ·have q:w.heap.size<=b:=q;omega
  grind
theorem x9.weak{ρ:List (Nat×Rn)}{c c':Core}{a:Act}(hx:x9 h K H E w c.hp)(st:St C K H E w c a)(hle:leC ρ c c'):x9 h K H (vg ρ E) w c'.hp:=by
 intro b o e;obtain ⟨h1,h2,h3,h4⟩:=hx b o e;refine ⟨h1,h2,fun id sb hl ho=>?_,h4⟩;obtain ⟨id0,s0,_,q1,q2⟩:=(OH st.hp (OI hle.2.1 hl)).2 b ho;simp_all
def yH(h:Hp)(b:Nat)(o:Obj):Hp:=fun x=>if x=b then ae o else h x
theorem D7{b:Nat}{o:Obj}:yH h b o b=ae o:=by simp[yH]
theorem uN{b x:Nat}{o:Obj}(hne:x≠b):yH h b o x=h x:=by simp[yH,hne]
theorem St.putObj{c:Core}{a:Act}(st:St C K H E w c a){b:Nat}{o o':Obj}(hx:x9 h K H E w c.hp)(hb:h b=ae o):St C K H E (w.putObj b o') c a:=by
 obtain ⟨h1,h2,h3,h4⟩:=hx b o hb;refine ⟨st.den,⟨fun id sb hl=>(st.hp.ent id sb hl).kept (fun _ _ e=>e) (fun _ _ e=>e) (fun b' hb'=>?_) fun b' hb'=>((st.hp.ent id sb hl).lt hb').2.1,st.hp.vO⟩,?_,st.free,st.gl,st.defers⟩
 ·grind [cU]
 ·refine ⟨st.oQ.os,st.oQ.tape,st.oQ.output,by rw[World.putObj_size];exact st.oQ.size,fun b' hlt hno=>?_,fun b' o2 hb'=>?_,st.oQ.le,st.oQ.fresh⟩
  ·rw[cU]
   ·exact st.oQ.kept b' hlt hno
   grind
  ·rw[cU]
   ·exact st.oQ.on b' o2 hb'
   grind
theorem x9.put{hp:List (Nat×SB)}{b:Nat}{o o':Obj}(hx:x9 h K H E w hp)(hb:h b=ae o):x9 (yH h b o') K H E (w.putObj b o') hp:=by
 intro x o2 e;by_cases hxb:x=b
 ·subst hxb
  rw[D7] at e;cases e;obtain ⟨h1,h2⟩:=hx x o hb;grind [World.putObj_heap_same,aM]
 ·rw[uN hxb] at e
  obtain ⟨h1,h2⟩:=hx x o2 e;simp_all [cU]
theorem heap_alloc_old(w:World)(o:Obj)(x:Nat)(h:x<w.heap.size):(w.alloc o).heap[x]?=w.heap[x]?:=by
 show (w.heap.push o)[x]?=_;grind
theorem St.Qy{c:Core}{a:Act}(st:St C K H E w c a)(o:Obj):St C K H E (w.alloc o) c a:=
 ⟨st.den,⟨fun id sb hl=>(st.hp.ent id sb hl).kept (fun _ _ e=>e) (fun _ _ e=>e) (fun b hb=>heap_alloc_old w o b ((st.hp.ent id sb hl).lt hb).1) fun _ hb=>((st.hp.ent id sb hl).lt hb).2.1,st.hp.vO⟩,
  st.oQ.alloc o,st.free,st.gl,st.defers⟩
theorem x9.alloc{c:Core}{a:Act}(hx:x9 h K H E w c.hp)(st:St C K H E w c a)(o:Obj):x9 (yH h w.heap.size o) K H E (w.alloc o) c.hp:=by
 intro x o2 e;by_cases hxb:x=w.heap.size
 ·subst hxb
  rw[D7] at e;cases e;refine ⟨World.alloc_heap_new w o,?_,fun id sb hl ho=>?_,.inl st.oQ.size⟩
  ·cases hH:H w.heap.size with
   |none=>rfl |some o'=>have:=(aM.1 (st.oQ.on _ _ hH)).1;omega
  ·have:=((st.hp.ent id sb hl).lt ho).1;omega
 ·rw[uN hxb] at e
  obtain ⟨h1,h2⟩:=hx x o2 e;grind [heap_alloc_old,aM]
theorem SI.put{f:Fw}{mf:Frame}{rs:List Nat}(x:SI C H E h f mf rs){b:Nat}{o:Obj}(h1:b ∉ rs)(h2:b ∉ IW f):SI C H E (yH h b o) f mf rs:=by
 obtain ⟨fn,a,items,q1,q2,q3,q4,q5,q6⟩:=x;refine ⟨fn,a,items,q1,q2,q3,q4,fun y hy=>by grind [uN],?_⟩;grind [IW,uN]
theorem uX.put{b:Nat}{o:Obj}:∀{s:List Fw} {ms:List Frame} {B:List Nat},uX C H E h s ms B->b ∉ B->uX C H E (yH h b o) s ms B
 |[],[],_,x,_=>x |f::_,_::_,B,⟨rs,B',h1,h2,h3⟩,hb=>by
  subst h1;simp only[aU,not_or] at hb;exact ⟨rs,B',rfl,h2.put hb.1.1 hb.1.2,uX.put h3 hb.2⟩
 |[],_::_,_,x,_=>x.elim |_::_,[],_,x,_=>x.elim
theorem uX.len:∀{s:List Fw} {ms:List Frame} {B:List Nat},uX C H E h s ms B->s.length=ms.length
 |[],[],_,_=>rfl |_::_,_::_,_,⟨_,_,_,_,h3⟩=>by simp[uX.len h3] |[],_::_,_,x=>x.elim |_::_,[],_,x=>x.elim
theorem uX.has:∀{s:List Fw} {ms:List Frame} {B:List Nat},uX C H E h s ms B->∀x∈B,∃o,h x=ae o
 |[],[],_,e,x,hx=>by have e:_=[]:=e;simp_all |f::_,_::_,B,⟨rs,B',h1,h2,h3⟩,x,hx=>by
  subst h1;obtain ⟨fn,a,items,q1,q2,q3,q4,q5,q6⟩:=h2;simp only[aU] at hx;rcases hx with (hx|hx) |hx
  ·exact ⟨_,q5 x hx⟩
  ·unfold IW at hx
   split at q6
   ·rename_i hl;rw[hl] at hx;cases hx
   ·rename_i l p s hl
    rw[hl] at hx;obtain ⟨_,o,q8,_⟩:=q6;have:x=l:=by simpa using hx
    exact ⟨o,this ▸ q8⟩
  ·exact uX.has h3 x hx
 |[],_::_,_,e,_,_=>e.elim |_::_,[],_,e,_,_=>e.elim
theorem collects{c:Core}{a:Act}:∀{rs:List Nat} {B:List Nat} {h:Hp} {w:World} {s:List Fw} {ms:List Frame} (g:Nat) (todo:List Item) (cs:List Frame),St C K H E w c a->x9 h K H E w c.hp->(∀x∈rs,h x=ae (.deferred (ae [])))->uX C H E h s ms B->(rs++B).Nodup->
  ∃w' h',Steps P (lone {o9 (bq g aq (marks rs)) a todo with mode:=.returning} cs w) (lone {(base g).at a todo with mode:=.returning} cs w')/\St C K H E w' c a/\x9 h' K H E w' c.hp/\uX C H E h' s ms B
 |[],B,h,w,s,ms,g,todo,cs,st,hx,_,hs,_=>⟨w,h,by rw[<-KC];exact .refl _ _,st,hx,hs⟩ |r::rs,B,h,w,s,ms,g,todo,cs,st,hx,hm,hs,hnd=>by
  have h0:=hm r (List.mem_cons_self ..);have hw:=(hx r _ h0).1;simp only[List.cons_append,List.nodup_cons,aU,not_or] at hnd;have hstep:step P (lone {o9 (bq g aq (marks (r::rs))) a todo with mode:=.returning} cs w)=.next (lone {o9 (bq g aq (marks rs)) a todo with mode:=.returning} cs (w.putObj r (.deferred aq))):=by
   have:=step_collected (P:=P) (fr:={o9 (bq g aq (marks (r::rs))) a todo with mode:=.returning}) (cs:=cs) (w:=w) (d:={target:=.collected r,args:=#[]}) (r:=r) (ds:=marks rs) (calls:=[]) (by simp)
    (by simp[o9,bq,marks,st.defers]) rfl (run_takeDeferred hw)
   rw[this];simp[o9,bq,marks,st.defers]
  obtain ⟨w',h',q1,q2,q3,q4⟩:=collects g todo cs (st.putObj (o':=.deferred aq) hx h0) (hx.put (o':=.deferred aq) h0) (fun x hxm=>by
   grind [uN,List.mem_cons_of_mem]) (hs.put hnd.1.2) hnd.2
  exact ⟨w',h',.head hstep q1,q2,q3,q4⟩
end
end Go.Sx
