/- Own work. -/
import Derived.Test.YtemojddccikgkaaGreatDoorB04
import Derived.Laws.StructEq
import Derived.RangeFuncIn
import Derived.RangeFuncRecord
open Int (ofNat)
open Array renaming getElem?_eq_some_iff->aI,replicate->bo
open Bool renaming false->ag,true->ah,and_eq_true->ak,or_eq_true->gJ
open Go.Deferred renaming ofValue->cW
open Go.Frame renaming enter->cw,finish_at->eF
open Go.Instr renaming endRound->eI
open Go.Op renaming eqFields->iS
open Go.Oper renaming upon->kI
open Go.Region renaming schedule->fO
open Go.Result renaming andThen_ok->cK
open Go.Sem renaming run_bind->ct,run_ite->me
open Go.Sx.Cq renaming v->fB
open Go.Sx.ni renaming any->jl
open Go.Sx.oM renaming all->bi,tK->bw
open Go.Sx.pV renaming code->bV,nil->gY,loop->fJ
open Go.Sx.Tree renaming vW->bz
open Go.World renaming putObj_heap_other->cU
open Go.stepG renaming apply->bZ
open List renaming replicate->bf,getElem?_cons_zero->ee,contains_cons->iT,all_eq_true->bh,range->aD,mem_append->aU,nodup_append->bE
open Nat renaming blt->bO,ble->cq,le_refl->aV,le_trans->bL,lt_of_lt_of_le->dp,add_zero->dH,beq->bJ
open Option renaming some->ae,none->ao,map_eq_some_iff->aP,isSome_iff_exists->bG
namespace Go.Sx
def aaA(r:Option Rn)(id:Nat):Bool:=match r with|some (.id i)=>i==id|_=>ag
def Xo(r:Option Rn):Bool:=match r with|some .nil=>ah|_=>ag
mutual
def qS(hp:List (Nat×SB))(ρ:List (Nat×Rn)):SV->SV->Option (List oM)
 |_,.any=>ae [] |x,.sym k m=>match x with
  | .int k' n=>qI (k'==k) (ae [.int n m]) | .sym k' n=>qI (k'==k) (ae [.int n m]) |_=>ao
 |x,.test b=>match x with
  | .bool b'=>ae [.bool b' b] | .test b'=>ae [.bool b' b] |_=>ao
 |x,.gs id'=>match x with
  | .gs id=>qI (aaA (mQ ρ id') id) (ae []) | .nS=>qI (Xo (mQ ρ id')) (ae []) |_=>ao
 |x,.ptr id' off'=>match x with
  | .ptr id off=>qI (aaA (mQ ρ id') id&&off==off') (ae []) |_=>ao
 |x,.mp id'=>match x with
  | .mp id=>qI (aaA (mQ ρ id') id) (ae []) |_=>ao
 |x,.fn f' l'=>match x with
  | .fn f l=>qI (f==f') (qL hp ρ l l') |_=>ao
 |x,.agg l'=>match x with
  | .agg l=>qL hp ρ l l' |_=>ao
 |x,.mX l'=>match x with
  | .mX l=>qL hp ρ l l' |_=>ao
 |x,.qK t' y=>match x with
  | .qK t z=>qI (t==t') (qS hp ρ z y) |_=>ao
 |x,.sh s=>(rZ hp x).map fun s'=>[.sh s' s] |x,.yD st' n' g' i' off'=>match x with
  | .yD st n g i off=>qI (st==st'&&off==off') (ae [.nat n n',.Gf g g',.nat i i']) |x=>qI (off'==0) ((rZ hp x).map fun s=>[.sh s (.pt (g' i')),.nat (g' i').length st',.bool (bO i' n') ah])
 |x,.int k' n'=>match x with
  | .int k n=>qI (k==k') (ae [.int n n']) | .sym k n=>qI (k==k') (ae [.int n n']) |_=>ao
 |x,.bool b'=>match x with
  | .bool b=>qI (b==b') (ae []) | .test b=>ae [.bool b b'] |_=>ao
 | .uN,.uN=>ae [] | .nS,.nS=>ae [] | .xX,.xX=>ae [] | .sS,.sS=>ae [] | .wS,.wS=>ae [] | .glob g,.glob g'=>qI (g==g') (ae []) | .str l,.str l'=>ae [.str l l'] | .val v,.val v'=>ae [.val v v'] |_,_=>ao
def qL(hp:List (Nat×SB))(ρ:List (Nat×Rn)):List SV->List SV->Option (List oM)
 |[],[]=>ae [] |x::l,y::l'=>uU (qS hp ρ x y) (qL hp ρ l l') |_,_=>ao
end
def qM(hp:List (Nat×SB))(ρ:List (Nat×Rn)):List (SV×SV)->List (SV×SV)->Option (List oM)
 |[],[]=>ae [] |(a,b)::l,(a',b')::l'=>uU (qS hp ρ a a') (uU (qS hp ρ b b') (qM hp ρ l l')) |_,_=>ao
def qB(hp:List (Nat×SB))(ρ:List (Nat×Rn))(id':Nat):SB->Option (List oM)
 | .box cells' e'=>match mQ ρ id' with
  |some (.id id)=>match mQ hp id with
   |some (.box cells e)=>qI (e==e') (qL hp ρ cells cells') |_=>ao
  |_=>ao
 | .row cells' e' st' n'=>match mQ ρ id' with
  |some (.id id)=>match mQ hp id with
   |some (.row cells e st n)=>qI (e==e'&&st==st'&&n==n') (qL hp ρ cells cells') |_=>ao
  |_=>ao
 | .own e' st' n' g'=>match mQ ρ id' with
  |some (.id id)=>match QA hp id with
   |some (e,st,n,g)=>qI (e==e'&&st==st') (ae [.nat n n',.get n g g']) |_=>ao
  |some .nil=>ae [.nat n' 0] |none=>ao
 | .map es'=>match mQ ρ id' with
  |some (.id id)=>match mQ hp id with
   |some (.map es)=>qM hp ρ es es' |_=>ao
  |_=>ao
 | .fz _ _ _=>ao | .KA _=>ao | .yE _ _ _ _ _=>ao | .fm _ _ _ _ _=>ao | .pm vt' M' us'=>match us',mQ ρ id' with
  |[],ae (.id id)=>match mQ hp id with
   |some (.pm vt M us)=>match Xn M us with
    |some N=>qI (vt==vt') (ae [.mg N M']) |none=>ao
   |_=>ao
  |_,_=>ao
 | .buf e' l'=>match mQ ρ id' with
  |some (.id id)=>match mQ hp id with
   |some (.buf e l)=>qI (e==e') (ae [.str l l']) |_=>ao
  |_=>ao
def qH(hp:List (Nat×SB))(ρ:List (Nat×Rn)):List (Nat×SB)->Option (List oM)
 |[]=>ae [] |(id',sb)::l=>uU (qB hp ρ id' sb) (qH hp ρ l)
def qC(ρ:List (Nat×Rn))(c c':Core):Option (List oM):=qI (al3 c'.nx ρ) (uU (qL c.hp ρ c.tm c'.tm) (qH c.hp ρ c'.hp))
section
variable{hp:List (Nat×SB)}{ρ:List (Nat×Rn)}
theorem QF{r:Option Rn}{id:Nat}(h:aaA r id=ah):r=ae (.id id):=by
 unfold aaA at h;grind
theorem ad2{r:Option Rn}(h:Xo r=ah):r=ae .nil:=by
 grind [Xo]
mutual
theorem Xp:∀{x:SV} (y:SV) {l:List oM},qS hp ρ x y=ae l->bi l->uS hp ρ x y
 |x,.any,l,h,ha=>by cases x<;>trivial |x,.sym k m,l,h,ha=>by
  cases x<;>simp only[qS] at h
  all_goals first
   |(cases h;done)
   |(obtain ⟨h1,h2⟩:=nV h;cases h2;simp only[beq_iff_eq] at h1;subst h1;simp only[uS];exact ⟨trivial,ha.1⟩)
 |x,.test b,l,h,ha=>by
  cases x<;>simp only[qS] at h
  all_goals first
   |(cases h;done)
   |(cases h;simp only[uS];exact ha.1)
 |x,.gs id',l,h,ha=>by
  cases x<;>simp only[qS] at h
  all_goals first
   |(cases h;done)
   |(obtain ⟨h1,h2⟩:=nV h;simp only[uS];exact QF h1)
   |(obtain ⟨h1,h2⟩:=nV h;simp only[uS];exact ad2 h1)
 |x,.ptr id' off',l,h,ha=>by
  cases x<;>simp only[qS] at h
  all_goals first
   |(cases h;done)
   |(obtain ⟨h1,h2⟩:=nV h;simp only[ak,beq_iff_eq] at h1;simp only[uS];exact ⟨QF h1.1,h1.2⟩)
 |x,.mp id',l,h,ha=>by
  cases x<;>simp only[qS] at h
  all_goals first
   |(cases h;done)
   |(obtain ⟨h1,h2⟩:=nV h;simp only[uS];exact QF h1)
 |x,.fn f' l',l,h,ha=>by
  cases x<;>simp only[qS] at h
  all_goals first
   |(cases h;done)
   |(obtain ⟨h1,h2⟩:=nV h;simp only[beq_iff_eq] at h1;simp only[uS];exact ⟨h1,Hf l' h2 ha⟩)
 |x,.agg l',l,h,ha=>by
  cases x<;>simp only[qS] at h
  all_goals first
   |(cases h;done)
   |(simp only[uS];exact Hf l' h ha)
 |x,.mX l',l,h,ha=>by
  cases x<;>simp only[qS] at h
  all_goals first
   |(cases h;done)
   |(simp only[uS];exact Hf l' h ha)
 |x,.qK t' y,l,h,ha=>by
  cases x<;>simp only[qS] at h
  all_goals first
   |(cases h;done)
   |(obtain ⟨h1,h2⟩:=nV h;simp only[beq_iff_eq] at h1;simp only[uS];exact ⟨h1,Xp y h2 ha⟩)
 |x,.sh s,l,h,ha=>by
  have h0:∃s',rZ hp x=ae s'/\s'=s:=by
   cases x<;>simp only[qS,aP] at h
   all_goals
    obtain ⟨s',h1,rfl⟩:=h;exact ⟨s',h1,ha.1⟩
  obtain ⟨s',h1,rfl⟩:=h0;cases x<;>simp only[uS]<;>exact .inl h1
 |x,.int k n,l,h,ha=>by
  cases x<;>simp only[qS] at h
  all_goals first
   |(cases h;done)
   |(obtain ⟨h1,h2⟩:=nV h;cases h2;simp only[beq_iff_eq] at h1;simp only[uS];exact ⟨h1,ha.1⟩)
 |x,.bool b,l,h,ha=>by
  cases x<;>simp only[qS] at h
  all_goals first
   |(cases h;done)
   |(obtain ⟨h1,h2⟩:=nV h;simp only[beq_iff_eq] at h1;simp only[uS];exact h1)
   |(cases h;simp only[uS];exact ha.1)
 |x,.uN,l,h,ha=>by cases x<;>simp only[qS] at h<;>first|(cases h;done) |(simp only[uS])
 |x,.nS,l,h,ha=>by cases x<;>simp only[qS] at h<;>first|(cases h;done) |(simp only[uS])
 |x,.xX,l,h,ha=>by cases x<;>simp only[qS] at h<;>first|(cases h;done) |(simp only[uS])
 |x,.sS,l,h,ha=>by cases x<;>simp only[qS] at h<;>first|(cases h;done) |(simp only[uS])
 |x,.wS,l,h,ha=>by cases x<;>simp only[qS] at h<;>first|(cases h;done) |(simp only[uS])
 |x,.glob g,l,h,ha=>by
  cases x<;>simp only[qS] at h
  all_goals first
   |(cases h;done)
   |(obtain ⟨h1,h2⟩:=nV h;simp only[beq_iff_eq] at h1;simp only[uS];exact h1)
 |x,.str s,l,h,ha=>by
  cases x<;>simp only[qS] at h
  all_goals first
   |(cases h;done)
   |(cases h;simp only[uS];exact ha.1)
 |x,.val s,l,h,ha=>by
  cases x<;>simp only[qS] at h
  all_goals first
   |(cases h;done)
   |(cases h;simp only[uS];exact ha.1)
 |x,.yD st n g i off,l,h,ha=>by
  have key:∀(q:Option Sh),qI (off==0) (q.map fun s=>[oM.sh s (.pt (g i)),.nat (g i).length st,.bool (bO i n) ah])=ae l->q=ae (.pt (g i))/\off=0/\(g i).length=st/\i<n:=fun q h=>by
   obtain ⟨h1,h2⟩:=nV h;simp only[aP] at h2;obtain ⟨s,h3,rfl⟩:=h2;have e1:s=.pt (g i):=ha.1;exact ⟨by rw[h3,e1],by simpa using h1,ha.2.1,CP ha.2.2.1⟩
  cases x<;>simp only[qS] at h
  case yD=>obtain ⟨h1,h2⟩:=nV h;cases h2;simp only[ak,beq_iff_eq] at h1;simp only[uS];exact ⟨h1.1,ha.1,ha.2.1,ha.2.2.1,h1.2⟩
  all_goals
   simp only[uS];exact key _ h
 |x,.gp id st i off,l,h,ha=>by cases x<;>simp only[qS] at h<;>cases h |x,.ev id,l,h,ha=>by cases x<;>simp only[qS] at h<;>cases h |x,.vw id n,l,h,ha=>by cases x<;>simp only[qS] at h<;>cases h
theorem Hf:∀{l:List SV} (l':List SV) {q:List oM},qL hp ρ l l'=ae q->bi q->Xm hp ρ l l'
 |[],[],_,_,_=>trivial |x::l,y::l',q,h,ha=>by
  simp only[qL] at h;obtain ⟨a,b,h1,h2,rfl⟩:=oU h;exact ⟨Xp y h1 (bw ha).1,Hf l' h2 (bw ha).2⟩
 |[],_::_,_,h,_=>by simp[qL] at h |_::_,[],_,h,_=>by simp[qL] at h
end
theorem al6:∀{l l':List (SV×SV)} {q:List oM},qM hp ρ l l'=ae q->bi q->leM hp ρ l l'
 |[],[],_,_,_=>trivial |(a,b)::l,(a',b')::l',q,h,ha=>by
  simp only[qM] at h;obtain ⟨q1,q2,h1,h2,rfl⟩:=oU h;obtain ⟨q3,q4,h3,h4,rfl⟩:=oU h2;obtain ⟨a1,a2⟩:=bw ha;obtain ⟨a3,a4⟩:=bw a2;exact ⟨Xp a' h1 a1,Xp b' h3 a3,al6 h4 a4⟩
 |[],_::_,_,h,_=>by simp[qM] at h |_::_,[],_,h,_=>by simp[qM] at h
theorem al7{id':Nat}{sb:SB}{q:List oM}(h:qB hp ρ id' sb=ae q)(ha:bi q):leB hp ρ id' sb:=by
 cases sb with
 |box cells' e'=>
  simp only[qB] at h;simp only[leB];split at h
  ·rename_i id hr
   simp only[hr];split at h
   ·rename_i cells e hl
    simp only[hl];obtain ⟨h1,h2⟩:=nV h;exact ⟨by simpa using h1,Hf _ h2 ha⟩
   ·cases h
  ·cases h
 |row cells' e' st' n'=>
  simp only[qB] at h;simp only[leB];split at h
  ·rename_i id hr
   simp only[hr];split at h
   ·rename_i cells e st n hl
    simp only[hl];obtain ⟨h1,h2⟩:=nV h;simp only[ak,beq_iff_eq] at h1;exact ⟨h1.1.1,h1.1.2,h1.2,Hf _ h2 ha⟩
   ·cases h
  ·cases h
 |own e' st' n' g'=>
  simp only[qB] at h;simp only[leB];split at h
  ·rename_i id hr
   simp only[hr];split at h
   ·rename_i e st n g hl
    simp only[hl];obtain ⟨h1,h2⟩:=nV h;cases h2;simp only[ak,beq_iff_eq] at h1;exact ⟨h1.1,h1.2,ha.1,ha.2.1⟩
   ·cases h
  ·rename_i hr
   simp only[hr];cases h;exact ha.1
  ·cases h
 |map es'=>
  simp only[qB] at h;grind [leB,id,al6]
 |fz st n g=>simp[qB] at h |KA l=>simp[qB] at h |yE e st n g m=>simp[qB] at h |fm k M fs us t=>simp[qB] at h |pm vt' M' us'=>
  simp only[qB] at h;split at h
  ·rename_i id hr
   split at h
   ·rename_i vt M us hl
    split at h
    ·rename_i N h1
     obtain ⟨h2,h3⟩:=nV h;cases h3;simp only[leB,hr,hl];have e:N=M':=ha.1;simp_all
    ·cases h
   ·cases h
  ·cases h
 |buf e' l'=>
  simp only[qB] at h;split at h
  ·rename_i id hr
   split at h
   ·rename_i e l hl
    obtain ⟨h1,h2⟩:=nV h;cases h2;simp only[leB,hr,hl];exact ⟨by grind,ha.1⟩
   ·cases h
  ·cases h
theorem al8:∀{l:List (Nat×SB)} {q:List oM},qH hp ρ l=ae q->bi q->leH hp ρ l
 |[],_,_,_=>trivial |(id',sb)::l,q,h,ha=>by
  simp only[qH] at h;obtain ⟨a,b,h1,h2,rfl⟩:=oU h;exact ⟨al7 h1 (bw ha).1,al8 h2 (bw ha).2⟩
theorem Xq{c c':Core}{q:List oM}(h:qC ρ c c'=ae q)(ha:bi q):leC ρ c c':=by
 unfold qC at h;obtain ⟨h1,h2⟩:=nV h;obtain ⟨a,b,h3,h4,rfl⟩:=oU h2;exact ⟨Hf _ h3 (bw ha).1,al8 h4 (bw ha).2,h1⟩
end
inductive Fe where
 |ret (s:Sh)
 |at_ (l:List oM)
def al9:It->It->Bool
 | .code p,.code q=>p==q | .inBlock i,.inBlock j=>i==j | .reg p l,.reg q m=>p==q&&l==m | .SI,.SI=>ah |_,_=>ag
def zu:List It->List It->Bool
 |[],[]=>ah |x::l,y::m=>al9 x y&&zu l m |_,_=>ag
theorem ama{x y:It}(h:al9 x y=ah):x=y:=by
 cases x<;>cases y<;>simp[al9] at h<;>simp_all
theorem CY:∀{l m:List It},zu l m=ah->l=m
 |[],[],_=>rfl |x::l,y::m,h=>by
  simp only[zu,ak] at h;rw[ama h.1,CY h.2]
 |[],_::_,h=>by simp[zu] at h |_::_,[],h=>by simp[zu] at h
structure Fr where
 g:Nat
 td:List It
 tm:List SV
inductive Oc where
 |fin (v:SV) (c:Core)
 |stop (g:Nat) (td:List It) (c:Core) (stk:List Fr)
def Jo(C:Ctx)(fn:Func)(td:List It)(c:Core):Option (Nat×Func×List SV):=
 match td with
 | .reg p (i::_)::_=>match oh (nC fn) p with
  | .region _ ops _=>match opAt ops.toList i with
   |some o=>match Gi ops.toList c.tm o with
    | .yes=>match o.op with
     | .call k=>match k.callee with
      | .value f=>match oI c.tm f with
       | .fn g cs=>match C.spec g with
        |some _=>ao |none=>match C.fns.get g with
         |some fn'=>bif cq (k.args.toList.map (oI c.tm)++cs).length fn'.ntmps&&fn'.body.isSome then ae (g,fn',k.args.toList.map (oI c.tm)++cs) else ao |none=>ao
       |_=>ao
      |_=>ao
     |_=>ao
    |_=>ao
   |none=>ao
  |_=>ao
 |_=>ao
def holdB(hold:Nat->Bool)(fn:Func)(td:List It)(c:Core):Bool:=
 match td with
 | .reg p (i::_)::_=>match oh (nC fn) p with
  | .region _ ops _=>match opAt ops.toList i with
   |some o=>match o.op with
    | .call k=>match k.callee with
     | .value f=>match oI c.tm f with
      | .fn g _=>hold g |_=>ag
     |_=>ag
    |_=>ag
   |none=>ag
  |_=>ag
 |_=>ag
def Lh(C:Ctx)(f:Fr)(v:SV)(c:Core):Option (List It×Core):=
 match C.fns.get f.g with
 |some fn=>match f.td with
  | .reg p (i::r)::k=>match oh (nC fn) p with
   | .region _ ops _=>ae (.reg p r::k,{c with tm:=BX f.tm ((opAt ops.toList i).bind (·.dst)) v})
   |_=>ao
  |_=>ao
 |none=>ao
def U2(C:Ctx)(hold:Nat->Bool)(m:Nat):Nat->Nat->List It->Core->List Fr->Tree Oc
 |0,g,td,c,stk=>.leaf (.stop g td c stk) |n+1,g,td,c,stk=>match C.fns.get g with
  |none=>.fail |some fn=>bif holdB hold fn td c then .leaf (.stop g td c stk) else match Jo C fn td c with
   |some r=>U2 C hold m n r.1 [.code []] {c with tm:=r.2.2++bf (r.2.1.ntmps - r.2.2.length) .any} ({g,td,tm:=c.tm}::stk)
   |none=>(Jf C (CB C (run C m ag)) ah g fn td c).bind fun s=>match s with
    | .go td c=>U2 C hold m n g td c stk | .halt td c=>.leaf (.stop g td c stk) | .done v c=>match stk with
     |[]=>.leaf (.fin v c) |f::stk=>match Lh C f v c with
      |some r=>U2 C hold m n f.g r.1 r.2 stk |none=>.fail
def base(g:Nat):Frame:={(default:Frame) with fn:=g,kind:=.normal}
def xB(C:Ctx)(H:Mem)(E:Env):List Fr->List Frame->Prop
 |[],[]=>True |f::s,mf::ms=>(∃fn a items,C.fns.get f.g=ae fn/\ni H E f.tm a.tmps.toList/\a.defers=[]/\pV (nC fn) f.td items/\mf=(base f.g).at a items)/\xB C H E s ms |_,_=>False
abbrev Hp:=Nat->Option Obj
def Hg(R:Hp->Prop)(K:Kx)(H:Mem)(E:Env)(w:World):Prop:=
 ∃h:Hp,R h/\∀b o,h b=ae o->w.heap[b]?=ae o/\H b=ao/\(∀i,bk E i≠ae b)/\(K.w0.heap.size<=b\/K.own b)
def emp:Hp->Prop:=fun _=>True
def J7(g:Nat):List Fr->Nat
 |[]=>g |f::s=>J7 f.g s
def mY(P:Program)(C:Ctx)(K:Kx)(g:Nat)(td:List It)(c:Core)(stk:List Fr)(R:Hp->Prop)(φ:Sh->Prop):Prop:=
 ∀(H:Mem) (E:Env) (w:World) (a:Act) (items:List Item) (ms cs:List Frame) (fn:Func),C.fns.get g=ae fn->St C K H E w c a->pV (nC fn) td items->xB C H E stk ms->Hg R K H E w->
  ∃(a':Act) (w':World) (v:Value) (s:Sh) (H':Mem) (todo:List Item) (fn0:Func),C.fns.get (J7 g stk)=ae fn0/\Steps P (lone ((base g).at a items) (ms++cs) w) (lone {(base (J7 g stk)).at a' todo with mode:=.returning} cs w')/\
   a'.defers=[]/\φ s/\qy K.H0 K.w0 s v H' w'/\(results fn0 a'.tmps).run P w'=.ok v w'
section
variable{P:Program}{C:Ctx}{K:Kx}{H H' G9 H0:Mem}{E E' He E1:Env}{w w' w'' w0:World}
theorem xB.le(hH:H.le H')(hE:E.le E'):∀{s:List Fr} {ms:List Frame},xB C H E s ms->xB C H' E' s ms
 |[],[],_=>trivial |_::_,_::_,⟨⟨fn,a,items,h1,h2,h3⟩,h4⟩=>⟨⟨fn,a,items,h1,h2.le hH hE,h3⟩,xB.le hH hE h4⟩ |[],_::_,h=>h.elim |_::_,[],h=>h.elim
def KC(H:Mem)(E:Env)(w:World)(hp:List (Nat×SB)):Kx:=⟨w,fun b=>∃id sb,mQ hp id=ae sb/\nU E id sb=ae b,H⟩
theorem xU.KC{K1 K2:Kx}{id:Nat}{sb:SB}(h:xU K1 H E w id sb)(hm:∀b,nU E id sb=ae b->Mine K1 H b->Mine K2 H b):xU K2 H E w id sb:=by
 cases sb with
 |box cells elem=>obtain ⟨b,cs,he,h1,h2,h3⟩:=h;exact ⟨b,cs,he,h1,h2,hm b (by simp[nU,he,nH]) h3⟩ |row cells elem st n=>obtain ⟨v,xs,he,h1,h2,h3⟩:=h;exact ⟨v,xs,he,h1,h2,fun b hb=>hm b (by simp[nU,he,hb]) (h3 b hb)⟩ |own elem st n g=>obtain ⟨v,xs,he,h1,h2,h3⟩:=h;exact ⟨v,xs,he,h1,h2,fun b hb=>hm b (by simp[nU,he,hb]) (h3 b hb)⟩ |fz st n g=>exact h |map es=>obtain ⟨b,ms,clk,he,h1,h2,h3⟩:=h;exact ⟨b,ms,clk,he,h1,h2,hm b (by simp[nU,he,nH]) h3⟩ |KA l=>exact h |yE elem st n g more=>obtain ⟨v,xs,ys,he,h1,h2,h3,h4,h5,h6⟩:=h;exact ⟨v,xs,ys,he,h1,h2,h3,h4,h5,fun b hb=>hm b (by simp[nU,he,hb]) (h6 b hb)⟩ |fm k M fs us tag=>obtain ⟨b,ms,clk,fv,uv,he,h1,h2,h3,h4,h5,h6,h7⟩:=h;exact ⟨b,ms,clk,fv,uv,he,h1,h2,h3,h4,h5,h6,hm b (by simp[nU,he,nH]) h7⟩ |pm vt M us=>obtain ⟨b,ms,clk,uv,he,h1,h2,h3,h4,h5,h7⟩:=h;exact ⟨b,ms,clk,uv,he,h1,h2,h3,h4,h5,hm b (by simp[nU,he,nH]) h7⟩ |buf e l=>obtain ⟨v,he,h1,h3⟩:=h;exact ⟨v,he,h1,fun b hb=>hm b (by simp[nU,he,hb]) (h3 b hb)⟩
theorem ad3{hp:List (Nat×SB)}(hh:nI K H E w hp)(hw:sF K H w):nI (KC H E w hp) H E w hp/\sF (KC H E w hp) H w:=
 ⟨⟨fun id sb hl=>(hh.ent id sb hl).KC fun _ hb hm=>⟨hm.1,.inr ⟨id,sb,hl,hb⟩⟩,hh.vV⟩,
  ⟨rfl,rfl,rfl,aV _,fun _ _ _=>rfl,hw.on,fun _ _ h=>h,fun _ h=>.inl h⟩⟩
theorem Xr{hp:List (Nat×SB)}(hh:nI K H E w hp)(hw:sF K H w){b:Nat}(h:w.heap.size<=b\/(KC H E w hp).own b):K.w0.heap.size<=b\/K.own b:=by
 rcases h with h|⟨id,sb,h1,h2⟩
 ·exact .inl (bL hw.size h)
 ·exact ((hh.ent _ _ h1).lt h2).2.2
theorem ad4{hp hp':List (Nat×SB)}(hh:nI K H E w hp)(hw:sF K H w)(hh':nI (KC H E w hp) H' E' w' hp')(hw':sF (KC H E w hp) H' w'):nI K H' E' w' hp'/\sF K H' w':=by
 refine ⟨⟨fun id sb hl=>(hh'.ent id sb hl).KC fun b hb hm=>⟨hm.1,Xr hh hw hm.2⟩,hh'.vV⟩,⟨hw'.os.trans hw.os,hw'.tape.trans hw.tape,hw'.output.trans hw.output,bL hw.size hw'.size,fun b hb hn=>?_,hw'.on,fun b o h=>hw'.le b o (hw.le b o h),fun b hb=>?_⟩⟩
 ·rw[hw'.kept b (by have:=hw.size;exact dp hb this) fun ho=>?_]
  ·exact hw.kept b hb hn
  ·(rcases Xr hh hw (.inr ho) with h|h)<;>grind
 ·rcases hw'.fresh b hb with h|h
  ·exact hw.fresh b h
  ·exact .inr (Xr hh hw h)
theorem St.re{c:Core}{a:Act}(st:St C K H E w c a):St C (KC H E w c.hp) H E w c a:=
 ⟨st.den,(ad3 st.hp st.o7).1,(ad3 st.hp st.o7).2,st.free,st.gl,st.defers⟩
theorem St.un{c c':Core}{a a':Act}(st:St C K H E w c a)(st':St C (KC H E w c.hp) H' E' w' c' a'):St C K H' E' w' c' a':=
 ⟨st'.den,(ad4 st.hp st.o7 st'.hp st'.o7).1,(ad4 st.hp st.o7 st'.hp st'.o7).2,st'.free,st'.gl,st'.defers⟩
theorem Hg.keep{R:Hp->Prop}{c c':Core}{a a':Act}(h:Hg R K H E w)(st:St C K H E w c a)(st':St C (KC H E w c.hp) H' E' w' c' a')(mv:Mv (KC H E w c.hp) H E w c H' E' w' c'):Hg R K H' E' w':=by
 obtain ⟨hh,hr,hb⟩:=h;refine ⟨hh,hr,fun b o e=>?_⟩;obtain ⟨h1,h2,h3,h4⟩:=hb b o e;have hlt:=(aI.1 h1).1;have hno:¬(KC H E w c.hp).own b:=fun ⟨id,sb,_,q⟩=>h3 id (wW q);refine ⟨by rw[st'.o7.kept b hlt hno];exact h1,?_,fun i hi=>?_,h4⟩
 ·cases hx:H' b with
  |none=>rfl |some o'=>
   rcases st'.o7.fresh b (by rw[hx];simp) with q|q|q
   ·exact (q h2).elim
   ·have q:w.heap.size<=b:=q;omega
   simp_all
 ·cases he:E i with
  |none=>
   (rcases mv.Fj i b he hi with q|⟨id,_,q⟩)<;>grind
  |some v=>
   have:bk E' i=bk E i:=by simp[bk,he,mv.BR _ _ he]
   simp_all
def ais(P:Program)(C:Ctx)(K:Kx)(R:Hp->Prop)(φ:Sh->Prop):Oc->Prop
 | .fin v c=>∃s,finish c v=ae s/\φ s | .stop g td c stk=>mY P C K g td c stk R φ
theorem AY{g:Nat}{fn:Func}{body:Code}(hP:P.funcs[g]?=ae fn)(hb:fn.body=ae body)(args:Array Value):
  cw P g args .normal=(base g).at {tmps:=args++bo (fn.ntmps - args.size) undef,defers:=[]} [.code body]:=by
 simp[cw,Frame.at,hP,hb,base]
theorem CZ(hC:oC P C)(hF:oD P C){hold:Nat->Bool}{m:Nat}{R:Hp->Prop}{φ:Sh->Prop}:∀{n g:Nat} {td:List It} {c:Core} {stk:List Fr},(U2 C hold m n g td c stk).All (ais P C (K0 H0 w0) R φ)->mY P C (K0 H0 w0) g td c stk R φ
 |0,g,td,c,stk,h=>h |n+1,g,td,c,stk,h=>by
  intro H E w a items ms cs fn hfn st hi hs hx;simp only[U2,hfn] at h;cases agL:holdB hold fn td c<;>simp only[agL,cond_true,cond_false] at h
  rotate_left
  ·exact h H E w a items ms cs fn hfn st hi hs hx
  split at h
  ·
   rename_i r hr;unfold Jo at hr;split at hr
   ·rename_i p i rest k
    split at hr
    ·rename_i rid ops dr hcode
     split at hr
     ·rename_i o ho
      split at hr
      ·rename_i hwant
       split at hr
       ·rename_i kk hop
        split at hr
        ·rename_i f ad5
         split at hr
         ·rename_i g2 caps hev
          split at hr
          ·cases hr
          ·rename_i hspec
           split at hr
           ·rename_i vX hfn2
            cases hb:(cq (kk.args.toList.map (oI c.tm)++caps).length vX.ntmps&&vX.body.isSome)<;>simp only[hb,cond_true,cond_false] at hr
            ·cases hr
            cases hr;simp only[ak] at hb;obtain ⟨body2,Jp⟩:=bG.1 hb.2;have ih:=CZ hC hF h;have hP2:=hC.fn g2 vX hfn2;cases hi with
            |reg p l id ops2 hc hk=>
             rw[hc] at hcode;cases hcode;rename_i k';have df:=ou (H:=H) (E:=E) st.den f;rw[hev] at df;obtain ⟨vs,ef,hvs⟩:=df;have hargs:=(DJ st.den kk.args.toList).append hvs;have ho':ops[i]?=ae o:=by grind [opAt]
             have hw':=wZ (ops:=ops) st.den o;rw[hwant] at hw';have hent:=hF.en g2 (.inr (by grind));have hrun:(execOp a.eval o).run P w=.ok (.enter g2 (kk.args.map a.eval++vs)) w:=by
              simp_all [execOp,resolve,cW,invoke,xA]
             have hg:=stepG_op (P:=P) (b:=base g) (k:=k') (cs:=ms++cs) (w:=w) (rest:=rest) ho' hw';have henter:step P (lone ((base g).at a (.inRegion ops (i::rest)::k')) (ms++cs) w)=.next (lone (cw P g2 (kk.args.map a.eval++vs) .normal) ((base g).at a (.inRegion ops (i::rest)::k')::(ms++cs)) w):=
              step_lone_go (by simp_all [bZ,Frame.at])
             rw[AY hP2 Jp] at henter;have hl:=hargs.length;have hlen:(kk.args.map a.eval++vs).size=(kk.args.toList.map (oI c.tm)++caps).length:=by
              simp_all
             have st2:St C (K0 H0 w0) H E w {c with tm:=(kk.args.toList.map (oI c.tm)++caps)++bf (vX.ntmps - (kk.args.toList.map (oI c.tm)++caps).length) .any} {tmps:=(kk.args.map a.eval++vs)++bo (vX.ntmps - (kk.args.map a.eval++vs).size) undef,defers:=[]}:=by
              refine ⟨?_,st.hp,st.o7,st.free,st.gl,rfl⟩;have:((kk.args.map a.eval++vs)++bo (vX.ntmps - (kk.args.map a.eval++vs).size) undef).toList=(kk.args.toList.map a.eval++vs.toList)++bf (vX.ntmps - (kk.args.toList.map (oI c.tm)++caps).length) undef:=by
               rw[hlen];simp
              simp only[this];exact hargs.append (jl _ _ (by simp))
             have hit2:pV (nC vX) [.code []] [.code body2]:=by
              have:=bV (body:=nC vX) [] gY;simp_all [oh,nC]
             have hs2:xB C H E ({g,td:=.reg p (i::rest)::k,tm:=c.tm}::stk) ((base g).at a (.inRegion ops (i::rest)::k')::ms):=
              ⟨⟨fn,a,_,hfn,st.den,st.defers,.reg p (i::rest) _ ops hc hk,rfl⟩,hs⟩
             obtain ⟨a',w',v,s,H',todo,fn0,q1,q2,q3⟩:=ih H E w _ _ (_::ms) cs vX hfn2 st2 hit2 hs2 hx;exact ⟨a',w',v,s,H',todo,fn0,q1,.head henter q2,q3⟩
           ·cases hr
         ·cases hr
        ·cases hr
       ·cases hr
      ·cases hr
     ·cases hr
    ·cases hr
   ·cases hr
  ·have hK:=Ip (K:=KC H E w c.hp) hC hF (Nl hC hF m)
   obtain ⟨sig,h1,h2⟩:=Nk hC hF hK (bz h) st.re hi (base g) (ms++cs);cases sig with
   |go uJ c'=>
    obtain ⟨a',w',H',E',items',q1,q2,q3,q4⟩:=h2;obtain ⟨a2,w2,v,s,H2,todo,fn0,r1,r2,r3⟩:=CZ hC hF h1 H' E' w' a' items' ms cs fn hfn (st.un q2) q4 (hs.le q3.x9 q3.BR) (hx.keep st q2 q3);exact ⟨a2,w2,v,s,H2,todo,fn0,r1,q1.trans r2,r3⟩
   |halt uJ c'=>
    obtain ⟨a',w',H',E',items',q1,q2,q3,q4⟩:=h2;obtain ⟨a2,w2,v,s,H2,todo,fn0,r1,r2,r3⟩:=h1 H' E' w' a' items' ms cs fn hfn (st.un q2) q4 (hs.le q3.x9 q3.BR) (hx.keep st q2 q3);exact ⟨a2,w2,v,s,H2,todo,fn0,r1,q1.trans r2,r3⟩
   |done sv c'=>
    obtain ⟨a',w',H',E',v,todo,q1,q2,q3,q4,q5⟩:=h2;cases stk with
    |nil=>
     cases ms with
     |cons _ _=>exact hs.elim |nil=>
      obtain ⟨s,e1,e2⟩:=h1;obtain ⟨H2,r⟩:=O5 (st.un q2) e1 q4;exact ⟨a',w',v,s,H2,todo,fn,hfn,q1,q2.defers,e2,r,q5⟩
    |cons f stk=>
     cases ms with
     |nil=>exact hs.elim |cons mf ms=>
      simp only at h1;split at h1
      ·rename_i r hr
       unfold Lh at hr;split at hr
       ·rename_i Hl ad6
        split at hr
        ·rename_i p i rest k htd
         split at hr
         ·rename_i rid ops dr hcode
          cases hr;obtain ⟨⟨fn3,a3,ait,g1,g2,g3,g4,g5⟩,hs'⟩:=hs.le q3.x9 q3.BR;rw[ad6] at g1;cases g1;rw[htd] at g4;cases g4 with
          |reg p l id ops2 hc hk=>
           rw[hc] at hcode;cases hcode;rename_i k';subst g5;have hleave:step P (lone {(base g).at a' todo with mode:=.returning} ((base f.g).at a3 (.inRegion ops (i::rest)::k')::(ms++cs)) w')=.next (lone ((base f.g).at (a3.put ((opAt ops.toList i).bind (·.dst)) v) (.inRegion ops rest::k')) (ms++cs) w'):=by
            rw[step_leave_returned (v:=v) ⟨rfl,q2.defers,rfl,fn,hC.fn g fn hfn,q5⟩,eF];simp[opAt]
           have NW:St C (K0 H0 w0) H' E' w' {c' with tm:=BX f.tm ((opAt ops.toList i).bind (·.dst)) sv} (a3.put ((opAt ops.toList i).bind (·.dst)) v):=
            ⟨zY (c:={c' with tm:=f.tm}) g2 _ q4,(st.un q2).hp,(st.un q2).o7,q2.free,q2.gl,by rw[put_defers];exact g3⟩
           obtain ⟨a2,w2,v2,s,H2,O8,fn0,r1,r2,r3⟩:=CZ hC hF h1 H' E' w' _ _ ms cs Hl ad6 NW (.reg p rest _ ops hc hk) hs' (hx.keep st q2 q3);exact ⟨a2,w2,v2,s,H2,O8,fn0,r1,(q1.trans (.one hleave)).trans r2,r3⟩
         ·cases hr
        ·cases hr
       ·cases hr
      ·exact h1.elim
end
structure zx where
 g:Nat
 td:List It
 c:Core
 stk:List Fr
mutual
def coll:SV->SV->List (Nat×Rn)
 | .gs i,.gs j=>[(i,.id j)] | .gs i,.nS=>[(i,.nil)] | .ptr i _,.ptr j _=>[(i,.id j)] | .mp i,.mp j=>[(i,.id j)] | .fn _ l,.fn _ m=>Fz l m | .agg l,.agg m=>Fz l m | .mX l,.mX m=>Fz l m | .qK _ x,.qK _ y=>coll x y |_,_=>[]
def Fz:List SV->List SV->List (Nat×Rn)
 |x::l,y::m=>coll x y++Fz l m |_,_=>[]
end
def amb:List (SV×SV)->List (SV×SV)->List (Nat×Rn)
 |(a,b)::l,(c,d)::m=>coll a c++coll b d++amb l m |_,_=>[]
def amc:Option SB->Option SB->List (Nat×Rn)
 |some (.box l _),ae (.box m _)=>Fz l m |some (.row l _ _ _),ae (.row m _ _ _)=>Fz l m |some (.map l),ae (.map m)=>amb l m |_,_=>[]
def amd:List Fr->List Fr->List (Nat×Rn)
 |f::s,f'::s'=>Fz f.tm f'.tm++amd s s' |_,_=>[]
def infer(hp' hp:List (Nat×SB)):Nat->List (Nat×Rn)->List (Nat×Rn)->List (Nat×Rn)
 |0,_,acc=>acc |_,[],acc=>acc |n+1,(i,r)::t,acc=>match mQ acc i with
  |some _=>infer hp' hp n t acc |none=>match r with
   | .id j=>infer hp' hp n (amc (mQ hp' i) (mQ hp j)++t) ((i,r)::acc) | .nil=>infer hp' hp n t ((i,r)::acc)
def Xt(hp:List (Nat×SB))(ρ:List (Nat×Rn)):List Fr->List Fr->Option (List oM)
 |[],[]=>ae [] |f::s,f'::s'=>qI (f.g==f'.g&&zu f.td f'.td) (uU (qL hp ρ f.tm f'.tm) (Xt hp ρ s s')) |_,_=>ao
inductive pI where
 |ret (s:Sh)
 |at_ (k:Nat) (l:List oM)
def Lj:List Fr->List Fr->Bool
 |[],[]=>ah |f::s,f'::s'=>f.g==f'.g&&zu f.td f'.td&&Lj s s' |_,_=>ag
def zx.rn(t:zx)(c:Core)(stk:List Fr):List (Nat×Rn):=infer t.c.hp c.hp 4000 (Fz t.c.tm c.tm++amd t.stk stk) []
def QG(g:Nat)(td:List It)(c:Core)(stk:List Fr):Nat->List zx->Tree pI
 |_,[]=>.fail |k,t::r=>bif g==t.g&&zu td t.td&&Lj stk t.stk then match uU (qC (t.rn c stk) c t.c) (Xt c.hp (t.rn c stk) stk t.stk) with
   |some l=>.leaf (.at_ k l) |none=>.fail
  else QG g td c stk (k+1) r
def ame(ts:List zx):Oc->Tree pI
 | .fin v c=>match finish c v with
  |some s=>.leaf (.ret s) |none=>.fail
 | .stop g td c stk=>QG g td c stk 0 ts
def nR(C:Ctx)(hold:Nat->Bool)(m n g:Nat)(td:List It)(c:Core)(stk:List Fr)(ts:List zx):Tree pI:=(U2 C hold m n g td c stk).bind (ame ts)
def yc(P:Program)(C:Ctx)(K:Kx)(ts:List zx)(R:Hp->Prop)(φ:Sh->Prop):pI->Prop
 | .ret s=>φ s | .at_ k l=>bi l/\∃t,ts[k]?=ae t/\mY P C K t.g t.td t.c t.stk R φ
section
variable{P:Program}{C:Ctx}{K:Kx}{H H' G9 H0:Mem}{E E' He E1:Env}{w w' w'' w0:World}
def Xu(hp:List (Nat×SB))(ρ:List (Nat×Rn)):List Fr->List Fr->Prop
 |[],[]=>True |f::s,f'::s'=>f.g=f'.g/\f.td=f'.td/\Xm hp ρ f.tm f'.tm/\Xu hp ρ s s' |_,_=>False
theorem Xv{hp:List (Nat×SB)}{ρ:List (Nat×Rn)}:∀{s s':List Fr} {q:List oM},Xt hp ρ s s'=ae q->bi q->Xu hp ρ s s'
 |[],[],_,_,_=>trivial |f::s,f'::s',q,h,ha=>by
  simp only[Xt] at h;obtain ⟨h1,h2⟩:=nV h;obtain ⟨a,b,h3,h4,rfl⟩:=oU h2;simp only[ak,beq_iff_eq] at h1;exact ⟨h1.1,CY h1.2,Hf _ h3 (bw ha).1,Xv h4 (bw ha).2⟩
 |[],_::_,_,h,_=>by simp[Xt] at h |_::_,[],_,h,_=>by simp[Xt] at h
theorem xB.weak{hp:List (Nat×SB)}{ρ:List (Nat×Rn)}(hh:nI K H E w hp):∀{s s':List Fr} {ms:List Frame},xB C H E s ms->Xu hp ρ s s'->xB C H (wo ρ E) s' ms
 |[],[],[],_,_=>trivial |f::s,f'::s',m::ms,⟨⟨fn,a,items,h1,h2,h3,h4,h5⟩,h6⟩,⟨e1,e2,e3,e4⟩=>
  ⟨⟨fn,a,items,by simp_all,Aa hh _ e3 h2,h3,by simp_all,by simp_all⟩,xB.weak hh h6 e4⟩
 |[],[],_::_,h,_=>h.elim |_::_,_,[],h,_=>h.elim |[],_::_,_,_,h=>h.elim |_::_,[],_::_,_,h=>h.elim
theorem Hg.weak{R:Hp->Prop}{ρ:List (Nat×Rn)}(h:Hg R K H E w):Hg R K H (wo ρ E) w:=by
 obtain ⟨hh,h1,h2⟩:=h;refine ⟨hh,h1,fun b o e=>?_⟩;obtain ⟨a1,a2,a3,a4⟩:=h2 b o e;refine ⟨a1,a2,fun i=>?_,a4⟩;unfold bk wo;cases hr:mQ ρ i with
 |none=>simp |some r=>
  cases r with
  |id j=>exact a3 j |nil=>simp[nH]
theorem ad7{hp:List (Nat×SB)}{ρ:List (Nat×Rn)}:∀{s s':List Fr} {g:Nat},Xu hp ρ s s'->J7 g s'=J7 g s
 |[],[],_,_=>rfl |f::s,f'::s',_,⟨e1,_,_,e4⟩=>by simp only[J7];rw[e1];exact ad7 e4 |[],_::_,_,h=>h.elim |_::_,[],_,h=>h.elim
theorem Ll{g:Nat}{td:List It}{c c':Core}{stk AZ:List Fr}{R:Hp->Prop}{φ:Sh->Prop}(ρ:List (Nat×Rn))(hle:leC ρ c c')(hs:Xu c.hp ρ stk AZ)(h:mY P C K g td c' AZ R φ):mY P C K g td c stk R φ:=by
 intro H E w a items ms cs fn hfn st hi hst hx;have:=h H (wo ρ E) w a items ms cs fn hfn (st.weak hle) hi (hst.weak st.hp hs) hx.weak;grind [ad7]
theorem O9{R:Hp->Prop}{φ:Sh->Prop}{ts:List zx}{g:Nat}{td:List It}{c:Core}{stk:List Fr}:∀{r:List zx} {k:Nat},(∀j,r[j]?=ts[k+j]?)->(QG g td c stk k r).All (yc P C K ts R φ)->mY P C K g td c stk R φ
 |[],_,_,h=>h.elim |t::r,k,hk,h=>by
  unfold QG at h;cases hb:(g==t.g&&zu td t.td&&Lj stk t.stk)<;>simp only[hb,cond_true,cond_false] at h
  ·exact O9 (fun j=>by have:=hk (j+1);grind) h
  ·simp only[ak,beq_iff_eq] at hb
   obtain ⟨⟨h1,h2⟩,h3⟩:=hb;split at h
   ·rename_i l hl
    obtain ⟨a,b,q1,q2,rfl⟩:=oU hl;obtain ⟨hl,t',ht,hg⟩:=h;have:=hk 0;simp only[ee,dH] at this;rw[<-this] at ht;cases ht;have h2:=CY h2;subst h1 h2;exact Ll (t.rn c stk) (Xq q1 (bw hl).1) (Xv q2 (bw hl).2) hg
   ·exact h.elim
theorem pK[hC:oC P C](hold:Nat->Bool)(hF:oD P C)(m n:Nat)(ts:List zx){g:Nat}{td:List It}{c:Core}{stk:List Fr}{R:Hp->Prop}{φ:Sh->Prop}
  (h:(nR C hold m n g td c stk ts).All (yc P C (K0 H0 w0) ts R φ)):mY P C (K0 H0 w0) g td c stk R φ:=by
 refine CZ hC hF (hold:=hold) (m:=m) (n:=n) ((bz h).mono fun o ho=>?_);cases o with
 |fin v c=>
  simp only[ame] at ho;split at ho
  ·rename_i s hs
   exact ⟨s,hs,ho⟩
  ·exact ho.elim
 |stop g td c stk=>exact O9 (k:=0) (fun j=>by simp) ho
theorem ad8{g:Nat}{fn:Func}{p:List Nat}{k:List It}{x:Code}{c:Core}{stk:List Fr}{R:Hp->Prop}{φ:Sh->Prop}(hfn:C.fns.get g=ae fn)(hx:oh (nC fn) p=.loop x)
  (h:mY P C K g (.code (0::p)::.code p::k) c stk R φ):mY P C K g (.code p::k) c stk R φ:=by
 intro H E w a items ms cs fn' hfn' st hi hs he;rw[hfn] at hfn';cases hfn';have h0:oh (nC fn) (0::p)=x:=by simp[oh,hx,child]
 cases hi with
 |code p hk=>
  have:=bV (0::p) (fJ p x hx hk);rw[h0] at this;rw[hx];obtain ⟨a2,w2,v,s,H',todo,fn0,r0,r1,r2⟩:=h H E w a _ ms cs fn hfn st this hs he;exact ⟨a2,w2,v,s,H',todo,fn0,r0,.head step_loop r1,r2⟩
 |loop p y hl hk=>
  rw[hx] at hl;cases hl;have:=bV (0::p) (fJ p x hx hk);rw[h0] at this;obtain ⟨a2,w2,v,s,H',todo,fn0,r0,r1,r2⟩:=h H E w a _ ms cs fn hfn st this hs he;exact ⟨a2,w2,v,s,H',todo,fn0,r0,.head step_inLoop r1,r2⟩
theorem Iq:Hg emp K H E w:=⟨fun _=>ao,trivial,fun _ _ h=>by cases h⟩
theorem zI(C:Ctx)[hC:oC P C](fn:Func){g:Nat}{F:List Sh->Tree Sh}
  (h:∀(H:Mem) (w:World) (nY:List Sh) (args:List Value) (φ:Sh->Prop),sD H nY args->(F nY).All φ->∃vg:List Sh,sD H vg args/\∃L,mY P C (K0 H w) g [.code []] (nX fn.ntmps vg L) [] emp φ) (hfn:C.fns.get g=ae fn:=by kernel_rfl) (hb:fn.body.isSome=ah:=by kernel_rfl):nD P C.gls g F:=by
 intro H w nY args φ hon hg hr hφ;obtain ⟨vg,hr,L,hgo⟩:=h H w nY args φ hr hφ;obtain ⟨body,hbody⟩:=bG.1 hb;have hP:=hC.fn g fn hfn;intro cs;let a:Act:={tmps:=args.toArray++bo (fn.ntmps - args.toArray.size) undef,defers:=[]}
 have hlen:=hr.length;have st:St C (K0 H w) H E0 w (nX fn.ntmps vg L) a:=by
  refine ⟨?_,⟨fun _ _ h=>by simp[nX,mQ] at h,fun _ _ _ _ _ h=>by simp[nX,mQ] at h⟩,⟨rfl,rfl,rfl,aV _,fun _ _ _=>rfl,hon,fun _ _ h=>h,fun _ h=>.inl h⟩,fun _ _ _=>rfl,hg,rfl⟩;have:a.tmps.toList=args++bf (fn.ntmps - vg.length) undef:=by simp[a,hlen]
  rw[this];exact (AO hr).append (jl _ _ (by simp))
 have hit:pV (nC fn) [.code []] [.code body]:=by
  have:=bV (body:=nC fn) [] gY;simp_all [oh,nC]
 obtain ⟨a',w',v,s,H',todo,fn0,q0,q1,q2,q3,q4,q5⟩:=hgo H E0 w a [.code body] [] cs fn hfn st hit trivial Iq;exact ⟨.returned v,w',_,⟨v,s,H',rfl,q3,q4⟩,by rw[AY hP hbody];exact q1,rfl,rfl,q2,rfl,fn,hP,by cases hfn.symm.trans q0;exact q5⟩
end
def Jq:Code->Bool
 | .loop _=>ah |_=>ag
def Nq(fn:Func):List It->Option (List It)
 | .code p::k=>bif Jq (oh (nC fn) p) then ae (.code (0::p)::.code p::k) else ao |_=>ao
theorem uT{P:Program}{C:Ctx}{K:Kx}{g:Nat}(fn:Func)(tb:List It){td:List It}{c:Core}{stk:List Fr}{R:Hp->Prop}{φ:Sh->Prop}
  (h:mY P C K g tb c stk R φ) (hfn:C.fns.get g=ae fn:=by kernel_rfl) (hx:Nq fn td=ae tb:=by kernel_rfl):mY P C K g td c stk R φ:=by
 unfold Nq at hx;split at hx
 ·rename_i p k
  cases hb:Jq (oh (nC fn) p)<;>simp only[hb,cond_true,cond_false] at hx
  ·cases hx
  ·cases hx
   unfold Jq at hb;grind [ad8]
 ·cases hx
def xC(P:Program):List Field->Nat->List SV->Bool
 |[],_,[]=>ah
 |f::r,j,.int .i64 _::z=>f.name != "_" && f.offset==j&&(match P.underlying f.type with|some (.int .i64)=>ah|_=>ag)&&xC P r (j+1) z
 |f::r,j,.bool _::z=>f.name != "_" && f.offset==j&&(match P.underlying f.type with|some .bool=>ah|_=>ag)&&xC P r (j+1) z
 |_,_,_=>ag
def ab2(P:Program)(t:Nat)(z:List SV):Bool:=
 (match P.underlying t with|some (.struct fs)=>xC P fs.toList 0 z|_=>ag) && !P.stoodInHeld t && !P.eqGuardType P.depth t
theorem aaB{P:Program}{t:Nat}{k:IntKind}(hu:P.underlying t=ae (.int k))(xs:List Cq)(j:Nat)(n:Int)(hj:xs[j]?=ae (.i n))(w:World):
  (part t (xs.map fB).toArray j).run P w=.ok (.int .i64 n) w:=by
 simp_all [fB,part,isAgg,run_underlying]
theorem Xw{P:Program}{t:Nat}(hu:P.underlying t=ae .bool)(xs:List Cq)(j:Nat)(n:Bool)(hj:xs[j]?=ae (.b n))(w:World):
  (part t (xs.map fB).toArray j).run P w=.ok (.bool n) w:=by
 simp_all [fB,part,isAgg,run_underlying]
theorem Xx{l:List Cq}{k:IntKind}{n:Int}{z:List SV}(h:qV l (.int k n::z)=ah):∃a r,l=.i a::r/\qV r z=ah:=by
 unfold qV at h;grind
theorem U3{l:List Cq}{n:Bool}{z:List SV}(h:qV l (.bool n::z)=ah):∃a r,l=.b a::r/\qV r z=ah:=by
 unfold qV at h;grind
theorem Xy{l:List Cq}(h:qV l []=ah):l=[]:=by
 grind [qV]
theorem Nr{α:Type}{l:List α}{j:Nat}{a:α}{r:List α}(h:l.drop j=a::r):l[j]?=ae a/\l.drop (j+1)=r:=by
 have h1:l[j]?=ae a:=by
  have:=congrArg (fun x=>x[0]?) h;grind
 grind [List.tail_drop]
theorem Jr{P:Program}(d:Nat)(w:World)(xs ys:List Cq):∀(fs:List Field) (j:Nat) (z:List SV),xC P fs j z=ah->qV (xs.drop j) z=ah->qV (ys.drop j) z=ah->
  (iS (d+1) (xs.map fB).toArray (ys.map fB).toArray fs).run P w=.ok (decide (xs.drop j=ys.drop j)) w
 |[],j,z,h,h1,h2=>by
  cases z with
  |cons a z=>simp[xC] at h |nil=>rw[Xy h1,Xy h2];rfl
 |f::fs,j,z,h,h1,h2=>by
  cases z with
  |nil=>simp[xC] at h |cons a0 z=>
  cases a0;case int k n=>
   cases k;case i64=>
    unfold xC at h;simp only[ak,bne_iff_ne,ne_eq,beq_iff_eq] at h;obtain ⟨⟨⟨a1,a2⟩,a3⟩,a4⟩:=h;have hu:P.underlying f.type=ae (.int .i64):=by
     grind
    obtain ⟨a,r1,q1,s1⟩:=Xx h1;obtain ⟨b,r2,q2,s2⟩:=Xx h2;obtain ⟨g1,t1⟩:=Nr q1;obtain ⟨g2,t2⟩:=Nr q2;have p1:=aaB hu xs j _ g1 w;have p2:=aaB hu ys j _ g2 w;have q:=run_equalIn_int (P:=P) w d f.type .i64 .i64 a b hu;have ih:=Jr d w xs ys fs (j+1) z a4 (by simp_all) (by simp_all);have hn:f.name≠ "_" :=by omega
    simp only[iS,hn,ne_eq,not_false_eq_true,if_true,a2,ct,p1,p2,q,cK,me];rw[q1,q2];rw[t1,t2] at ih;(by_cases hb:a=b)<;>simp_all
   all_goals simp[xC] at h
  case bool n=>
   unfold xC at h;simp only[ak,bne_iff_ne,ne_eq,beq_iff_eq] at h;obtain ⟨⟨⟨a1,a2⟩,a3⟩,a4⟩:=h;have hu:P.underlying f.type=ae .bool:=by
    grind
   obtain ⟨a,r1,q1,s1⟩:=U3 h1;obtain ⟨b,r2,q2,s2⟩:=U3 h2;obtain ⟨g1,t1⟩:=Nr q1;obtain ⟨g2,t2⟩:=Nr q2;have p1:=Xw hu xs j _ g1 w;have p2:=Xw hu ys j _ g2 w;have q:=run_equalIn_bool' (P:=P) w d f.type a b hu;have ih:=Jr d w xs ys fs (j+1) z a4 (by simp_all) (by simp_all);have hn:f.name≠ "_" :=by omega
   simp only[iS,hn,ne_eq,not_false_eq_true,if_true,a2,ct,p1,p2,q,cK,me];rw[q1,q2];rw[t1,t2] at ih;(by_cases hb:a=b)<;>simp_all
  all_goals simp[xC] at h
theorem Ns{P:Program}{t:Nat}{z:List SV}(h:ab2 P t z=ah)(xs ys:List Cq)(w:World)(h1:qV xs z=ah)(h2:qV ys z=ah)(x y:Operand):
  (do eqGuard .eql t x y (.agg (xs.map fB).toArray) (.agg (ys.map fB).toArray);binOp .eql t (.agg (xs.map fB).toArray) (.agg (ys.map fB).toArray):Sem Value).run P w=.ok (.bool (decide (xs=ys))) w/\
  (do eqGuard .neq t x y (.agg (xs.map fB).toArray) (.agg (ys.map fB).toArray);binOp .neq t (.agg (xs.map fB).toArray) (.agg (ys.map fB).toArray):Sem Value).run P w=.ok (.bool (!decide (xs=ys))) w:=by
 unfold ab2 at h;simp only[ak,Bool.not_eq_true'] at h;obtain ⟨⟨a1,a2⟩,a3⟩:=h;split at a1
 ·rename_i fs hu
  have hf:P.fieldsOf t=fs:=by simp[Program.fieldsOf,hu]
  have he:=run_equalIn_struct (P:=P) w 9999 t (xs.map fB).toArray (ys.map fB).toArray (by simp_all) a2;rw[hf,Jr 9998 w xs ys fs.toList 0 z a1 (by assumption) (by assumption)] at he;simp only[List.drop_zero] at he;simp_all [run_eqGuard_agg,run_eql_struct,run_neq_struct,ct,cK]
 ·cases a1
def ad9(P:Program):List Nat->Bool
 |[]=>ah |T::r=>(match P.info? T with|some inf=>inf.comparable|none=>ag)&&(match P.underlying T with|some (.pointer e)=>(match P.info? e with|some ie=>ie.size != 0|none=>ag) |_=>ag)&&ad9 P r
theorem Lm{P:Program}:∀{l:List Nat},ad9 P l=ah->∀T,l.contains T=ah->∃inf e ie,P.info? T=ae inf/\inf.comparable=ah/\P.underlying T=ae (.pointer e)/\P.info? e=ae ie/\ie.size≠0
 |[],_,T,h=>by simp at h |T'::r,h,T,hT=>by
  simp only[ad9,ak] at h;obtain ⟨⟨h1,h2⟩,h3⟩:=h;simp only[iT,gJ,beq_iff_eq] at hT;rcases hT with rfl|hT
  ·grind
  ·exact Lm h3 T hT
def QH(P:Program)(tys:BT BQ):List Nat->Bool
 |[]=>ah |t::r=>(match tys.get t with|some i=>ab2 P t i.zero|none=>ah)&&QH P tys r
theorem FB{P:Program}{tys:BT BQ}:∀{l:List Nat},QH P tys l=ah->∀t i,l.contains t=ah->tys.get t=ae i->ab2 P t i.zero=ah
 |[],_,t,_,h,_=>by simp at h |t'::r,h,t,i,ht,hi=>by
  simp only[QH,ak] at h;simp only[iT,gJ,beq_iff_eq] at ht;rcases ht with rfl|ht
  ·simp_all
  ·exact FB h.2 t i ht hi
section
variable{P:Program}{C:Ctx}{H H':Mem}{E E':Env}{w w':World}
def Ec(E:Env)(hp:List (Nat×SB)):Nat->Prop:=fun b=>∃id sb,mQ hp id=ae sb/\nU E id sb=ae b
theorem ab3{K:Kx}{hp:List (Nat×SB)}(p:Nat->Bool)(h:nI K H E w hp):nI K H E w (dropKey p hp):=by
 have key:∀{i:Nat} {sb:SB},mQ (dropKey p hp) i=ae sb->mQ hp i=ae sb:=fun {i sb} hl=>by
  grind [Dz]
 exact ⟨fun id sb hl=>h.ent id sb (key hl),fun id id' sb sb' b l1 l2 o1 o2=>h.vV id id' sb sb' b (key l1) (key l2) o1 o2⟩
end
inductive ayv where
 |fin (v:SV) (hp:List (Nat×SB))
 |stop (td:List It) (c:Core)
section
variable{P:Program}{C:Ctx}{K:Kx}{H H':Mem}{E E' E0:Env}{w w':World}
end
def qF(hp:List (Nat×SB))(ρ:List (Nat×Rn)):List (Int×Bool×SV)->List (Int×Bool×SV)->Option (List oM)
 |[],[]=>ae [] |(n,p,x)::l,(n',p',x')::l'=>qI (p==p') (uU (ae [.int n n']) (uU (bif p' then qS hp ρ x x' else ae []) (qF hp ρ l l'))) |_,_=>ao
def qB2(hp:List (Nat×SB))(ρ:List (Nat×Rn))(id':Nat):SB->Option (List oM)
 | .fm k' M' fs' us' tg'=>match mQ ρ id' with
  |some (.id id)=>match mQ hp id with
   |some (.fm k M fs us _)=>qI (k==k'&&tg'.isNone) (uU (ae [.mp M M']) (uU (qF hp ρ fs fs') (qF hp ρ us us'))) |_=>ao
  |_=>ao
 | .yE e' st' n' g' more'=>match mQ ρ id' with
  |some (.id id)=>match mQ hp id with
   |some (.yE e st n g more)=>qI (e==e'&&st==st'&&more.length==more'.length&&vY more') (uU (ae [.nat n n',.get n g g']) (qL hp ρ more more')) |_=>ao
  |_=>ao
 |sb=>qB hp ρ id' sb
def qH2(hp:List (Nat×SB))(ρ:List (Nat×Rn)):List (Nat×SB)->Option (List oM)
 |[]=>ae [] |(id',sb)::l=>uU (qB2 hp ρ id' sb) (qH2 hp ρ l)
def V3:List (Int×Bool×SV)->List (Int×Bool×SV)->List (Nat×Rn)
 |(_,ah,x)::l,(_,ah,y)::m=>coll x y++V3 l m |_::l,_::m=>V3 l m |_,_=>[]
def apR:Option SB->Option SB->List (Nat×Rn)
 |some (.fm _ _ fs us _),ae (.fm _ _ gs vs _)=>V3 fs gs++V3 us vs |some (.yE _ _ _ _ l),ae (.yE _ _ _ _ m)=>Fz l m |a,b=>amc a b
def V4(hp' hp:List (Nat×SB)):Nat->List (Nat×Rn)->List (Nat×Rn)->List (Nat×Rn)
 |0,_,acc=>acc |_,[],acc=>acc |n+1,(i,r)::t,acc=>match mQ acc i with
  |some _=>V4 hp' hp n t acc |none=>match r with
   | .id j=>V4 hp' hp n (apR (mQ hp' i) (mQ hp j)++t) ((i,r)::acc) | .nil=>V4 hp' hp n t ((i,r)::acc)
structure KD where
 hp:List (Nat×SB)
 keep:List Nat
def KD.rn(t:KD)(hp:List (Nat×SB)):List (Nat×Rn):=V4 t.hp hp 4000 (t.keep.map fun i=>(i,.id i)) []
def aiu(hp:List (Nat×SB))(t:KD):Option (List oM):=qI (CX (Eb (t.rn hp))&&t.keep.all fun i=>aaA (mQ (t.rn hp) i) i) (qH2 hp (t.rn hp) t.hp)
def aiv(v:SV)(hp:List (Nat×SB)):Nat->List KD->Tree (SV×Nat×List oM)
 |_,[]=>.fail |k,t::r=>match aiu hp t with
  |some l=>.leaf (v,k,l) |none=>aiv v hp (k+1) r
def toEnd(ts:List KD):Out->Tree (SV×Nat×List oM)
 | .done v c=>aiv v c.hp 0 ts | .stop _ _ _=>.fail
def xE(ts:List KD)(φ:SV->Nat->Prop):SV×Nat×List oM->Prop
 |(v,k,l)=>bi l/\φ v k
@[irreducible] def uG (ψ:SV×Nat×List oM->Prop) (t:Tree (SV×Nat×List oM)):Prop:=t.All ψ
theorem qj(ψ:SV×Nat×List oM->Prop)(t:Tree (SV×Nat×List oM)):uG ψ t=t.All ψ:=by unfold uG;rfl
section
variable{P:Program}{C:Ctx}{K:Kx}{H H':Mem}{E E':Env}{w w':World}{hp:List (Nat×SB)}{ρ:List (Nat×Rn)}
theorem ab4(hh:nI K H E w hp):∀{l l':List (Int×Bool×SV)} {q:List oM} {r:List (Int×Option Value)},qF hp ρ l l'=ae q->bi q->xP H E l r->xP H (wo ρ E) l' r
 |[],[],_,[],_,_,_=>trivial |(n,p,x)::l,(n',p',x')::l',q,(k,o)::r,hq,ha,⟨h1,h2,h3⟩=>by
  simp only[qF] at hq;obtain ⟨hp',hq⟩:=nV hq;obtain ⟨a,b,e1,e2,rfl⟩:=oU hq;obtain ⟨c,d,e3,e4,rfl⟩:=oU e2;cases e1;have hpp:p=p':=by grind
  subst hpp;obtain ⟨hn,ha⟩:=ha;have hn:n=n':=hn;subst hn;have ha2:=bw (show bi (c++d) from ha);refine ⟨h1,?_,ab4 hh e4 ha2.2 h3⟩;cases p with
  |true=>
   cases o with
   |none=>exact h2 |some v=>exact ⟨Ld hh _ (Xp _ e3 ha2.1) h2.1,h2.2⟩
  |false=>
   grind
 |[],_::_,_,_,h,_,_=>by simp[qF] at h |_::_,[],_,_,h,_,_=>by simp[qF] at h |_::_,_::_,_,[],_,_,h=>h.elim |[],[],_,_::_,_,_,h=>h.elim
theorem ab5(hh:nI K H E w hp){id':Nat}{sb:SB}{q:List oM}(hq:qB2 hp ρ id' sb=ae q)(ha:bi q):
  xU K H (wo ρ E) w id' sb/\∀b,nU (wo ρ E) id' sb=ae b->∃id s0,mQ ρ id'=ae (.id id)/\mQ hp id=ae s0/\nU E id s0=ae b:=by
 unfold qB2 at hq;split at hq
 ·rename_i k' M' fs' us' tg'
  split at hq
  ·rename_i id hr
   split at hq
   ·rename_i k M fs us tg hl
    obtain ⟨hk,hq⟩:=nV hq;obtain ⟨a,b,e1,e2,rfl⟩:=oU hq;obtain ⟨c,d,e3,e4,rfl⟩:=oU e2;cases e1;simp only[ak,beq_iff_eq,Option.isNone_iff_eq_none] at hk;obtain ⟨rfl,rfl⟩:=hk;obtain ⟨hM,ha⟩:=ha;have hM:M=M':=hM;subst hM;have ha2:=bw (show bi (c++d) from ha);obtain ⟨b,ms,clk,fv,uv,he,h1,h2,h3,h4,h5,h6,h7⟩:=hh.ent _ _ hl;refine ⟨⟨b,ms,clk,fv,uv,by grind [rG],h1,ab4 hh e3 ha2.1 h2,ab4 hh e4 ha2.2 h3,h4,h5,trivial,h7⟩,fun b' hb=>⟨id,_,hr,hl,?_⟩⟩;simp_all [nU,rG]
   ·cases hq
  ·cases hq
 ·rename_i e' st' n' g' more'
  split at hq
  ·rename_i id hr
   split at hq
   ·rename_i e st n g more hl
    obtain ⟨hk,hq⟩:=nV hq;obtain ⟨a,b,e1,e2,rfl⟩:=oU hq;cases e1;simp only[ak,beq_iff_eq] at hk;obtain ⟨⟨⟨rfl,rfl⟩,hlen⟩,hone⟩:=hk;obtain ⟨hn,hg,ha⟩:=ha;have hn:n=n':=hn;subst hn;have hg:∀i,i<n->g i=g' i:=hg;obtain ⟨v,xs,ys,he,h1,h2,h3,h4,h5,h6⟩:=hh.ent _ _ hl;refine ⟨⟨v,xs,ys,by grind [rG],by simp_all,Le h2 hg,Aa hh _ (Hf _ e2 ha) h3,by simp_all,hone,h6⟩,fun b' hb=>⟨id,_,hr,hl,?_⟩⟩;simp_all [nU,rG]
   ·cases hq
  ·cases hq
 grind [QC,al7]
theorem V5:∀{l:List (Nat×SB)} {q:List oM} {i:Nat} {sb:SB},qH2 hp ρ l=ae q->bi q->mQ l i=ae sb->∃q',qB2 hp ρ i sb=ae q'/\bi q'
 |[],_,_,_,_,_,h=>by simp[mQ] at h |(j,x)::l,q,i,sb,hq,ha,h=>by
  simp only[qH2] at hq;obtain ⟨a,b,e1,e2,rfl⟩:=oU hq;simp only[mQ] at h;cases hj:(j==i)<;>simp only[hj,cond_true,cond_false] at h
  ·exact V5 e2 (bw ha).2 h
  grind [bw]
theorem amf(hh:nI K H E w hp){t:KD}{q:List oM}(hq:aiu hp t=ae q)(ha:bi q):∃E',nI K H E' w t.hp/\∀i∈t.keep,E' i=E i:=by
 unfold aiu at hq;obtain ⟨h1,h2⟩:=nV hq;simp only[ak,bh] at h1;refine ⟨wo (t.rn hp) E,⟨fun id sb hl=>?_,fun id id' sb sb' b l1 l2 o1 o2=>?_⟩,fun i hi=>rG (QF (h1.2 i hi))⟩
 ·grind [V5,ab5]
 ·obtain ⟨q1,e1,e2⟩:=V5 h2 ha l1
  obtain ⟨q2,e3,e4⟩:=V5 h2 ha l2;obtain ⟨i1,s1,a1,a2,a3⟩:=(ab5 hh e1 e2).2 b o1;obtain ⟨i2,s2,b1,b2,b3⟩:=(ab5 hh e3 e4).2 b o2;have:=hh.vV _ _ _ _ _ a2 b2 a3 b3;grind [abZ]
theorem aea{v:SV}{φ:SV->Nat->Prop}{ts:List KD}:∀{r:List KD} {k:Nat},(∀j,r[j]?=ts[k+j]?)->(aiv v hp k r).All (xE ts φ)->∃j t q,ts[j]?=ae t/\aiu hp t=ae q/\bi q/\φ v j
 |[],_,_,h=>h.elim |t::r,k,hk,h=>by
  unfold aiv at h;split at h
  ·rename_i l hl
   have:=hk 0;simp only[ee,dH] at this;exact ⟨k,t,l,this.symm,hl,h.1,h.2⟩
  ·exact aea (fun j=>by have:=hk (j+1);grind) h
theorem agM(hC:oC P C)(hF:oD P C){n g:Nat}{fn:Func}{c:Core}{args:Array Value}{ts:List KD}{φ:SV->Nat->Prop}(hfn:C.fns.get g=ae fn)(hb:fn.body.isSome=ah)
  (hd:ni H E c.tm (args++bo (fn.ntmps - args.size) undef).toList) (hh:nI ⟨w,Ec E c.hp,H⟩ H E w c.hp) (hon:H.on w) (hfree:Free E c) (hg:qE C.gls H)
  (h:uG (xE ts φ) ((run C n ah g [.code []] c).bind (toEnd ts))) :
  Calls P g args w fun e w'=>∃v sv k t H' E1 E',e=.returned v/\φ sv k/\ts[k]?=ae t/\Den H' E1 sv v/\nI ⟨w,Ec E c.hp,H⟩ H' E' w' t.hp/\sF ⟨w,Ec E c.hp,H⟩ H' w'/\H.le H'/\∀i∈t.keep,∀u,E i=ae u->E' i=ae u:=by
 rw[qj] at h;intro cs;obtain ⟨body,hbody⟩:=bG.1 hb;have hP:=hC.fn g fn hfn;let b:Frame:={(default:Frame) with fn:=g,kind:=.normal}
 let a:Act:={tmps:=args++bo (fn.ntmps - args.size) undef,defers:=[]}
 have henter:cw P g args .normal=b.at a [.code body]:=by
  grind [cw,Frame.at]
 have st:St C ⟨w,Ec E c.hp,H⟩ H E w c a:=
  ⟨hd,hh,⟨rfl,rfl,rfl,aV _,fun _ _ _=>rfl,hon,fun _ _ h=>h,fun _ h=>.inl h⟩,hfree,hg,rfl⟩
 have hit:pV (nC fn) [.code []] [.code body]:=by
  have:=bV (body:=nC fn) [] gY;simp_all [oh,nC]
 obtain ⟨out,h1,h2⟩:=Nl hC hF n ah g [.code []] c H E w a fn [.code body] _ hfn (bz h) st hit b cs;cases out with
 |stop g' uJ c'=>exact h1.elim |done sv c'=>
  obtain ⟨a',w',H',E',v,todo,q1,q2,q3,q4,q5⟩:=h2;obtain ⟨k,t,q,r1,r2,r3,r4⟩:=aea (ts:=ts) (k:=0) (fun j=>by simp) h1;obtain ⟨E2,r5,r6⟩:=amf q2.hp r2 r3;exact ⟨.returned v,w',_,⟨v,sv,k,t,H',E',E2,rfl,r4,r1,q4,r5,q2.o7,q3.x9,fun i hi u hu=>by rw[r6 i hi];exact q3.BR i u hu⟩,by rw[henter];exact q1,rfl,rfl,q2.defers,rfl,fn,hP,q5⟩
end
def Nu(fn:Func)(td:List It)(c:Core):Option (Nat×List SV×Option Nat×List It):=
 match td with
 | .reg p (i::r)::k=>match oh (nC fn) p with
  | .region _ ops _=>match opAt ops.toList i with
   |some o=>match Gi ops.toList c.tm o with
    | .yes=>match o.op with
     | .call kk=>match kk.callee with
      | .value f=>match oI c.tm f with
       | .fn g cs=>ae (g,kk.args.toList.map (oI c.tm)++cs,o.dst,.reg p r::k) |_=>ao
      |_=>ao
     |_=>ao
    |_=>ao
   |none=>ao
  |_=>ao
 |_=>ao
def Hp.at(h:Hp)(H:Mem)(w:World):Prop:=∀b o,h b=ae o->w.heap[b]?=ae o/\H b=ao
mutual
def Ac:SV->Bool
 | .ptr _ _=>ag | .gs _=>ag | .gp _ _ _ _=>ag | .mp _=>ag | .ev _=>ag | .vw _ _=>ag | .fn _ l=>Ed l | .agg l=>Ed l | .mX l=>Ed l | .qK _ x=>Ac x |_=>ah
def Ed:List SV->Bool
 |[]=>ah |x::l=>Ac x&&Ed l
end
def ab6:List Fr->Bool
 |[]=>ah |f::s=>Ed f.tm&&ab6 s
def Es:Env:=fun _=>ao
mutual
theorem EN{H:Mem}{E E':Env}:∀{x:SV} {v:Value},Ac x=ah->Den H E x v->Den H E' x v
 | .any,_,_,_=>trivial | .val _,_,_,h=>h | .int _ _,_,_,h=>h | .sym _ _,_,_,h=>h | .bool _,_,_,h=>h | .test _,_,_,h=>h | .str _,_,_,h=>h | .ptr _ _,_,h,_=>by simp[Ac] at h | .gs _,_,h,_=>by simp[Ac] at h | .gp _ _ _ _,_,h,_=>by simp[Ac] at h | .uN,_,_,h=>h | .nS,_,_,h=>h | .xX,_,_,h=>h | .sS,_,_,h=>h | .wS,_,_,h=>h | .fn _ l,_,hn,⟨vs,h1,h2⟩=>⟨vs,h1,C9 (by assumption) h2⟩ | .agg l,_,hn,⟨vs,h1,h2⟩=>⟨vs,h1,C9 (by assumption) h2⟩ | .mX l,_,hn,⟨vs,h1,h2⟩=>⟨vs,h1,C9 (by assumption) h2⟩ | .qK _ x,_,hn,⟨v,h1,h2⟩=>⟨v,h1,EN (by assumption) h2⟩ | .mp _,_,h,_=>by simp[Ac] at h | .sh _,_,_,h=>h | .yD _ _ _ _ _,_,_,h=>h | .glob _,_,_,h=>h | .ev _,_,h,_=>by simp[Ac] at h | .vw _ _,_,h,_=>by simp[Ac] at h
theorem C9{H:Mem}{E E':Env}:∀{l:List SV} {vs:List Value},Ed l=ah->ni H E l vs->ni H E' l vs
 |[],[],_,_=>trivial |_::_,_::_,hn,⟨h1,h2⟩=>by
  simp only[Ed,ak] at hn;exact ⟨EN hn.1 h1,C9 hn.2 h2⟩
 |[],_::_,_,h=>h.elim |_::_,[],_,h=>h.elim
end
theorem aaC{C:Ctx}{H:Mem}{E E':Env}:∀{s:List Fr} {ms:List Frame},ab6 s=ah->xB C H E s ms->xB C H E' s ms
 |[],[],_,_=>trivial |f::s,m::ms,hn,⟨⟨fn,a,items,h1,h2,h3⟩,h4⟩=>by
  simp only[ab6,ak] at hn;exact ⟨⟨fn,a,items,h1,C9 hn.1 h2,h3⟩,aaC hn.2 h4⟩
 |[],_::_,_,h=>h.elim |_::_,[],_,h=>h.elim
theorem Ir{K:Kx}{H:Mem}{E:Env}{w:World}:nI K H E w []:=⟨fun _ _ hl=>by simp[mQ] at hl,fun _ _ _ _ _ hl=>by simp[mQ] at hl⟩
section
variable{P:Program}{C:Ctx}{H H' H0:Mem}{E E':Env}{w w' w0:World}
def aiw(P:Program)(gls:List (Nat×Sh))(g:Nat)(args:List SV)(R:Hp->Prop)(sv:SV)(R':Hp->Prop):Prop:=
 ∀(H:Mem) (E:Env) (w:World) (vs:List Value) (h:Hp),ni H E args vs->H.on w->qE gls H->R h->h.at H w->
  Calls P g vs.toArray w fun en w'=>∃v H' h',en=.returned v/\Den H' E sv v/\R' h'/\h'.at H' w'/\H.le H'/\sF ⟨w,fun b=>h b≠ao,H⟩ H' w'/\∀b,h' b≠ao->w.heap.size<=b\/h b≠ao
theorem aeb{K:Kx}{g g2:Nat}{fn:Func}{td uJ:List It}{c:Core}{stk:List Fr}{R R':Hp->Prop}{φ:Sh->Prop}{args:List SV}{sv:SV}{dst:Option Nat}(hfn:C.fns.get g=ae fn)
  (hp:Nu fn td c=ae (g2,args,dst,uJ)) (hen:Enters P g2) (hn:c.hp=[]/\Ed c.tm=ah/\ab6 stk=ah) (hcall:aiw P C.gls g2 args R sv R') (hgo:mY P C K g uJ {c with tm:=BX c.tm dst sv} stk R' φ):mY P C K g td c stk R φ:=by
 intro H E1 w a items ms cs fn' hfn' st hi hs hx;rw[hfn] at hfn';cases hfn';let E:Env:=Es
 have st:St C K H E w c a:=⟨C9 hn.2.1 st.den,by grind [Ir],st.o7,fun _ _ _=>rfl,st.gl,st.defers⟩;have hs:xB C H E stk ms:=aaC hn.2.2 hs;have hx:Hg R K H E w:=let ⟨h,h1,h2⟩:=hx;⟨h,h1,fun b o e=>⟨(h2 b o e).1,(h2 b o e).2.1,fun i hi=>by grind [Es,bk],(h2 b o e).2.2.2⟩⟩;unfold Nu at hp;split at hp;rotate_left
 ·cases hp
 rename_i p i rest k;split at hp;rotate_left
 ·cases hp
 rename_i rid ops dr hcode;split at hp;rotate_left
 ·cases hp
 rename_i o ho;split at hp;rotate_left
 ·cases hp
 rename_i hwant;split at hp;rotate_left
 ·cases hp
 rename_i kk hop;split at hp;rotate_left
 ·cases hp
 rename_i f ad5;split at hp;rotate_left
 ·cases hp
 rename_i g3 caps hev;cases hp;cases hi with
 |reg p l id ops2 hc hk=>
  rw[hc] at hcode;cases hcode;rename_i k';have df:=ou (H:=H) (E:=E) st.den f;rw[hev] at df;obtain ⟨vs,ef,hvs⟩:=df;have hargs:=(DJ st.den kk.args.toList).append hvs;have ho':ops[i]?=ae o:=by grind [opAt]
  have hw':=wZ (ops:=ops) st.den o;rw[hwant] at hw';have hrun:(execOp a.eval o).run P w=.ok (.enter g2 (kk.args.map a.eval++vs)) w:=by
   simp_all [execOp,resolve,cW,invoke,xA]
  have hg:=stepG_op (P:=P) (b:=base g) (k:=k') (cs:=ms++cs) (w:=w) (rest:=rest) ho' hw';have henter:step P (lone ((base g).at a (.inRegion ops (i::rest)::k')) (ms++cs) w)=.next (lone (cw P g2 (kk.args.map a.eval++vs) .normal) ((base g).at a (.inRegion ops (i::rest)::k')::(ms++cs)) w):=
   step_lone_go (by simp_all [bZ,Frame.at])
  obtain ⟨h,hR,hb⟩:=hx;have hcl:=hcall H E w _ h hargs st.o7.on st.gl hR fun b o e=>⟨(hb b o e).1,(hb b o e).2.1⟩;have amg:(kk.args.toList.map a.eval++vs.toList).toArray=kk.args.map a.eval++vs:=by
   simp
  rw[amg] at hcl;obtain ⟨en,w',F,⟨v,H',h',rfl,dv,hR',hat',hH,Bv,ase⟩,q1,q2,q3⟩:=hcl ((base g).at a (.inRegion ops (i::rest)::k')::(ms++cs));have hleave:step P (lone F ((base g).at a (.inRegion ops (i::rest)::k')::(ms++cs)) w')=.next (lone ((base g).at (a.put o.dst v) (.inRegion ops rest::k')) (ms++cs) w'):=by
   rw[step_leave_returned q3,eF];simp[ho']
  have hno:∀{i:Nat} {b:Nat},bk E i=ae b->h b=ao:=fun {i b} hi=>by
   cases hx:h b with
   |none=>rfl |some o=>simp_all
  have hun:∀{b:Nat},H b=ao->b<w.heap.size->h b=ao->H' b=ao:=fun {b} h1 h2 h3=>by
   cases hx:H' b with
   |none=>rfl |some o=>
    (rcases Bv.fresh b (by rw[hx];simp) with q|q|q)<;>grind
  have wK:∀{b:Nat},h b≠ao->K.w0.heap.size<=b\/K.own b:=fun {b} hb'=>by
   cases hx:h b with
   |none=>simp_all |some o=>simp_all
  have hhp:nI K H' E w' c.hp:=⟨fun id sb hl=>by
   have hent:=st.hp.ent id sb hl;exact hent.kept hH (fun _ _ e=>e) (fun b ho=>Bv.kept b (hent.lt ho).1 (by have:=hno (wW ho);simp[this])) fun b ho=>hun (hent.lt ho).2.1 (hent.lt ho).1 (hno (wW ho)),st.hp.vV⟩
  have hW:sF K H' w':=⟨Bv.os.trans st.o7.os,Bv.tape.trans st.o7.tape,Bv.output.trans st.o7.output,bL st.o7.size Bv.size,fun b hb1 hn=>by
   rw[Bv.kept b (dp hb1 st.o7.size) fun hq=>by grind]
   exact st.o7.kept b hb1 hn,Bv.on,fun b o e=>hH b o (st.o7.le b o e),fun b hb1=>by
    rcases Bv.fresh b hb1 with q|q|q
    ·exact st.o7.fresh b q
    ·exact .inr (.inl (bL st.o7.size q))
    simp_all⟩
  have NW:St C K H' E w' {c with tm:=BX c.tm o.dst sv} (a.put o.dst v):=
   ⟨zY (c:=c) (st.den.le hH fun _ _ e=>e) _ dv,hhp,hW,st.free,st.gl.le hH,by rw[put_defers];exact st.defers⟩
  have hx3:Hg R' K H' E w':=by
   refine ⟨h',hR',fun b o e=>⟨(hat' b o e).1,(hat' b o e).2,fun i hi=>?_,?_⟩⟩
   ·grind [Es,bk]
   ·rcases ase b (by rw[e];simp) with q|q
    ·exact .inl (bL st.o7.size q)
    simp_all
  obtain ⟨a2,w2,v2,s,H2,O8,fn0,r1,r2,r3⟩:=hgo H' E w' _ _ ms cs fn hfn NW (.reg p rest _ ops hc hk) (hs.le hH fun _ _ e=>e) hx3;exact ⟨a2,w2,v2,s,H2,O8,fn0,r1,(Steps.head henter (q1.trans (.one hleave))).trans r2,r3⟩
def Xz(i:Nat)(u:Value)(x:SV):SV:=match x with
 | .ptr j 0=>bif j==i then .val u else .any |_=>bif Ac x then x else .any
theorem agN{E':Env}{i:Nat}{b:Nat}(he:E i=ae (.pointer (ae ⟨b,0,ao⟩))){x:SV}{v:Value}(h:Den H E x v):Den H E' (Xz i (.pointer (ae ⟨b,0,ao⟩)) x) v:=by
 unfold Xz;split
 ·rename_i j
  cases hj:(j==i)<;>simp only[cond_true,cond_false]
  ·trivial
  ·obtain ⟨b',h1,h2⟩:=h
   obtain rfl:j=i:=by grind
   rw[he] at h1;simp[nH] at h1;subst h1;exact ⟨h2,rfl⟩
 ·cases hn:Ac x<;>simp only[cond_true,cond_false]
  ·trivial
  ·exact EN hn h
theorem Lp{E':Env}{i:Nat}{b:Nat}(he:E i=ae (.pointer (ae ⟨b,0,ao⟩))):∀{l:List SV} {vs:List Value},ni H E l vs->ni H E' (l.map (Xz i (.pointer (ae ⟨b,0,ao⟩)))) vs
 |[],[],_=>trivial |_::_,_::_,⟨h1,h2⟩=>⟨agN he h1,Lp he h2⟩ |[],_::_,h=>h.elim |_::_,[],h=>h.elim
def QI(i:Nat)(u:Value):List Fr->List Fr
 |[]=>[] |f::s=>{f with tm:=f.tm.map (Xz i u)}::QI i u s
theorem XA{E':Env}{i:Nat}{b:Nat}(he:E i=ae (.pointer (ae ⟨b,0,ao⟩))):∀{s:List Fr} {ms:List Frame},xB C H E s ms->xB C H E' (QI i (.pointer (ae ⟨b,0,ao⟩)) s) ms
 |[],[],_=>trivial |_::_,_::_,⟨⟨fn,a,items,h1,h2,h3⟩,h4⟩=>⟨⟨fn,a,items,h1,Lp he h2,h3⟩,XA he h4⟩ |[],_::_,h=>h.elim |_::_,[],h=>h.elim
theorem U4{i:Nat}{u:Value}:∀{s:List Fr} {g:Nat},J7 g (QI i u s)=J7 g s
 |[],_=>rfl |f::s,_=>by simp only[QI,J7];exact U4
def QJ(E:Env)(w:World)(hp:List (Nat×SB)):Hp->Prop:=fun h=>(∀b o,h b=ae o->w.heap[b]?=ae o)/\∀b,(∃id sb,mQ hp id=ae sb/\nU E id sb=ae b)↔h b≠ao
theorem agO{K:Kx}{hp:List (Nat×SB)}(hh:nI K H E w hp):∃h,QJ E w hp h:=by
 classical
 refine ⟨fun b=>if ∃id sb,mQ hp id=ae sb/\nU E id sb=ae b then w.heap[b]? else ao,fun b o e=>?_,fun b=>⟨fun hq=>?_,fun hq=>?_⟩⟩
 ·simp_all
 ·have:=hq
  obtain ⟨id,sb,h1,h2⟩:=hq;have hlt:=((hh.ent _ _ h1).lt h2).1;simp_all
 grind
theorem U5{K:Kx}{g i0:Nat}{td:List It}{c:Core}{stk:List Fr}{R:Hp->Prop}{R':Nat->Hp->Prop}{φ:Sh->Prop}(q:Nat->Bool)
  (hR:∀H E w h,H.on w->nI K H E w (dropKey q c.hp)->QJ E w (dropKey q c.hp) h->∃b,E i0=ae (.pointer (ae ⟨b,0,ao⟩))/\R' b h)
  (hgo:∀b,mY P C K g td {tm:=c.tm.map (Xz i0 (.pointer (ae ⟨b,0,ao⟩))),hp:=[],nx:=0,lim:=c.lim,tc:=[]} (QI i0 (.pointer (ae ⟨b,0,ao⟩)) stk) (R' b) φ):mY P C K g td c stk R φ:=by
 intro H E w a items ms cs fn' hfn' st hi hs hx;have hd:=ab3 q st.hp;obtain ⟨h,hh⟩:=agO hd;obtain ⟨b,he,hR'⟩:=hR H E w h st.o7.on hd hh;have:=hgo b H Es w a items ms cs fn' hfn' ⟨Lp he st.den,Ir,st.o7,fun _ _ _=>rfl,st.gl,st.defers⟩ hi (XA he hs) ⟨h,hR',fun b' o e=>by
  obtain ⟨id,sb,h1,h2⟩:=(hh.2 b').2 (by rw[e];simp);have:=((hd.ent _ _ h1).lt h2).2;exact ⟨hh.1 b' o e,this.1,fun i hi=>by simp[Es,bk] at hi,this.2⟩⟩
 simp_all [U4]
theorem aec{x y:SV}:∀{l:List SV} {vs:List Value} {i:Nat},l[i]?=ae x->(∀v,Den H E x v->Den H E y v)->ni H E l vs->ni H E (l.set i y) vs
 |[],_,_,h,_,_=>by simp at h |_::_,[],_,_,_,h=>h.elim |_::_,_::_,0,h,hf,⟨h1,h2⟩=>by
  simp at h;subst h;exact ⟨hf _ h1,h2⟩
 |_::_,_::_,i+1,h,hf,⟨h1,h2⟩=>⟨h1,aec (by simpa using h) hf h2⟩
def Mem.with(H:Mem)(h:Hp):Mem:=fun b=>match h b with|some o=>ae o|none=>H b
theorem aed{K:Kx}{g:Nat}{td:List It}{c:Core}{stk:List Fr}{R:Hp->Prop}{φ:Sh->Prop}{u:Value}{X:Type}{y:X->SV}(hR:∀H E h w,R h->H.on w->h.at H w->∃x,Den (H.with h) E (y x) u)
  {i:Nat} (hi:c.tm[i]?=ae (.val u)) (hgo:∀x,mY P C K g td {c with tm:=c.tm.set i (y x)} stk emp φ):mY P C K g td c stk R φ:=by
 intro H E w a items ms cs fn' hfn' st hit hs ⟨h,hR',hb⟩;have hat:h.at H w:=fun b o e=>⟨(hb b o e).1,(hb b o e).2.1⟩;have hle:H.le (H.with h):=fun b o e=>by
  grind [Mem.with]
 have hw:sF K (H.with h) w:=⟨st.o7.os,st.o7.tape,st.o7.output,st.o7.size,st.o7.kept,fun b o e=>by
  unfold Mem.with at e;cases hx:h b with
  |none=>rw[hx] at e;exact st.o7.on b o e |some o'=>simp_all,fun b o e=>hle b o (st.o7.le b o e),fun b hb1=>by
  unfold Mem.with at hb1;cases hx:h b with
  |none=>rw[hx] at hb1;exact st.o7.fresh b hb1 |some o'=>simp_all⟩
 have hhp:nI K (H.with h) E w c.hp:=⟨fun id sb hl=>(st.hp.ent id sb hl).kept hle (fun _ _ e=>e) (fun _ _=>rfl) fun b ho=>by
  unfold Mem.with;cases hx:h b with
  |none=>exact ((st.hp.ent id sb hl).lt ho).2.1 |some o=>exact ((hb b o hx).2.2.1 id (wW ho)).elim,st.hp.vV⟩
 obtain ⟨x,hx⟩:=hR H E h w hR' st.o7.on hat;exact hgo x _ E w a items ms cs fn' hfn' ⟨aec hi (fun v hv=>by obtain ⟨rfl,_⟩:=hv;exact hx) (st.den.le hle fun _ _ e=>e),hhp,hw,st.free,st.gl.le hle,st.defers⟩ hit (hs.le hle fun _ _ e=>e) Iq
inductive Fe3 where
 |ret (s:Sh)
 |raw (g:Nat) (td:List It) (c:Core) (stk:List Fr)
def ami:Oc->Tree Fe3
 | .fin v c=>match finish c v with
  |some s=>.leaf (.ret s) |none=>.fail
 | .stop g td c stk=>.leaf (.raw g td c stk)
def aro(C:Ctx)(hold:Nat->Bool)(m n g:Nat)(td:List It)(c:Core)(stk:List Fr):Tree Fe3:=(U2 C hold m n g td c stk).bind ami
def asf(P:Program)(C:Ctx)(K:Kx)(R:Hp->Prop)(φ:Sh->Prop):Fe3->Prop
 | .ret s=>φ s | .raw g td c stk=>mY P C K g td c stk R φ
@[irreducible] def ab7 (ψ:Fe3->Prop) (t:Tree Fe3):Prop:=t.All ψ
theorem XB(ψ:Fe3->Prop)(t:Tree Fe3):ab7 ψ t=t.All ψ:=by unfold ab7;rfl
theorem aef(hC:oC P C)(hF:oD P C){hold:Nat->Bool}{m n g:Nat}{td:List It}{c:Core}{stk:List Fr}{R:Hp->Prop}{φ:Sh->Prop}
  (h:ab7 (asf P C (K0 H0 w0) R φ) (aro C hold m n g td c stk)):mY P C (K0 H0 w0) g td c stk R φ:=by
 rw[XB] at h;refine CZ hC hF (hold:=hold) (m:=m) (n:=n) ((bz h).mono fun o ho=>?_);cases o with
 |fin v c=>
  simp only[ami] at ho;split at ho
  ·rename_i s hs
   exact ⟨s,hs,ho⟩
  ·exact ho.elim
 |stop g td c stk=>exact ho
end
def aix:List (Nat×SB)->List Nat
 |[]=>[] |(_,.yE _ _ _ _ more)::l=>Ai more++aix l |_::l=>aix l
def Lr(A:Prim)(hp:List (Nat×SB)):SB->SB
 | .yE e st n g more=>match xY hp more with
  |some l=>.own e st (A.addN n (more.length / st)) (A.snoc g n (nM (chunks st (more.length / st) l))) |none=>.yE e st n g more
 |sb=>sb
def QK(A:Prim)(hp:List (Nat×SB)):List (Nat×SB)->List (Nat×SB)
 |[]=>[] |(i,sb)::l=>(i,Lr A hp sb)::QK A hp l
def settle(A:Prim)(hp:List (Nat×SB)):Option (List (Nat×SB)):=(freeze hp (aix hp)).map fun hp=>QK A hp hp
section
variable{P:Program}{C:Ctx}{K:Kx}{H H' H0:Mem}{E E':Env}{w w' w0:World}
theorem Js{A:Prim}{hp:List (Nat×SB)}{i:Nat}:∀{l:List (Nat×SB)},mQ (QK A hp l) i=(mQ l i).map (Lr A hp)
 |[]=>rfl |(j,sb)::l=>by
  simp only[QK,mQ];cases h:j==i<;>simp only[cond_true,cond_false,Option.map_some]
  exact Js
theorem Ls{hp:List (Nat×SB)}(hh:nI K H E w hp){i:Nat}{sb:SB}(h:xU K H E w i sb):xU K H E w i (Lr mM hp sb)/\nU E i (Lr mM hp sb)=nU E i sb:=by
 unfold Lr;split
 ·rename_i e st n g more
  split
  ·rename_i l hl
   obtain ⟨v,xs,ys,he,h1,h2,h3,h4,h5,h6⟩:=h;refine ⟨⟨v,xs++ys,he,h1,?_,h6⟩,by simp[nU]⟩;have hlen:=h3.length;have hm:=Nat.div_add_mod more.length st;rw[h4,dH,Nat.mul_comm] at hm;exact WU h2 (Bj (show ys.length=more.length / st*st by omega) (sJ hh hl h3) (vC h5 h3))
  simp_all
 simp_all
theorem agP{hp hp':List (Nat×SB)}(h:settle mM hp=ae hp')(hh:nI K H E w hp)(hw:sF K H w):∃H',H.le H'/\nI K H' E w hp'/\sF K H' w:=by
 unfold settle at h;cases hf:freeze hp (aix hp) with
 |none=>simp_all |some hp1=>
  rw[hf] at h;cases h;obtain ⟨H',h1,h2,h3,_⟩:=CU hf hh hw;refine ⟨H',h1,⟨fun id sb hl=>?_,fun id id' sb sb' b l1 l2 o1 o2=>?_⟩,h3⟩
  ·rw[Js] at hl
   cases hx:mQ hp1 id with
   |none=>simp_all |some s0=>
    rw[hx] at hl;cases hl;exact (Ls h2 (h2.ent _ _ hx)).1
  ·rw[Js] at l1 l2
   cases hx:mQ hp1 id with
   |none=>simp_all |some s0=>
    cases hy:mQ hp1 id' with
    |none=>simp_all |some s1=>
     rw[hx] at l1;rw[hy] at l2;cases l1;cases l2;rw[(Ls h2 (h2.ent _ _ hx)).2] at o1;rw[(Ls h2 (h2.ent _ _ hy)).2] at o2;exact h2.vV _ _ _ _ _ hx hy o1 o2
theorem ZQ{g:Nat}{td:List It}{c:Core}{stk:List Fr}{φ:Sh->Prop}{hp':List (Nat×SB)}(h:settle mM c.hp=ae hp')(hgo:mY P C K g td {c with hp:=hp'} stk emp φ):mY P C K g td c stk emp φ:=by
 intro H E w a items ms cs fn hfn st hi hs hx;obtain ⟨H',h1,h2,h3⟩:=agP h st.hp st.o7;exact hgo H' E w a items ms cs fn hfn ⟨st.den.le h1 fun _ _ e=>e,h2,h3,st.free,st.gl.le h1,st.defers⟩ hi (hs.le h1 fun _ _ e=>e) Iq
def agQ(A:Prim)(ts:List zx):Oc->Tree pI
 | .fin v c=>match finish c v with
  |some s=>.leaf (.ret s) |none=>.fail
 | .stop g td c stk=>match settle A c.hp with
  |some hp=>QG g td {c with hp:=hp} stk 0 ts
  |none=>.fail
def arp(C:Ctx)(hold:Nat->Bool)(m n g:Nat)(td:List It)(c:Core)(stk:List Fr)(ts:List zx):Tree pI:=(U2 C hold m n g td c stk).bind (agQ C.A ts)
theorem aeg(hC:oC P C)(hF:oD P C){hold:Nat->Bool}{m n g:Nat}{td:List It}{c:Core}{stk:List Fr}{ts:List zx}{φ:Sh->Prop}
  (h:(arp C hold m n g td c stk ts).All (yc P C (K0 H0 w0) ts emp φ)):mY P C (K0 H0 w0) g td c stk emp φ:=by
 refine CZ hC hF (hold:=hold) (m:=m) (n:=n) ((bz h).mono fun o ho=>?_);cases o with
 |fin v c=>
  simp only[agQ] at ho;split at ho
  ·rename_i s hs
   exact ⟨s,hs,ho⟩
  ·exact ho.elim
 |stop g td c stk=>
  simp only[agQ,hC.A] at ho;split at ho
  ·rename_i hp hs
   exact ZQ hs (O9 (k:=0) (fun j=>by simp) ho)
  ·exact ho.elim
end
def QL(g:Nat)(td:List It)(c:Core)(stk:List Fr):Nat->List zx->Tree pI
 |_,[]=>.fail |k,t::r=>bif g==t.g&&zu td t.td&&Lj stk t.stk then match uU (qC (t.rn c stk) c t.c) (Xt c.hp (t.rn c stk) stk t.stk) with
   |some l=>.leaf (.at_ k l) |none=>QL g td c stk (k+1) r
  else QL g td c stk (k+1) r
def amj(ts:List zx):Oc->Tree pI
 | .fin v c=>match finish c v with
  |some s=>.leaf (.ret s) |none=>.fail
 | .stop g td c stk=>QL g td c stk 0 ts
section
variable{P:Program}{C:Ctx}{K:Kx}{H0:Mem}{w0:World}
theorem Pg{R:Hp->Prop}{φ:Sh->Prop}{ts:List zx}{g:Nat}{td:List It}{c:Core}{stk:List Fr}:∀{r:List zx} {k:Nat},(∀j,r[j]?=ts[k+j]?)->(QL g td c stk k r).All (yc P C K ts R φ)->mY P C K g td c stk R φ
 |[],_,_,h=>h.elim |t::r,k,hk,h=>by
  have hr:∀j,r[j]?=ts[k+1+j]?:=fun j=>by have:=hk (j+1);grind
  unfold QL at h;cases hb:(g==t.g&&zu td t.td&&Lj stk t.stk)<;>simp only[hb,cond_true,cond_false] at h
  ·exact Pg hr h
  ·simp only[ak,beq_iff_eq] at hb
   obtain ⟨⟨h1,h2⟩,h3⟩:=hb;split at h
   ·rename_i l hl
    obtain ⟨a,b,q1,q2,rfl⟩:=oU hl;obtain ⟨hl,t',ht,hg⟩:=h;have:=hk 0;simp only[ee,dH] at this;rw[<-this] at ht;cases ht;have h2:=CY h2;subst h1 h2;exact Ll (t.rn c stk) (Xq q1 (bw hl).1) (Xv q2 (bw hl).2) hg
   ·exact Pg hr h
end
def aaD(C:Ctx)(pause:Nat->List It->Bool)(hold:Nat->Bool)(m:Nat):Nat->Nat->List It->Core->List Fr->Tree Oc
 |0,g,td,c,stk=>.leaf (.stop g td c stk) |n+1,g,td,c,stk=>match C.fns.get g with
  |none=>.fail |some fn=>bif pause g td||holdB hold fn td c then .leaf (.stop g td c stk) else match Jo C fn td c with
   |some r=>aaD C pause hold m n r.1 [.code []] {c with tm:=r.2.2++bf (r.2.1.ntmps - r.2.2.length) .any} ({g,td,tm:=c.tm}::stk)
   |none=>(Jf C (CB C (run C m ag)) ah g fn td c).bind fun s=>match s with
    | .go td c=>aaD C pause hold m n g td c stk | .halt td c=>.leaf (.stop g td c stk) | .done v c=>match stk with
     |[]=>.leaf (.fin v c) |f::stk=>match Lh C f v c with
      |some r=>aaD C pause hold m n f.g r.1 r.2 stk |none=>.fail
section
variable{P:Program}{C:Ctx}{K:Kx}{H H' G9 H0:Mem}{E E' He E1:Env}{w w' w'' w0:World}
theorem Gn(hC:oC P C)(hF:oD P C){pause:Nat->List It->Bool}{hold:Nat->Bool}{m:Nat}{R:Hp->Prop}{φ:Sh->Prop}:∀{n g:Nat} {td:List It} {c:Core} {stk:List Fr},(aaD C pause hold m n g td c stk).All (ais P C (K0 H0 w0) R φ)->mY P C (K0 H0 w0) g td c stk R φ
 |0,g,td,c,stk,h=>h |n+1,g,td,c,stk,h=>by
  intro H E w a items ms cs fn hfn st hi hs hx;simp only[aaD,hfn] at h;cases agL:(pause g td||holdB hold fn td c)<;>simp only[agL,cond_true,cond_false] at h
  rotate_left
  ·exact h H E w a items ms cs fn hfn st hi hs hx
  split at h
  ·
   rename_i r hr;unfold Jo at hr;split at hr
   ·rename_i p i rest k
    split at hr
    ·rename_i rid ops dr hcode
     split at hr
     ·rename_i o ho
      split at hr
      ·rename_i hwant
       split at hr
       ·rename_i kk hop
        split at hr
        ·rename_i f ad5
         split at hr
         ·rename_i g2 caps hev
          split at hr
          ·cases hr
          ·rename_i hspec
           split at hr
           ·rename_i vX hfn2
            cases hb:(cq (kk.args.toList.map (oI c.tm)++caps).length vX.ntmps&&vX.body.isSome)<;>simp only[hb,cond_true,cond_false] at hr
            ·cases hr
            cases hr;simp only[ak] at hb;obtain ⟨body2,Jp⟩:=bG.1 hb.2;have ih:=Gn hC hF h;have hP2:=hC.fn g2 vX hfn2;cases hi with
            |reg p l id ops2 hc hk=>
             rw[hc] at hcode;cases hcode;rename_i k';have df:=ou (H:=H) (E:=E) st.den f;rw[hev] at df;obtain ⟨vs,ef,hvs⟩:=df;have hargs:=(DJ st.den kk.args.toList).append hvs;have ho':ops[i]?=ae o:=by grind [opAt]
             have hw':=wZ (ops:=ops) st.den o;rw[hwant] at hw';have hent:=hF.en g2 (.inr (by grind));have hrun:(execOp a.eval o).run P w=.ok (.enter g2 (kk.args.map a.eval++vs)) w:=by
              simp_all [execOp,resolve,cW,invoke,xA]
             have hg:=stepG_op (P:=P) (b:=base g) (k:=k') (cs:=ms++cs) (w:=w) (rest:=rest) ho' hw';have henter:step P (lone ((base g).at a (.inRegion ops (i::rest)::k')) (ms++cs) w)=.next (lone (cw P g2 (kk.args.map a.eval++vs) .normal) ((base g).at a (.inRegion ops (i::rest)::k')::(ms++cs)) w):=
              step_lone_go (by simp_all [bZ,Frame.at])
             rw[AY hP2 Jp] at henter;have hl:=hargs.length;have hlen:(kk.args.map a.eval++vs).size=(kk.args.toList.map (oI c.tm)++caps).length:=by
              simp_all
             have st2:St C (K0 H0 w0) H E w {c with tm:=(kk.args.toList.map (oI c.tm)++caps)++bf (vX.ntmps - (kk.args.toList.map (oI c.tm)++caps).length) .any} {tmps:=(kk.args.map a.eval++vs)++bo (vX.ntmps - (kk.args.map a.eval++vs).size) undef,defers:=[]}:=by
              refine ⟨?_,st.hp,st.o7,st.free,st.gl,rfl⟩;have:((kk.args.map a.eval++vs)++bo (vX.ntmps - (kk.args.map a.eval++vs).size) undef).toList=(kk.args.toList.map a.eval++vs.toList)++bf (vX.ntmps - (kk.args.toList.map (oI c.tm)++caps).length) undef:=by
               rw[hlen];simp
              simp only[this];exact hargs.append (jl _ _ (by simp))
             have hit2:pV (nC vX) [.code []] [.code body2]:=by
              have:=bV (body:=nC vX) [] gY;simp_all [oh,nC]
             have hs2:xB C H E ({g,td:=.reg p (i::rest)::k,tm:=c.tm}::stk) ((base g).at a (.inRegion ops (i::rest)::k')::ms):=
              ⟨⟨fn,a,_,hfn,st.den,st.defers,.reg p (i::rest) _ ops hc hk,rfl⟩,hs⟩
             obtain ⟨a',w',v,s,H',todo,fn0,q1,q2,q3⟩:=ih H E w _ _ (_::ms) cs vX hfn2 st2 hit2 hs2 hx;exact ⟨a',w',v,s,H',todo,fn0,q1,.head henter q2,q3⟩
           ·cases hr
         ·cases hr
        ·cases hr
       ·cases hr
      ·cases hr
     ·cases hr
    ·cases hr
   ·cases hr
  ·have hK:=Ip (K:=KC H E w c.hp) hC hF (Nl hC hF m)
   obtain ⟨sig,h1,h2⟩:=Nk hC hF hK (bz h) st.re hi (base g) (ms++cs);cases sig with
   |go uJ c'=>
    obtain ⟨a',w',H',E',items',q1,q2,q3,q4⟩:=h2;obtain ⟨a2,w2,v,s,H2,todo,fn0,r1,r2,r3⟩:=Gn hC hF h1 H' E' w' a' items' ms cs fn hfn (st.un q2) q4 (hs.le q3.x9 q3.BR) (hx.keep st q2 q3);exact ⟨a2,w2,v,s,H2,todo,fn0,r1,q1.trans r2,r3⟩
   |halt uJ c'=>
    obtain ⟨a',w',H',E',items',q1,q2,q3,q4⟩:=h2;obtain ⟨a2,w2,v,s,H2,todo,fn0,r1,r2,r3⟩:=h1 H' E' w' a' items' ms cs fn hfn (st.un q2) q4 (hs.le q3.x9 q3.BR) (hx.keep st q2 q3);exact ⟨a2,w2,v,s,H2,todo,fn0,r1,q1.trans r2,r3⟩
   |done sv c'=>
    obtain ⟨a',w',H',E',v,todo,q1,q2,q3,q4,q5⟩:=h2;cases stk with
    |nil=>
     cases ms with
     |cons _ _=>exact hs.elim |nil=>
      obtain ⟨s,e1,e2⟩:=h1;obtain ⟨H2,r⟩:=O5 (st.un q2) e1 q4;exact ⟨a',w',v,s,H2,todo,fn,hfn,q1,q2.defers,e2,r,q5⟩
    |cons f stk=>
     cases ms with
     |nil=>exact hs.elim |cons mf ms=>
      simp only at h1;split at h1
      ·rename_i r hr
       unfold Lh at hr;split at hr
       ·rename_i Hl ad6
        split at hr
        ·rename_i p i rest k htd
         split at hr
         ·rename_i rid ops dr hcode
          cases hr;obtain ⟨⟨fn3,a3,ait,g1,g2,g3,g4,g5⟩,hs'⟩:=hs.le q3.x9 q3.BR;rw[ad6] at g1;cases g1;rw[htd] at g4;cases g4 with
          |reg p l id ops2 hc hk=>
           rw[hc] at hcode;cases hcode;rename_i k';subst g5;have hleave:step P (lone {(base g).at a' todo with mode:=.returning} ((base f.g).at a3 (.inRegion ops (i::rest)::k')::(ms++cs)) w')=.next (lone ((base f.g).at (a3.put ((opAt ops.toList i).bind (·.dst)) v) (.inRegion ops rest::k')) (ms++cs) w'):=by
            rw[step_leave_returned (v:=v) ⟨rfl,q2.defers,rfl,fn,hC.fn g fn hfn,q5⟩,eF];simp[opAt]
           have NW:St C (K0 H0 w0) H' E' w' {c' with tm:=BX f.tm ((opAt ops.toList i).bind (·.dst)) sv} (a3.put ((opAt ops.toList i).bind (·.dst)) v):=
            ⟨zY (c:={c' with tm:=f.tm}) g2 _ q4,(st.un q2).hp,(st.un q2).o7,q2.free,q2.gl,by rw[put_defers];exact g3⟩
           obtain ⟨a2,w2,v2,s,H2,O8,fn0,r1,r2,r3⟩:=Gn hC hF h1 H' E' w' _ _ ms cs Hl ad6 NW (.reg p rest _ ops hc hk) hs' (hx.keep st q2 q3);exact ⟨a2,w2,v2,s,H2,O8,fn0,r1,(q1.trans (.one hleave)).trans r2,r3⟩
         ·cases hr
        ·cases hr
       ·cases hr
      ·exact h1.elim
def arq(C:Ctx)(pause:Nat->List It->Bool)(m n g:Nat)(td:List It)(c:Core)(stk:List Fr)(ts:List zx):Tree pI:=(aaD C pause (fun _=>ag) m n g td c stk).bind (amj ts)
theorem aeh(hC:oC P C)(hF:oD P C){pause:Nat->List It->Bool}{m n g:Nat}{td:List It}{c:Core}{stk:List Fr}{ts:List zx}{φ:Sh->Prop}{R:Hp->Prop}
  (h:(arq C pause m n g td c stk ts).All (yc P C (K0 H0 w0) ts R φ)):mY P C (K0 H0 w0) g td c stk R φ:=by
 refine Gn hC hF (pause:=pause) (hold:=fun _=>ag) (m:=m) (n:=n) ((bz h).mono fun o ho=>?_);cases o with
 |fin v c=>
  simp only[amj] at ho;split at ho
  ·rename_i s hs
   exact ⟨s,hs,ho⟩
  ·exact ho.elim
 |stop g td c stk=>exact Pg (k:=0) (fun j=>by simp) ho
end
def pW(b:Frame)(a:Act)(todo:List Item):Frame:=
 {fn:=b.fn,tmps:=a.tmps,todo,defers:=a.defers++b.defers,mode:=.run,kind:=b.kind,roundOf:=b.roundOf}
def Lu(b:Frame)(a:Act):Act:={a with defers:=a.defers++b.defers}
theorem Dc(b:Frame)(a:Act)(todo:List Item):pW b a todo=b.atR (Lu b a) todo:=rfl
theorem Jt(b:Frame)(a:Act):(Lu b a).eval=a.eval:=funext fun x=>by rfl
theorem aaE(b:Frame)(a:Act)(d:Option Nat)(v:Value):(Lu b a).put d v=Lu b (a.put d v):=by cases d<;>rfl
def bq(g:Nat)(r:Option Nat)(ds:List Deferred):Frame:={(default:Frame) with fn:=g,kind:=.normal,roundOf:=r,defers:=ds}
theorem Tj(g:Nat)(a:Act)(todo:List Item):pW (bq g ao []) a todo=(base g).at a todo:=by simp[pW,Frame.at,bq,base]
theorem LG(b:Frame)(a:Act)(ops:Array Oper)(i:Nat)(rest:List Nat)(k:List Item)(v:Value):
  (pW b a (.inRegion ops (i::rest)::k)).finish v=pW b (a.put ((ops[i]?).bind (·.dst)) v) (.inRegion ops rest::k):=by
 grind [Dc,Frame.finish_atR,aaE]
section moves
variable{P:Program}{b:Frame}{a:Act}{k:List Item}{cs:List Frame}{w:World}{ops:Array Oper}
theorem amk:step P (lone (pW b a (.code .skip::k)) cs w)=.next (lone (pW b a k) cs w):=by rfl
theorem aei{id:Nat}:step P (lone (pW b a (.inBlock id::k)) cs w)=.next (lone (pW b a k) cs w):=by rfl
theorem apS{x y:Code}:step P (lone (pW b a (.code (.seq x y)::k)) cs w)=.next (lone (pW b a (.code x::.code y::k)) cs w):=by rfl
theorem aml{c:Operand}{x y:Code}{t:Bool}(h:a.eval c=.bool t):step P (lone (pW b a (.code (.cond c x y)::k)) cs w)=.next (lone (pW b a (.code (if t then x else y)::k)) cs w):=by
 simp_all [Dc,stepR_cond,Jt]
theorem aj0{id:Nat}{c:Code}:step P (lone (pW b a (.code (.block id c)::k)) cs w)=.next (lone (pW b a (.code c::.inBlock id::k)) cs w):=by rfl
theorem aej{c:Code}:step P (lone (pW b a (.code (.loop c)::k)) cs w)=.next (lone (pW b a (.code c::.inLoop c::k)) cs w):=by rfl
theorem XC{c:Code}:step P (lone (pW b a (.inLoop c::k)) cs w)=.next (lone (pW b a (.code c::.inLoop c::k)) cs w):=by rfl
theorem amm{id:Nat}{k':List Item}(h:exitTo id k=ae k'):step P (lone (pW b a (.code (.exit id)::k)) cs w)=.next (lone (pW b a k') cs w):=by simp_all [Dc,stepR_exit]
theorem apT(hb:b.roundOf=ao):step P (lone (pW b a (.code .ret::k)) cs w)=.next (lone {pW b a (.code .ret::k) with mode:=.returning} cs w):=by rw[Dc];exact stepR_ret hb
theorem apU(hb:b.roundOf=ao):step P (lone (pW b a []) cs w)=.next (lone {pW b a [] with mode:=.returning} cs w):=by rw[Dc];exact stepR_end hb
theorem agR{id:Nat}:step P (lone (pW b a (.code (.region id ops ag)::k)) cs w)=.next (lone (pW b a (.inRegion ops (aD ops.size)::k)) cs w):=by rfl
theorem LH:step P (lone (pW b a (.inRegion ops []::k)) cs w)=.next (lone (pW b a k) cs w):=by rfl
theorem VF{id:Nat}:step P (lone (pW b a (.code (.region id ops ah)::k)) cs w) =
   .next (lone (pW b a (.inRegion ops (fO (P.follows .mixedOrders) ops (w.tape w.drawn (.order b.fn id)))::k)) cs {w with drawn:=w.drawn+1}):=by rfl
end moves
def agS:Op->Bool
 | .defer _=>ag |_=>ah
def sV:Code->Bool
 | .seq a b=>sV a&&sV b | .cond _ a b=>sV a&&sV b | .block _ b=>sV b | .loop b=>sV b | .rangeFunc _ _ a b=>sV a&&sV b | .region _ ops _=>ops.toList.all fun o=>agS o.op |_=>ah
theorem XD{c:Code}(h:sV c=ah)(i:Nat):sV (child c i)=ah:=by
 unfold child;grind [sV]
theorem LJ{c:Code}(h:sV c=ah):∀p:List Nat,sV (oh c p)=ah
 |[]=>h |i::p=>XD (LJ h p) i
theorem QM{id:Nat}{ops:Array Oper}{dr:Bool}(h:sV (.region id ops dr)=ah){i:Nat}{o:Oper}(ho:ops[i]?=ae o):∀c,o.op≠.defer c:=by
 intro c hc;simp only[sV] at h;have hm:o∈ops.toList:=by
  grind
 have:=bh.1 h o hm;rw[hc] at this;cases this
section
variable{P:Program}{C:Ctx}{K:Kx}{H H' G9:Mem}{E E' He:Env}{w w' w'':World}
theorem aek{ops:Array Oper}{i:Nat}{rest:List Nat}{Q:Exit->Act->World->Prop}{next:Act->World->Prop}{a:Act}(hnd:∀o,ops[i]?=ae o->∀c,o.op≠.defer c)(hQ:∀e a w,Q e a w->e=.normal)
  (h:wpOp P ops Q i next a w) (b:Frame) (k:List Item) (cs:List Frame) :
  ∃a' w',next a' w'/\Steps P (lone (pW b a (.inRegion ops (i::rest)::k)) cs w) (lone (pW b a' (.inRegion ops rest::k)) cs w'):=by
 unfold wpOp at h;cases ho:ops[i]? with
 |none=>
  simp only[ho] at h;have hs:=stepR_op_skip (P:=P) (b:=b) (a:=Lu b a) (k:=k) (cs:=cs) (w:=w) (ops:=ops) (i:=i) (rest:=rest) (by simp[ho]);simp only[ho,Option.bind_none,Act.put] at hs;exact ⟨a,w,h,.one hs⟩
 |some o=>
  simp only[ho] at h;by_cases hw:Region.wanted o (yielded ops a.tmps)=ah
  ·simp only[hw,if_true] at h
   rcases h with h|⟨_,_,_,hq⟩
   case inr=>grind
   simp only[Oper.wp] at h;have hg:=stepGR_op (P:=P) (b:=b) (a:=Lu b a) (k:=k) (cs:=cs) (w:=w) (rest:=rest) ho hw;rw[Oper.semAt_eq _ _ _ (hnd o ho),Jt,<-Dc] at hg;have hfin:∀v,(pW b a (.inRegion ops (i::rest)::k)).finish v=pW b (a.put o.dst v) (.inRegion ops rest::k):=by
    simp_all [LG]
   generalize hr:(execOp a.eval o).run P w=r at h;cases r with
   |ok n w'=>
    cases n<;>simp only[kI] at h
    case value v=>
     refine ⟨_,_,h,.one (step_lone_go ?_)⟩;simp_all [bZ]
    case skip=>
     refine ⟨_,_,h,.one (step_lone_go ?_)⟩;simp_all [bZ]
    case defer d=>
     refine ⟨_,_,h,.one (step_lone_go ?_)⟩;have:({pW b a (.inRegion ops (i::rest)::k) with defers:=d::(a.defers++b.defers)}:Frame).finish undef =
       pW b ({a with defers:=d::a.defers}.put o.dst undef) (.inRegion ops rest::k):=by
      have:=LG b {a with defers:=d::a.defers} ops i rest k undef
      rw[ho] at this;exact this
     rw[hg];simp only[bZ,Sem.runT_eq,hr,GStep.bare_after];exact congrArg (fun fr=>GStep.go {frame:=fr,callers:=cs,status:=.running,dying:=ao} w') this
    case enter f args=>
     obtain ⟨e,w'',fr,hR,hsteps,_,hleave⟩:=h (pW b a (.inRegion ops (i::rest)::k)::cs);have henter:step P (lone (pW b a (.inRegion ops (i::rest)::k)) cs w) =
       .next (lone (cw P f args .normal) (pW b a (.inRegion ops (i::rest)::k)::cs) w'):=
      step_lone_go (by simp_all [bZ,pW])
     cases e with
     |returned v=>
      refine ⟨_,_,hR,.head henter (hsteps.trans (.one ?_))⟩;grind [step_leave_returned]
     |panicked chain=>grind |outgrown=>obtain ⟨_,_,hq⟩:=hR;grind
    case row row args=>
     obtain ⟨v,w'',hR,hsteps⟩:=h (pW b a (.inRegion ops (i::rest)::k)) cs;have henter:step P (lone (pW b a (.inRegion ops (i::rest)::k)) cs w) =
       .next (lone (Frame.ofRow P row args .normal) (pW b a (.inRegion ops (i::rest)::k)::cs) w'):=
      step_lone_go (by simp_all [bZ,pW])
     refine ⟨_,_,hR,.head henter ?_⟩;simp_all
    all_goals first|exact h.elim|cases hQ _ _ _ h
   |halt x w'=>
    cases x<;>simp only[kI] at h
    grind
  ·simp only[hw,if_false,Bool.false_eq_true] at h
   have hs:=stepR_op_skip (P:=P) (b:=b) (a:=Lu b a) (k:=k) (cs:=cs) (w:=w) (ops:=ops) (i:=i) (rest:=rest)
    (by simp_all [Lu])
   simp only[ho,Option.bind_some] at hs;rw[aaE] at hs;exact ⟨_,_,h,.one hs⟩
theorem ael{ops:Array Oper}{Q:Exit->Act->World->Prop}(hnd:∀(i:Nat) (o:Oper),ops[i]?=ae o->∀c,o.op≠.defer c)(hQ:∀e a w,Q e a w->e=.normal)(b:Frame)(k:List Item)(cs:List Frame):∀(l:List Nat) (a:Act) (w:World),wpOps P ops Q l a w->
  ∃a' w',Q .normal a' w'/\Steps P (lone (pW b a (.inRegion ops l::k)) cs w) (lone (pW b a' k) cs w')
 |[],a,w,h=>⟨a,w,h,.one LH⟩ |i::l,a,w,h=>by
  rw[wpOps_cons] at h;obtain ⟨a1,w1,h1,h2⟩:=aek (hnd i) hQ h b k cs;obtain ⟨a2,w2,h3,h4⟩:=ael hnd hQ b k cs l a1 w1 h1;exact ⟨a2,w2,h3,h2.trans h4⟩
theorem apV{call:Nat->List SV->Core->Tree (SV×Core)}(hC:oC P C)(hF:oD P C)(hK:yR P C K call){c:Core}{a:Act}{φ:Core->Prop}{ops:Array Oper}{id:Nat}(hnd:∀(i:Nat) (o:Oper),ops[i]?=ae o->∀c,o.op≠.defer c)
  (st:St C K H E w c a) {g:Nat} (h:(drawn C call g ops c).All φ) (b:Frame) (k:List Item) (cs:List Frame) :
  ∃c' a' H' E' w',φ c'/\St C K H' E' w' c' a'/\Mv K H E w c H' E' w' c'/\Steps P (lone (pW b a (.code (.region id ops ah)::k)) cs w) (lone (pW b a' k) cs w'):=by
 have h1:=Xh hC hF hK st h;have hm:=hC.mixed;have hs:∀t,wpOps P ops _ (fO (P.follows .mixedOrders) ops t) a {w with drawn:=w.drawn+1}:=fun t=>by
  simp only[fO,hm,Bool.true_or,if_true];exact wpAny_sound ops.size t _ a _ h1
 obtain ⟨a',w',⟨_,c',H',E',e1,e2,e3⟩,e4⟩:=ael hnd (fun _ _ _ h=>h.1) b k cs _ a _ (hs (w.tape w.drawn (.order b.fn id)));exact ⟨c',a',H',E',w',e1,e2,e3,.head VF e4⟩
theorem ab8{fn:Func}{c:Core}{φ:Out->Prop}(h:(result C fn c).All φ):∃sv,result C fn c=.leaf (.done sv c)/\φ (.done sv c):=by
 unfold result at h ⊢;split
 ·rename_i sv hs;rw[hs] at h;exact ⟨sv,rfl,h⟩
 ·rename_i l hne hs
  split at h
  ·grind
  ·rename_i l2 hne2 hs2;rw[hs] at hs2;cases hs2;exact ⟨_,rfl,h⟩
  grind
 ·rename_i hs;rw[hs] at h;exact h.elim
def amn(P:Program)(C:Ctx)(fn:Func)(H:Mem)(E:Env)(sv:SV)(c:Core)(a:Act):Prop:=
 ∀(K:Kx) (w:World),St C K H E w c a->∃v,Den H E sv v/\(results fn a.tmps).run P w=.ok v w
theorem aj1(hC:oC P C){fn:Func}{c:Core}{a:Act}{sv:SV}(h:result C fn c=.leaf (.done sv c)):amn P C fn H E sv c a:=fun K w st=>by
 obtain ⟨sv',v,h1,h2,h3⟩:=Xi (φ:=fun o=>o=.done sv c) hC st (by rw[h];exact rfl);simp_all
def amo(P:Program)(C:Ctx)(K:Kx)(fn:Func)(H:Mem)(E:Env)(w:World)(c:Core)(m:Machine)(b:Frame)(cs:List Frame):Sig->Prop
 | .done sv c'=>∃(a':Act) (w':World) (H':Mem) (E':Env) (todo:List Item),Steps P m (lone {pW b a' todo with mode:=.returning} cs w')/\St C K H' E' w' c' a'/\Mv K H E w c H' E' w' c'/\amn P C fn H' E' sv c' a'
 | .go uJ c'=>∃(a':Act) (w':World) (H':Mem) (E':Env) (items':List Item),Steps P m (lone (pW b a' items') cs w')/\St C K H' E' w' c' a'/\Mv K H E w c H' E' w' c'/\pV (nC fn) uJ items' | .halt uJ c'=>∃(a':Act) (w':World) (H':Mem) (E':Env) (items':List Item),Steps P m (lone (pW b a' items') cs w')/\St C K H' E' w' c' a'/\Mv K H E w c H' E' w' c'/\pV (nC fn) uJ items'
def endsB(fn:Func):List It->Bool
 |[]=>ah | .code p::_=>match oh (nC fn) p with
  | .ret=>ah |_=>ag
 |_=>ag
theorem aj2(hC:oC P C)(hF:oD P C){call:Nat->List SV->Core->Tree (SV×Core)}(hK:yR P C K call){top:Bool}{g:Nat}{fn:Func}{td:List It}{c:Core}{a:Act}{items:List Item}{φ:Sig->Prop}(hnd:sV (nC fn)=ah)
  (h:(Jf C call top g fn td c).All φ) (st:St C K H E w c a) (hi:pV (nC fn) td items) (b:Frame) (cs:List Frame) (hr:b.roundOf=ao\/endsB fn td=ag) :
  ∃sig,φ sig/\amo P C K fn H E w c (lone (pW b a items) cs w) b cs sig:=by
 have D9:Mv K H E w c H E w c:=zZ st rfl rfl rfl rfl;have go:∀{uJ:List It} {c':Core} {H':Mem} {E':Env} {w':World} {a':Act} {items':List Item},φ (.go uJ c')->St C K H' E' w' c' a'->Mv K H E w c H' E' w' c'->pV (nC fn) uJ items'->
   Steps P (lone (pW b a items) cs w) (lone (pW b a' items') cs w')->∃sig,φ sig/\amo P C K fn H E w c (lone (pW b a items) cs w) b cs sig:=fun h1 h2 h3 h4 h5=>⟨_,h1,_,_,_,_,_,h5,h2,h3,h4⟩
 have fin:∀(todo:List Item),((result C fn c).bind abH).All φ->step P (lone (pW b a items) cs w)=.next (lone {pW b a todo with mode:=.returning} cs w)->∃sig,φ sig/\amo P C K fn H E w c (lone (pW b a items) cs w) b cs sig:=fun todo hr hs=>by
  obtain ⟨sv,h1,h2⟩:=ab8 (bz hr);exact ⟨_,h2,a,w,H,E,todo,.one hs,st,D9,aj1 hC h1⟩
 unfold Jf at h;split at h
 ·cases hi
  have hb:b.roundOf=ao:=by
   rcases hr with hr|hr
   ·exact hr
   ·cases hr
  grind [apU]
 ·cases hi with
  |inBlock id hk=>exact go h st D9 hk (.one aei)
 ·exact h.elim
 ·cases hi with
  |reg p l id ops hc hk=>exact go h (st.Fb g) (zZ st rfl rfl rfl rfl) hk (.one LH)
 ·rename_i p i r k
  cases hi with
  |reg p l id ops hc hk=>
   have hd:sV (.region id ops ag)=ah:=by grind [LJ]
   rw[hc] at h;simp only at h;obtain ⟨a',w',h1,h2⟩:=aek (fun o ho=>QM hd ho) (fun _ _ _ h=>h.elim) (OX hC hF hK st (bz h) (fun a' w'=>∃c' H' E',φ (.go (.reg p r::k) c')/\St C K H' E' w' c' a'/\Mv K H E w c H' E' w' c') (fun _ _ _=>False)
    fun c' a' H' E' w' e1 e2 e3 _=>⟨c',H',E',e1,e2,e3⟩) b _ cs
   obtain ⟨c',H',E',e1,e2,e3⟩:=h1;exact go e1 e2 e3 (.reg p r id ops hc hk) h2
 ·rename_i p k
  have hloop:∀{x:Code},oh (nC fn) p=x->(∀y,x≠.loop y)->∃k',items=.code x::k'/\pV (nC fn) k k':=fun {x} hx hne=>by
   cases hi with
   |code p hk=>simp_all |loop p y hl hk=>grind
  split at h
  ·rename_i hx
   obtain ⟨k',rfl,hk⟩:=hloop hx (by simp);exact go h st D9 hk (.one amk)
  ·rename_i hx
   obtain ⟨k',rfl,hk⟩:=hloop hx (by simp);grind [endsB,apT]
  ·rename_i x y hx
   obtain ⟨k',rfl,hk⟩:=hloop hx (by simp);have h0:oh (nC fn) (0::p)=x:=by simp[oh,hx,child]
   have h1:oh (nC fn) (1::p)=y:=by simp[oh,hx,child]
   have:=bV (0::p) (bV (1::p) hk);rw[h0,h1] at this;exact go h st D9 this (.one apS)
  ·rename_i id x hx
   obtain ⟨k',rfl,hk⟩:=hloop hx (by simp);have h0:oh (nC fn) (0::p)=x:=by simp[oh,hx,child]
   have:=bV (0::p) (pV.inBlock id hk);rw[h0] at this;exact go h st D9 this (.one aj0)
  ·rename_i x hx
   have h0:oh (nC fn) (0::p)=x:=by simp[oh,hx,child]
   cases hst:C.Cm g p<;>simp only[hst,cond_true,cond_false] at h
   ·cases hi with
    |code p hk=>
     have:=bV (0::p) (fJ p x hx hk);rw[h0] at this;rw[hx] at go ⊢;exact go h st D9 this (.one aej)
    |loop p y hl hk=>
     rw[hx] at hl;cases hl;have:=bV (0::p) (fJ p x hx hk);rw[h0] at this;exact go h st D9 this (.one XC)
   ·exact ⟨_,h,a,w,H,E,items,.refl _ _,st,D9,hi⟩
  ·rename_i id hx
   obtain ⟨k',rfl,hk⟩:=hloop hx (by simp);split at h
   ·rename_i k2 he
    obtain ⟨k3,h1,h2⟩:=adW hk he;exact go h st D9 h2 (.one (amm h1))
   ·exact h.elim
  ·rename_i x y z hx
   obtain ⟨k',rfl,hk⟩:=hloop hx (by simp);have h0:=bV (0::p) hk;have h1:=bV (1::p) hk;have e0:oh (nC fn) (0::p)=y:=by simp[oh,hx,child]
   have e1:oh (nC fn) (1::p)=z:=by simp[oh,hx,child]
   rw[e0] at h0;rw[e1] at h1;have dx:=ou (H:=H) (E:=E) st.den x;have cnd:∀t:Bool,a.eval x=.bool t->step P (lone (pW b a (.code (.cond x y z)::k')) cs w)=.next (lone (pW b a (.code (if t then y else z)::k')) cs w):=fun t ht=>aml ht
   split at h
   ·rename_i hv
    rw[hv] at dx;exact go h st D9 h0 (.one (cnd ah dx))
   ·rename_i hv
    rw[hv] at dx;exact go h st D9 h1 (.one (cnd ag dx))
   ·rename_i t hv
    rw[hv] at dx;have st':∀v,t=v->St C K H E w (c.put (Qc x) (.bool v)) a:=fun v hv2=>by
     subst hv2;cases x with
     |tmp d=>exact st.know hv |const u=>assumption |global u=>assumption |func u=>assumption
    have mv':∀v:Bool,Mv K H E w c H E w (c.put (Qc x) (.bool v)):=fun v=>zZ st rfl rfl rfl rfl
    cases t with
    |true=>exact go (h.1 rfl) (st' ah rfl) (mv' ah) h0 (.one (cnd ah dx)) |false=>exact go (h.2 rfl) (st' ag rfl) (mv' ag) h1 (.one (cnd ag dx))
   ·exact h.elim
  ·rename_i id ops dr hx
   obtain ⟨k',rfl,hk⟩:=hloop hx (by simp);have hd:sV (.region id ops dr)=ah:=by grind [LJ]
   cases dr with
   |false=>
    simp only[cond_false] at h;exact go h st D9 (.reg p (aD ops.size) id ops hx hk) (.one agR)
   |true=>
    simp only[cond_true] at h;have key:∀(f:Core->Tree Sig),((drawn C call g ops c).bind f).All φ->∃c' a' H' E' w',(f c').All φ/\St C K H' E' w' c' a'/\Mv K H E w c H' E' w' c'/\Steps P (lone (pW b a (.code (.region id ops ah)::k')) cs w) (lone (pW b a' k') cs w'):=fun f hf=>
     apV (id:=id) hC hF hK (fun i o ho=>QM hd ho) st (bz hf) b k' cs
    cases hl:(top && !(drawn C call g ops c).lone)<;>simp only[hl,cond_true,cond_false] at h
    ·obtain ⟨c',a',H',E',w',h1,h2,h3,h4⟩:=key _ h
     exact go h1 h2 h3 hk h4
    ·obtain ⟨c',a',H',E',w',h1,h2,h3,h4⟩:=key _ h
     exact ⟨_,h1,a',w',H',E',k',h4,h2,h3,hk⟩
  ·exact h.elim
end
inductive Ho where
 |ready|busy|done (q:List Nat)
structure Fw where
 g:Nat
 r:Option (Nat×Nat)
 td:List It
 tm:List SV
 lp:Option (Nat×List Nat×Ho)
def Df:Ho->LoopState
 | .ready=>.ready | .busy=>.busy | .done _=>.done
def xg(body:Code):Ho->Option Code
 | .done q=>ae (oh body q) |_=>ao
def marks(rs:List Nat):List Deferred:=rs.map fun r=>{target:=.collected r,args:=#[]}
def NY(r:Option (Nat×Nat)):Option Nat:=r.map (·.1)
def KE(f:Fw):List Nat:=match f.lp with
 |some (l,_,_)=>[l] |none=>[]
def aem(fn:Func)(g:Nat)(tmps:Array Value)(p:List Nat)(s:Ho)(o:Obj):Prop:=
 ∃x ps ca cb df,oh (nC fn) p=.rangeFunc x ps ca cb/\o=.loop {state:=Df s,pending:=xg (nC fn) s,fn:=g,tmps,params:=ps,assign:=ca,body:=cb,defers:=df}
def U6(C:Ctx)(H:Mem)(E:Env)(h:Hp)(f:Fw)(mf:Frame)(rs:List Nat):Prop:=
 ∃fn a items,C.fns.get f.g=ae fn/\ni H E f.tm a.tmps.toList/\a.defers=[]/\pV (nC fn) f.td items/\(∀x∈rs,h x=ae (.deferred (ae [])))/\
  match f.lp with
  |none=>mf=pW (bq f.g (NY f.r) (marks rs)) a items |some (l,p,s)=>mf=pW (bq f.g (NY f.r) (marks rs)) a (.inRangeFunc l::items)/\∃o,h l=ae o/\aem fn f.g a.tmps p s o
def wG(C:Ctx)(H:Mem)(E:Env)(h:Hp):List Fw->List Frame->List Nat->Prop
 |[],[],B=>B=[] |f::s,mf::ms,B=>∃rs B',B=rs++KE f++B'/\U6 C H E h f mf rs/\wG C H E h s ms B' |_,_,_=>False
def zy(h:Hp)(K:Kx)(H:Mem)(E:Env)(w:World)(hp:List (Nat×SB)):Prop:=
 ∀b o,h b=ae o->w.heap[b]?=ae o/\H b=ao/\(∀id sb,mQ hp id=ae sb->nU E id sb≠ae b)/\(K.w0.heap.size<=b\/K.own b)
def J8(g:Nat):List Fw->Nat
 |[]=>g |f::s=>J8 f.g s
def aen(P:Program)(C:Ctx)(K:Kx)(bot:Nat)(φ:Sh->Prop)(m:Machine)(cs:List Frame):Prop:=
 ∃(a':Act) (w':World) (v:Value) (s:Sh) (H':Mem) (todo:List Item) (fn0:Func),C.fns.get bot=ae fn0/\Steps P m (lone {(base bot).at a' todo with mode:=.returning} cs w')/\
   a'.defers=[]/\φ s/\qy K.H0 K.w0 s v H' w'/\(results fn0 a'.tmps).run P w'=.ok v w'
theorem aen.of{P:Program}{C:Ctx}{K:Kx}{bot:Nat}{φ:Sh->Prop}{m m':Machine}{cs:List Frame}(h1:Steps P m m')(h2:aen P C K bot φ m' cs):aen P C K bot φ m cs:=by
 obtain ⟨a',w',v,s,H',todo,fn0,q1,q2,q3⟩:=h2;exact ⟨a',w',v,s,H',todo,fn0,q1,h1.trans q2,q3⟩
def wL(P:Program)(C:Ctx)(K:Kx)(g:Nat)(r:Option (Nat×Nat))(td:List It)(c:Core)(stk:List Fw)(φ:Sh->Prop):Prop:=
 ∀(H:Mem) (E:Env) (w:World) (a:Act) (items:List Item) (rs B:List Nat) (ms cs:List Frame) (fn:Func) (h:Hp),C.fns.get g=ae fn->St C K H E w c a->pV (nC fn) td items->
  (∀x∈rs,h x=ae (.deferred (ae [])))->wG C H E h stk ms B->(rs++B).Nodup->zy h K H E w c.hp->
  aen P C K (J8 g stk) φ (lone (pW (bq g (NY r) (marks rs)) a items) (ms++cs) w) cs
section
variable{P:Program}{C:Ctx}{K:Kx}{H H' G9 H0:Mem}{E E' He E1:Env}{w w' w'' w0:World}{h:Hp}
theorem U6.le(hH:H.le H')(hE:E.le E'){f:Fw}{mf:Frame}{rs:List Nat}(x:U6 C H E h f mf rs):U6 C H' E' h f mf rs:=by
 obtain ⟨fn,a,items,h1,h2,h3⟩:=x;exact ⟨fn,a,items,h1,h2.le hH hE,h3⟩
theorem wG.le(hH:H.le H')(hE:E.le E'):∀{s:List Fw} {ms:List Frame} {B:List Nat},wG C H E h s ms B->wG C H' E' h s ms B
 |[],[],_,x=>x |_::_,_::_,_,⟨rs,B',h1,h2,h3⟩=>⟨rs,B',h1,h2.le hH hE,wG.le hH hE h3⟩ |[],_::_,_,x=>x.elim |_::_,[],_,x=>x.elim
theorem zy.keep{c c':Core}{a a':Act}(hx:zy h K H E w c.hp)(st:St C K H E w c a)(st':St C (KC H E w c.hp) H' E' w' c' a'):zy h K H' E' w' c'.hp:=by
 intro b o e;obtain ⟨h1,h2,h3,h4⟩:=hx b o e;have hlt:=(aI.1 h1).1;have hno:¬(KC H E w c.hp).own b:=fun ⟨id,sb,q1,q⟩=>h3 id sb q1 q;refine ⟨by rw[st'.o7.kept b hlt hno];exact h1,?_,fun id sb hl ho=>?_,h4⟩
 ·cases hx:H' b with
  |none=>rfl |some o'=>
   rcases st'.o7.fresh b (by rw[hx];simp) with q|q|q
   ·exact (q h2).elim
   ·have q:w.heap.size<=b:=q;omega
   simp_all
 ·obtain ⟨_,_,q⟩:=(st'.hp.ent id sb hl).lt ho
  rcases q with q|q
  ·have q:w.heap.size<=b:=q;omega
  grind
theorem zy.weak{ρ:List (Nat×Rn)}{c c':Core}{a:Act}(hx:zy h K H E w c.hp)(st:St C K H E w c a)(hle:leC ρ c c'):zy h K H (wo ρ E) w c'.hp:=by
 intro b o e;obtain ⟨h1,h2,h3,h4⟩:=hx b o e;refine ⟨h1,h2,fun id sb hl ho=>?_,h4⟩;obtain ⟨id0,s0,_,q1,q2⟩:=(QC st.hp (QD hle.2.1 hl)).2 b ho;simp_all
def zQ(h:Hp)(b:Nat)(o:Obj):Hp:=fun x=>if x=b then ae o else h x
theorem FC{b:Nat}{o:Obj}:zQ h b o b=ae o:=by simp[zQ]
theorem vM{b x:Nat}{o:Obj}(hne:x≠b):zQ h b o x=h x:=by simp[zQ,hne]
theorem St.putObj{c:Core}{a:Act}(st:St C K H E w c a){b:Nat}{o o':Obj}(hx:zy h K H E w c.hp)(hb:h b=ae o):St C K H E (w.putObj b o') c a:=by
 obtain ⟨h1,h2,h3,h4⟩:=hx b o hb;refine ⟨st.den,⟨fun id sb hl=>(st.hp.ent id sb hl).kept (fun _ _ e=>e) (fun _ _ e=>e) (fun b' hb'=>?_) fun b' hb'=>((st.hp.ent id sb hl).lt hb').2.1,st.hp.vV⟩,?_,st.free,st.gl,st.defers⟩
 ·grind [cU]
 ·refine ⟨st.o7.os,st.o7.tape,st.o7.output,by rw[World.putObj_size];exact st.o7.size,fun b' hlt hno=>?_,fun b' o2 hb'=>?_,st.o7.le,st.o7.fresh⟩
  ·rw[cU]
   ·exact st.o7.kept b' hlt hno
   grind
  ·rw[cU]
   ·exact st.o7.on b' o2 hb'
   grind
theorem zy.put{hp:List (Nat×SB)}{b:Nat}{o o':Obj}(hx:zy h K H E w hp)(hb:h b=ae o):zy (zQ h b o') K H E (w.putObj b o') hp:=by
 intro x o2 e;by_cases hxb:x=b
 ·subst hxb
  rw[FC] at e;cases e;obtain ⟨h1,h2⟩:=hx x o hb;grind [World.putObj_heap_same,aI]
 ·rw[vM hxb] at e
  obtain ⟨h1,h2⟩:=hx x o2 e;simp_all [cU]
theorem heap_alloc_old(w:World)(o:Obj)(x:Nat)(h:x<w.heap.size):(w.alloc o).heap[x]?=w.heap[x]?:=by
 show (w.heap.push o)[x]?=_;grind
theorem St.Tm{c:Core}{a:Act}(st:St C K H E w c a)(o:Obj):St C K H E (w.alloc o) c a:=
 ⟨st.den,⟨fun id sb hl=>(st.hp.ent id sb hl).kept (fun _ _ e=>e) (fun _ _ e=>e) (fun b hb=>heap_alloc_old w o b ((st.hp.ent id sb hl).lt hb).1) fun _ hb=>((st.hp.ent id sb hl).lt hb).2.1,st.hp.vV⟩,
  st.o7.alloc o,st.free,st.gl,st.defers⟩
theorem zy.alloc{c:Core}{a:Act}(hx:zy h K H E w c.hp)(st:St C K H E w c a)(o:Obj):zy (zQ h w.heap.size o) K H E (w.alloc o) c.hp:=by
 intro x o2 e;by_cases hxb:x=w.heap.size
 ·subst hxb
  rw[FC] at e;cases e;refine ⟨World.alloc_heap_new w o,?_,fun id sb hl ho=>?_,.inl st.o7.size⟩
  ·cases hH:H w.heap.size with
   |none=>rfl |some o'=>have:=(aI.1 (st.o7.on _ _ hH)).1;omega
  ·have:=((st.hp.ent id sb hl).lt ho).1;omega
 ·rw[vM hxb] at e
  obtain ⟨h1,h2⟩:=hx x o2 e;grind [heap_alloc_old,aI]
theorem U6.put{f:Fw}{mf:Frame}{rs:List Nat}(x:U6 C H E h f mf rs){b:Nat}{o:Obj}(h1:b ∉ rs)(h2:b ∉ KE f):U6 C H E (zQ h b o) f mf rs:=by
 obtain ⟨fn,a,items,q1,q2,q3,q4,q5,q6⟩:=x;refine ⟨fn,a,items,q1,q2,q3,q4,fun y hy=>by grind [vM],?_⟩;grind [KE,vM]
theorem wG.put{b:Nat}{o:Obj}:∀{s:List Fw} {ms:List Frame} {B:List Nat},wG C H E h s ms B->b ∉ B->wG C H E (zQ h b o) s ms B
 |[],[],_,x,_=>x |f::_,_::_,B,⟨rs,B',h1,h2,h3⟩,hb=>by
  subst h1;simp only[aU,not_or] at hb;exact ⟨rs,B',rfl,h2.put hb.1.1 hb.1.2,wG.put h3 hb.2⟩
 |[],_::_,_,x,_=>x.elim |_::_,[],_,x,_=>x.elim
theorem wG.len:∀{s:List Fw} {ms:List Frame} {B:List Nat},wG C H E h s ms B->s.length=ms.length
 |[],[],_,_=>rfl |_::_,_::_,_,⟨_,_,_,_,h3⟩=>by simp[wG.len h3] |[],_::_,_,x=>x.elim |_::_,[],_,x=>x.elim
theorem wG.has:∀{s:List Fw} {ms:List Frame} {B:List Nat},wG C H E h s ms B->∀x∈B,∃o,h x=ae o
 |[],[],_,e,x,hx=>by have e:_=[]:=e;simp_all |f::_,_::_,B,⟨rs,B',h1,h2,h3⟩,x,hx=>by
  subst h1;obtain ⟨fn,a,items,q1,q2,q3,q4,q5,q6⟩:=h2;simp only[aU] at hx;rcases hx with (hx|hx) |hx
  ·exact ⟨_,q5 x hx⟩
  ·unfold KE at hx
   split at q6
   ·rename_i hl;rw[hl] at hx;cases hx
   ·rename_i l p s hl
    rw[hl] at hx;obtain ⟨_,o,q8,_⟩:=q6;have:x=l:=by simpa using hx
    exact ⟨o,this ▸ q8⟩
  ·exact wG.has h3 x hx
 |[],_::_,_,e,_,_=>e.elim |_::_,[],_,e,_,_=>e.elim
theorem collects{c:Core}{a:Act}:∀{rs:List Nat} {B:List Nat} {h:Hp} {w:World} {s:List Fw} {ms:List Frame} (g:Nat) (todo:List Item) (cs:List Frame),St C K H E w c a->zy h K H E w c.hp->(∀x∈rs,h x=ae (.deferred (ae [])))->wG C H E h s ms B->(rs++B).Nodup->
  ∃w' h',Steps P (lone {pW (bq g ao (marks rs)) a todo with mode:=.returning} cs w) (lone {(base g).at a todo with mode:=.returning} cs w')/\St C K H E w' c a/\zy h' K H E w' c.hp/\wG C H E h' s ms B
 |[],B,h,w,s,ms,g,todo,cs,st,hx,_,hs,_=>⟨w,h,by rw[<-Tj];exact .refl _ _,st,hx,hs⟩ |r::rs,B,h,w,s,ms,g,todo,cs,st,hx,hm,hs,hnd=>by
  have h0:=hm r (List.mem_cons_self ..);have hw:=(hx r _ h0).1;simp only[List.cons_append,List.nodup_cons,aU,not_or] at hnd;have hstep:step P (lone {pW (bq g ao (marks (r::rs))) a todo with mode:=.returning} cs w)=.next (lone {pW (bq g ao (marks rs)) a todo with mode:=.returning} cs (w.putObj r (.deferred ao))):=by
   have:=step_collected (P:=P) (fr:={pW (bq g ao (marks (r::rs))) a todo with mode:=.returning}) (cs:=cs) (w:=w) (d:={target:=.collected r,args:=#[]}) (r:=r) (ds:=marks rs) (calls:=[]) (by simp)
    (by simp[pW,bq,marks,st.defers]) rfl (run_takeDeferred hw)
   rw[this];simp[pW,bq,marks,st.defers]
  obtain ⟨w',h',q1,q2,q3,q4⟩:=collects g todo cs (st.putObj (o':=.deferred ao) hx h0) (hx.put (o':=.deferred ao) h0) (fun x hxm=>by
   grind [vM,List.mem_cons_of_mem]) (hs.put hnd.1.2) hnd.2
  exact ⟨w',h',.head hstep q1,q2,q3,q4⟩
end
def yv(l:Nat):Value:=.func (.yield l) #[] #[]
section moves
variable{P:Program}{b c:Frame}{a:Act}{k:List Item}{cs:List Frame}{w w':World}
theorem XE{l:Nat}(hb:b.roundOf=ae l)(hr:(Instr.beginRound l).run P w=.ok () w'):step P (lone (pW b a (.beginRound::k)) cs w)=.next (lone (pW b a k) cs w'):=by
 simp_all [Dc,stepR_beginRound]
theorem ZR{l:Nat}{v:Value}(hb:b.roundOf=ae l)(hk:b.kind=.normal)(hr:(eI l ao).run P w=.ok v w'):step P (lone (pW b a []) (c::cs) w)=.next (lone (c.finish v) cs w'):=by
 grind [Dc,stepR_round_end]
theorem ZT{l:Nat}{v:Value}(hb:b.roundOf=ae l)(hk:b.kind=.normal)(hr:(eI l (ae .ret)).run P w=.ok v w'):step P (lone (pW b a (.code .ret::k)) (c::cs) w)=.next (lone (c.finish v) cs w'):=by
 grind [Dc,stepR_round_ret]
theorem XF{l id:Nat}{v:Value}(hb:b.roundOf=ae l)(hk:b.kind=.normal)(hx:exitTo id k=ao)(hr:(eI l (ae (.exit id))).run P w=.ok v w'):
  step P (lone (pW b a (.code (.exit id)::k)) (c::cs) w)=.next (lone (c.finish v) cs w'):=by
 grind [Dc,stepR_round_exit]
theorem VG(l:Nat)(v:Value):(pW b a (.inRangeFunc l::k)).finish v=pW b a (.endRangeFunc l::k):=by rfl
theorem ab9{l:Nat}{jump:Option Code}(h:(Instr.endLoop l).run P w=.ok jump w'):step P (lone (pW b a (.endRangeFunc l::k)) cs w)=.next (lone (pW b a ((jump.map Item.code).toList++k)) cs w'):=by
 grind [Dc,stepR_endRangeFunc]
end moves
inductive amq where
 |fin (v:SV) (c:Core)
 |stop (g:Nat) (r:Option (Nat×Nat)) (td:List It) (c:Core) (stk:List Fw)
inductive EvW where
 |plain|bad|halt
 |next (g:Nat) (r:Option (Nat×Nat)) (td:List It) (c:Core) (stk:List Fw) (q:List oM)
def QN:Ho->Ho->Bool
 | .ready,.ready=>ah | .busy,.busy=>ah |_,_=>ag
def setW(g d:Nat)(s0 s1:Ho):List Fw->Option (Nat×List Fw)
 |[]=>ao |f::s=>bif bJ s.length d then match f.lp with
   |some (l,p,st)=>bif bJ f.g g&&QN st s0 then ae (l,{f with lp:=ae (l,p,s1)}::s) else ao
   |none=>ao
  else match setW g d s0 s1 s with
   |some (l,s')=>ae (l,f::s') |none=>ao
def yW:List Fw->Option (Nat×Nat×Fw×List Nat)
 |[]=>ao |f::s=>match f.lp with
  |some (l,p,.ready)=>ae (l,s.length,f,p) |_=>yW s
def yieldOf(fn:Func)(td:List It)(c:Core):Option (Nat×List SV):=
 match td with
 | .reg p (i::_)::_=>match oh (nC fn) p with
  | .region _ ops _=>match opAt ops.toList i with
   |some o=>match Gi ops.toList c.tm o with
    | .yes=>match o.op with
     | .call k=>match k.callee with
      | .value f=>match oI c.tm f with
       | .val (.func (.yield l) x y)=>bif bJ x.size 0&&bJ y.size 0 then ae (l,k.args.toList.map (oI c.tm)) else ao |_=>ao
      |_=>ao
     |_=>ao
    |_=>ao
   |none=>ao
  |_=>ao
 |_=>ao
def Ju(C:Ctx)(g l d:Nat)(s1:Ho)(b:Bool)(c:Core)(stk:List Fw):EvW:=
 match setW g d .busy s1 stk with
 |some (l',f::s)=>match f.lp with
  |none=>match Lh C ⟨f.g,f.td,f.tm⟩ (.bool b) c with
   |some x=>.next f.g f.r x.1 x.2 s [.nat l l'] |none=>.bad
  |some _=>.bad
 |_=>.bad
def evW(C:Ctx)(fn:Func)(g:Nat)(r:Option (Nat×Nat))(td:List It)(c:Core)(stk:List Fw):EvW:=
 match td with
 |[]=>match r with
  |none=>.plain |some (l,d)=>Ju C g l d .ready ah c stk
 | .SI::k=>match r with
  |none=>.bad |some (l,d)=>match setW g d .ready .busy stk with
   |some (l',s)=>.next g r k c s [.nat l l'] |none=>.bad
 | .code p::k=>match oh (nC fn) p with
  | .rangeFunc _ _ _ _=>.halt | .ret=>match r with
   |none=>.plain |some (l,d)=>Ju C g l d (.done p) ag c stk
  | .exit id=>match r with
   |none=>.plain |some (l,d)=>match EC id k with
    |some _=>.plain |none=>Ju C g l d (.done p) ag c stk
  |_=>.plain
 | .reg _ (_::_)::_=>match yieldOf fn td c with
  |some (l,args)=>match yW stk with
   |some (l',d,f,p)=>match C.fns.get f.g with
    |some Hl=>match oh (nC Hl) p with
     | .rangeFunc _ ps _ _=>bif bJ ps.size args.length then
       .next f.g (ae (l',d)) [.code (0::p),.SI,.code (1::p)] {c with tm:=(ps.toList.zip args).foldl (fun t x=>t.set x.1 x.2) f.tm} ({g,r,td,tm:=c.tm,lp:=ao}::stk) [.nat l l'] else .bad
     |_=>.bad
    |none=>.bad
   |none=>.bad
  |none=>match Jo C fn td c with
   |some x=>.next x.1 ao [.code []] {c with tm:=x.2.2++bf (x.2.1.ntmps - x.2.2.length) .any} ({g,r,td,tm:=c.tm,lp:=ao}::stk) []
   |none=>.plain
 |_=>.plain
def aiy(f:Fw):Ho->List It
 | .done q=>.code q::f.td |_=>f.td
def aiz:Ho->Bool
 | .busy=>ah |_=>ag
def XG(C:Ctx)(pause:Nat->List It->Bool)(m:Nat):Nat->Nat->Option (Nat×Nat)->List It->Core->List Fw->Tree amq
 |0,g,r,td,c,stk=>.leaf (.stop g r td c stk) |n+1,g,r,td,c,stk=>match C.fns.get g with
  |none=>.fail |some fn=>bif pause g td then .leaf (.stop g r td c stk) else match evW C fn g r td c stk with
   | .bad=>.fail | .halt=>.leaf (.stop g r td c stk) | .next g' r' uJ c' AZ q=>SE q (XG C pause m n g' r' uJ c' AZ) | .plain=>(Jf C (CB C (run C m ag)) ah g fn td c).bind fun s=>match s with
    | .go td c=>XG C pause m n g r td c stk | .halt td c=>.leaf (.stop g r td c stk) | .done v c=>match r with
     |some _=>.fail |none=>match stk with
      |[]=>.leaf (.fin v c) |f::s=>match f.lp with
       |none=>match Lh C ⟨f.g,f.td,f.tm⟩ v c with
        |some x=>XG C pause m n f.g f.r x.1 x.2 s |none=>.fail
       |some (_,_,st)=>bif aiz st then .fail else XG C pause m n f.g f.r (aiy f st) {c with tm:=f.tm} s
def apW(P:Program)(C:Ctx)(K:Kx)(φ:Sh->Prop):amq->Prop
 | .fin v c=>∃s,finish c v=ae s/\φ s | .stop g r td c stk=>wL P C K g r td c stk φ
section
variable{P:Program}{C:Ctx}{K:Kx}{H H' G9 H0:Mem}{E E' He E1:Env}{w w' w'' w0:World}{h:Hp}
theorem agT{α:Type}{φ:α->Prop}{l:List oM}{t:Tree α}(hx:(SE l t).All φ):bi l/\t.All φ:=by
 unfold SE at hx;split at hx
 ·exact ⟨trivial,hx⟩
 ·exact hx
theorem aem.loop{fn:Func}{g:Nat}{tmps:Array Value}{p:List Nat}{s:Ho}{o:Obj}(hx:aem fn g tmps p s o):∃lp,o=.loop lp/\lp.state=Df s/\lp.pending=xg (nC fn) s/\∀s',aem fn g tmps p s' (.loop {lp with state:=Df s',pending:=xg (nC fn) s'}):=by
 obtain ⟨x,ps,ca,cb,df,h1,rfl⟩:=hx;exact ⟨_,rfl,rfl,rfl,fun s'=>⟨x,ps,ca,cb,df,h1,rfl⟩⟩
theorem agU{s t:Ho}(hx:QN s t=ah):s=t:=by
 cases s<;>cases t<;>simp[QN] at hx<;>rfl
theorem XH{g d:Nat}{s0 s1:Ho}{fn:Func}(hfn:C.fns.get g=ae fn):∀{s s':List Fw} {ms:List Frame} {B:List Nat} {l:Nat},setW g d s0 s1 s=ae (l,s')->wG C H E h s ms B->B.Nodup->
  ∃lp,h l=ae (.loop lp)/\lp.state=Df s0/\lp.pending=xg (nC fn) s0/\l∈B/\wG C H E (zQ h l (.loop {lp with state:=Df s1,pending:=xg (nC fn) s1})) s' ms B
 |[],_,_,_,_,hx,_,_=>by simp[setW] at hx |f::s,s',[],_,_,_,hs,_=>hs.elim |f::s,s',mf::ms,B,l,hx,⟨rs,B',hB,h1,h2⟩,hnd=>by
  subst hB;simp only[setW] at hx;cases hd:bJ s.length d<;>simp only[hd,cond_true,cond_false] at hx
  ·split at hx
   ·rename_i l2 s2 hs2
    cases hx;have LM:B'.Nodup:=(bE.1 hnd).2.1;obtain ⟨lp,q1,q2,q3,q4,q5⟩:=XH hfn hs2 h2 LM;have hno:l ∉ rs++KE f:=fun hm=>(bE.1 hnd).2.2 l hm l q4 rfl;simp only[aU,not_or] at hno;exact ⟨lp,q1,q2,q3,List.mem_append_right _ q4,rs,B',rfl,h1.put hno.1 hno.2,q5⟩
   ·cases hx
  ·split at hx
   ·rename_i l2 p st hl
    cases hb:(bJ f.g g&&QN st s0)<;>simp only[hb,cond_true,cond_false] at hx
    ·cases hx
    ·cases hx
     simp only[ak] at hb;have hg:f.g=g:=Nat.eq_of_beq_eq_true hb.1;have hst:st=s0:=agU hb.2;subst hst;obtain ⟨fn',a,items,q1,q2,q3,q4,q5,q6⟩:=h1;rw[hg,hfn] at q1;cases q1;rw[hl] at q6;obtain ⟨q7,o,q8,q9⟩:=q6;obtain ⟨lp,rfl,r1,r2,r3⟩:=q9.loop;have hlB:KE f=[l]:=by simp[KE,hl]
     rw[hlB] at hnd ⊢;have hn1:l ∉ rs:=fun hm=>(bE.1 (bE.1 hnd).1).2.2 l hm l (by simp) rfl;have hn2:l ∉ B':=fun hm=>(bE.1 hnd).2.2 l (by simp) l hm rfl;refine ⟨lp,q8,r1,r2,by simp,rs,B',by simp[KE],⟨fn,a,items,by simp_all,q2,q3,q4,fun x hx=>by grind [vM],?_⟩,h2.put hn2⟩;simp_all [FC]
   ·cases hx
theorem ams:∀{s:List Fw} {ms:List Frame} {B:List Nat} {l d:Nat} {f:Fw} {p:List Nat},yW s=ae (l,d,f,p)->wG C H E h s ms B->
  ∃(fn:Func) (a:Act) (o:Obj),C.fns.get f.g=ae fn/\ni H E f.tm a.tmps.toList/\h l=ae o/\aem fn f.g a.tmps p .ready o/\l∈B
 |[],_,_,_,_,_,_,hx,_=>by simp[yW] at hx |f0::s,[],_,_,_,_,_,_,hs=>hs.elim |f0::s,mf::ms,B,l,d,f,p,hx,⟨rs,B',hB,h1,h2⟩=>by
  subst hB;simp only[yW] at hx;split at hx
  ·rename_i l2 p2 hl
   cases hx;obtain ⟨fn,a,items,q1,q2,q3,q4,q5,q6⟩:=h1;grind [KE]
  ·obtain ⟨fn,a,o,q1,q2,q3,q4,q5⟩:=ams hx h2
   grind
theorem XI:∀{l:List (Nat×SV)} {vl:List (Nat×Value)} {tm:List SV} {ts:Array Value},ni H E tm ts.toList->(∀(i:Nat) x y,l[i]?=ae x->vl[i]?=ae y->x.1=y.1/\Den H E x.2 y.2)->l.length=vl.length->
  ni H E (l.foldl (fun t x=>t.set x.1 x.2) tm) (vl.foldl (fun t x=>t.setIfInBounds x.1 x.2) ts).toList
 |[],[],_,_,hd,_,_=>hd |x::l,y::vl,tm,ts,hd,hx,hlen=>by
  obtain ⟨e1,e2⟩:=hx 0 x y rfl rfl;have hd2:ni H E (tm.set x.1 x.2) (ts.setIfInBounds y.1 y.2).toList:=by
   have:=zY (c:={tm:=tm,hp:=[],nx:=0,lim:=0,tc:=[]}) (a:={tmps:=ts,defers:=[]}) hd (ae x.1) e2;rw[<-e1];exact this
  simp only[List.foldl_cons];exact XI (l:=l) (vl:=vl) hd2 (fun i a b ha hb=>hx (i+1) a b ha hb) (by simp_all)
 |[],_::_,_,_,_,_,hl=>by simp at hl |_::_,[],_,_,_,_,hl=>by simp at hl
end
section
variable{P:Program}{C:Ctx}{K:Kx}{H H' G9 H0:Mem}{E E' He E1:Env}{w w' w'' w0:World}{h:Hp}
theorem Tn{g d:Nat}{s0 s1:Ho}:∀{s s':List Fw} {l g0:Nat},setW g d s0 s1 s=ae (l,s')->J8 g0 s'=J8 g0 s
 |[],_,_,_,hx=>by simp[setW] at hx |f::s,s',l,g0,hx=>by
  simp only[setW] at hx;cases hd:bJ s.length d<;>simp only[hd,cond_true,cond_false] at hx
  ·split at hx
   ·rename_i hs2
    cases hx;show J8 f.g _=J8 f.g _;exact Tn hs2
   ·cases hx
  ·split at hx
   ·rename_i l2 p st hl
    cases hb:(bJ f.g g&&QN st s0)<;>simp only[hb,cond_true,cond_false] at hx
    ·cases hx
    ·cases hx;rfl
   ·cases hx
theorem agV{body:Code}{id:Nat}:∀{td:List It} {k:List Item},pV body td k->EC id td=ao->exitTo id k=ao:=by
 intro td k h;induction h with
 |nil=>intro _;rfl |code p _ ih=>assumption |SI _ ih=>assumption |loop p x _ _ ih=>assumption |reg p l id ops _ _ ih=>assumption |inBlock j h0 ih=>
  intro h;simp only[EC] at h;grind [exitTo]
theorem aiA{f:Fw}{mf:Frame}{rs:List Nat}{x:List It×Core}{c:Core}{sv:SV}{v:Value}(hf:U6 C H E h f mf rs)(hl:f.lp=ao)(hp:Lh C ⟨f.g,f.td,f.tm⟩ sv c=ae x)(hv:Den H E sv v){a:Act}(st:St C K H E w c a):
  ∃(fn:Func) (a':Act) (items:List Item),C.fns.get f.g=ae fn/\St C K H E w x.2 a'/\pV (nC fn) x.1 items/\mf.finish v=pW (bq f.g (NY f.r) (marks rs)) a' items/\x.2.hp=c.hp:=by
 obtain ⟨fn,a3,ait,g1,g2,g3,g4,_,g5⟩:=hf;rw[hl] at g5;unfold Lh at hp;rw[g1] at hp;simp only at hp;split at hp
 ·rename_i p i rest k htd
  split at hp
  ·rename_i rid ops dr hcode
   cases hp;rw[htd] at g4;cases g4 with
   |reg p l id ops2 hc hk=>
    rw[hc] at hcode;cases hcode;rename_i k';have g5:mf=_:=g5;subst g5;refine ⟨fn,a3.put ((opAt ops.toList i).bind (·.dst)) v,_,g1,⟨zY (c:={c with tm:=f.tm}) g2 _ hv,st.hp,st.o7,st.free,st.gl,by rw[put_defers];exact g3⟩,.reg p rest _ ops hc hk,?_,rfl⟩
    simp_all [LG,opAt]
  ·cases hp
 ·cases hp
theorem Ph{fn:Func}{g l d:Nat}{s1:Ho}{bb:Bool}{c c':Core}{stk AZ:List Fw}{g':Nat}{r':Option (Nat×Nat)}{uJ:List It}{q:List oM}{φ:Sh->Prop}(hfn:C.fns.get g=ae fn)
  (hev:Ju C g l d s1 bb c stk=.next g' r' uJ c' AZ q) (hq:bi q) (ih:wL P C K g' r' uJ c' AZ φ) (hj:(xg (nC fn) s1).isNone=bb) (hst:Df s1=if bb then .ready else .done)
  {a:Act} {items:List Item} {rs B:List Nat} {ms cs:List Frame} (st:St C K H E w c a) (hs:wG C H E h stk ms B) (hnd:(rs++B).Nodup) (hx:zy h K H E w c.hp)
  (hstep:∀(c':Frame) cs' v w',(eI l (xg (nC fn) s1)).run P w=.ok v w'->step P (lone (pW (bq g (ae l) (marks rs)) a items) (c'::cs') w)=.next (lone (c'.finish v) cs' w')) :
  aen P C K (J8 g stk) φ (lone (pW (bq g (ae l) (marks rs)) a items) (ms++cs) w) cs:=by
 unfold Ju at hev;split at hev
 ·rename_i l' f s hset
  split at hev
  ·rename_i hlp
   split at hev
   ·rename_i x hpop
    cases hev;obtain ⟨hll,_⟩:=hq;have hll:l=l':=hll;subst hll;obtain ⟨lp,q1,q2,q3,q4,q5⟩:=XH hfn hset hs (bE.1 hnd).2.1;have auM:=Tn (g0:=g) hset;have hw:=(hx l _ q1).1;have hrun:=run_endRound (P:=P) (xg (nC fn) s1) hw;rw[hj] at hrun;cases ms with
    |nil=>exact q5.elim |cons mf ms=>
     obtain ⟨rs',B',hB,q6,q7⟩:=q5;have e:({lp with state:=if bb then LoopState.ready else LoopState.done,pending:=xg (nC fn) s1}:Loop)={lp with state:=Df s1,pending:=xg (nC fn) s1}:=by rw[hst]
     rw[e] at hrun;have st2:=st.putObj (o':=.loop {lp with state:=Df s1,pending:=xg (nC fn) s1}) hx q1
     have hx2:=hx.put (o':=.loop {lp with state:=Df s1,pending:=xg (nC fn) s1}) q1
     obtain ⟨Hl,a',items',p1,p2,p3,p4,p5⟩:=aiA q6 hlp hpop (v:=.bool bb) rfl st2;have hm':∀y∈rs',zQ h l (.loop {lp with state:=Df s1,pending:=xg (nC fn) s1}) y=ae (.deferred (ae [])):=by
      obtain ⟨_,_,_,_,_,_,_,z,_⟩:=q6;exact z
     subst hB;have hB2:KE f=[]:=by simp[KE,hlp]
     rw[hB2,List.append_nil] at hnd;have LM:(rs'++B').Nodup:=(bE.1 hnd).2.1;have hs1:=hstep mf (ms++cs) _ _ hrun;rw[p4] at hs1;have:=ih H E _ a' items' rs' B' ms cs Hl _ p1 p2 p3 hm' q7 LM (by simp_all);rw[show J8 g stk=J8 f.g AZ from auM.symm];exact this.of (.one hs1)
   ·cases hev
  ·cases hev
 ·cases hev
end
end Go.Sx
