/- Own work. -/
import Derived.Test.YthehnhaoiijkhaaGreatDoorF04
import Derived.Laws.StructEq
import Derived.RangeFuncIn
import Derived.RangeFuncRecord
open Int (ofNat)
open Array renaming getElem?_eq_some_iff->bK,replicate->dN
open Bool renaming false->ay,true->aC,and_eq_true->aG,or_eq_true->lH
open Go.Deferred renaming ofValue->jd
open Go.Frame renaming enter->fM,finish_at->kQ
open Go.Op renaming eqFields->rF
open Go.Oper renaming upon->wu
open Go.Region renaming schedule->mW
open Go.Result renaming andThen_ok->iI
open Go.Sem renaming run_bind->gK,run_ite->yL
open Go.Sx.Cq renaming v->lU
open Go.Sx.zO renaming any->qj
open Go.Sx.AQ renaming all->cu,DR->dV
open Go.Sx.BA renaming code->gB,nil->pz,loop->nU
open Go.Sx.Tree renaming ET->dX
open Go.World renaming putObj_heap_other->iY
open Go.stepG renaming apply->fP
open List renaming replicate->dL,getElem?_cons_zero->jY,contains_cons->rG,all_eq_true->dA,range->aY,mem_append->cZ
open Nat renaming blt->fF,ble->gJ,le_refl->bV,le_trans->gU,lt_of_lt_of_le->ji,add_zero->kF
open Option renaming some->ak,none->aK,map_eq_some_iff->bM,isSome_iff_exists->eF
namespace Go.Sx
def adg(r:Option Rn)(id:Nat):Bool:=match r with|some (.id i)=>i==id|_=>ay
def aaO(r:Option Rn):Bool:=match r with|some .nil=>aC|_=>ay
mutual
def qS(hp:List (Nat×SB))(ρ:List (Nat×Rn)):SV->SV->Option (List AQ)
 |_,.any=>ak [] |x,.sym k m=>match x with
  | .int k' n=>BQ (k'==k) (ak [.int n m]) | .sym k' n=>BQ (k'==k) (ak [.int n m]) |_=>aK
 |x,.test b=>match x with
  | .bool b'=>ak [.bool b' b] | .test b'=>ak [.bool b' b] |_=>aK
 |x,.gs id'=>match x with
  | .gs id=>BQ (adg (zI ρ id') id) (ak []) | .zY=>BQ (aaO (zI ρ id')) (ak []) |_=>aK
 |x,.ptr id' off'=>match x with
  | .ptr id off=>BQ (adg (zI ρ id') id&&off==off') (ak []) |_=>aK
 |x,.mp id'=>match x with
  | .mp id=>BQ (adg (zI ρ id') id) (ak []) |_=>aK
 |x,.fn f' l'=>match x with
  | .fn f l=>BQ (f==f') (qL hp ρ l l') |_=>aK
 |x,.agg l'=>match x with
  | .agg l=>qL hp ρ l l' |_=>aK
 |x,.zQ l'=>match x with
  | .zQ l=>qL hp ρ l l' |_=>aK
 |x,.BM t' y=>match x with
  | .BM t z=>BQ (t==t') (qS hp ρ z y) |_=>aK
 |x,.sh s=>(Di hp x).map fun s'=>[.sh s' s] |x,.Gh st' n' g' i' off'=>match x with
  | .Gh st n g i off=>BQ (st==st'&&off==off') (ak [.nat n n',.Nz g g',.nat i i']) |x=>BQ (off'==0) ((Di hp x).map fun s=>[.sh s (.pt (g' i')),.nat (g' i').length st',.bool (fF i' n') aC])
 |x,.int k' n'=>match x with
  | .int k n=>BQ (k==k') (ak [.int n n']) | .sym k n=>BQ (k==k') (ak [.int n n']) |_=>aK
 |x,.bool b'=>match x with
  | .bool b=>BQ (b==b') (ak []) | .test b=>ak [.bool b b'] |_=>aK
 | .Ei,.Ei=>ak [] | .zY,.zY=>ak [] | .FM,.FM=>ak [] | .CS,.CS=>ak [] | .EU,.EU=>ak [] | .glob g,.glob g'=>BQ (g==g') (ak []) | .str l,.str l'=>ak [.str l l'] | .val v,.val v'=>ak [.val v v'] |_,_=>aK
def qL(hp:List (Nat×SB))(ρ:List (Nat×Rn)):List SV->List SV->Option (List AQ)
 |[],[]=>ak [] |x::l,y::l'=>Em (qS hp ρ x y) (qL hp ρ l l') |_,_=>aK
end
def qM(hp:List (Nat×SB))(ρ:List (Nat×Rn)):List (SV×SV)->List (SV×SV)->Option (List AQ)
 |[],[]=>ak [] |(a,b)::l,(a',b')::l'=>Em (qS hp ρ a a') (Em (qS hp ρ b b') (qM hp ρ l l')) |_,_=>aK
def qB(hp:List (Nat×SB))(ρ:List (Nat×Rn))(id':Nat):SB->Option (List AQ)
 | .box cells' e'=>match zI ρ id' with
  |some (.id id)=>match zI hp id with
   |some (.box cells e)=>BQ (e==e') (qL hp ρ cells cells') |_=>aK
  |_=>aK
 | .row cells' e' st' n'=>match zI ρ id' with
  |some (.id id)=>match zI hp id with
   |some (.row cells e st n)=>BQ (e==e'&&st==st'&&n==n') (qL hp ρ cells cells') |_=>aK
  |_=>aK
 | .own e' st' n' g'=>match zI ρ id' with
  |some (.id id)=>match Wq hp id with
   |some (e,st,n,g)=>BQ (e==e'&&st==st') (ak [.nat n n',.get n g g']) |_=>aK
  |some .nil=>ak [.nat n' 0] |none=>aK
 | .map es'=>match zI ρ id' with
  |some (.id id)=>match zI hp id with
   |some (.map es)=>qM hp ρ es es' |_=>aK
  |_=>aK
 | .fz _ _ _=>aK | .QN _=>aK | .FY _ _ _ _ _=>aK | .fm _ _ _ _ _=>aK | .pm vt' M' us'=>match us',zI ρ id' with
  |[],ak (.id id)=>match zI hp id with
   |some (.pm vt M us)=>match aaM M us with
    |some N=>BQ (vt==vt') (ak [.mg N M']) |none=>aK
   |_=>aK
  |_,_=>aK
 | .buf e' l'=>match zI ρ id' with
  |some (.id id)=>match zI hp id with
   |some (.buf e l)=>BQ (e==e') (ak [.str l l']) |_=>aK
  |_=>aK
def qH(hp:List (Nat×SB))(ρ:List (Nat×Rn)):List (Nat×SB)->Option (List AQ)
 |[]=>ak [] |(id',sb)::l=>Em (qB hp ρ id' sb) (qH hp ρ l)
def qC(ρ:List (Nat×Rn))(c c':Core):Option (List AQ):=BQ (anG c'.nx ρ) (Em (qL c.hp ρ c.tm c'.tm) (qH c.hp ρ c'.hp))
section
variable{hp:List (Nat×SB)}{ρ:List (Nat×Rn)}
theorem Wx{r:Option Rn}{id:Nat}(h:adg r id=aC):r=ak (.id id):=by
 unfold adg at h;grind
theorem agk{r:Option Rn}(h:aaO r=aC):r=ak .nil:=by
 grind [aaO]
mutual
theorem aaP:∀{x:SV} (y:SV) {l:List AQ},qS hp ρ x y=ak l->cu l->Ej hp ρ x y
 |x,.any,l,h,ha=>by cases x<;>trivial |x,.sym k m,l,h,ha=>by
  cases x<;>simp only[qS] at h
  all_goals first
   |(cases h;done)
   |(obtain ⟨h1,h2⟩:=Ah h;cases h2;simp only[beq_iff_eq] at h1;subst h1;simp only[Ej];exact ⟨trivial,ha.1⟩)
 |x,.test b,l,h,ha=>by
  cases x<;>simp only[qS] at h
  all_goals first
   |(cases h;done)
   |(cases h;simp only[Ej];exact ha.1)
 |x,.gs id',l,h,ha=>by
  cases x<;>simp only[qS] at h
  all_goals first
   |(cases h;done)
   |(obtain ⟨h1,h2⟩:=Ah h;simp only[Ej];exact Wx h1)
   |(obtain ⟨h1,h2⟩:=Ah h;simp only[Ej];exact agk h1)
 |x,.ptr id' off',l,h,ha=>by
  cases x<;>simp only[qS] at h
  all_goals first
   |(cases h;done)
   |(obtain ⟨h1,h2⟩:=Ah h;simp only[aG,beq_iff_eq] at h1;simp only[Ej];exact ⟨Wx h1.1,h1.2⟩)
 |x,.mp id',l,h,ha=>by
  cases x<;>simp only[qS] at h
  all_goals first
   |(cases h;done)
   |(obtain ⟨h1,h2⟩:=Ah h;simp only[Ej];exact Wx h1)
 |x,.fn f' l',l,h,ha=>by
  cases x<;>simp only[qS] at h
  all_goals first
   |(cases h;done)
   |(obtain ⟨h1,h2⟩:=Ah h;simp only[beq_iff_eq] at h1;simp only[Ej];exact ⟨h1,Ot l' h2 ha⟩)
 |x,.agg l',l,h,ha=>by
  cases x<;>simp only[qS] at h
  all_goals first
   |(cases h;done)
   |(simp only[Ej];exact Ot l' h ha)
 |x,.zQ l',l,h,ha=>by
  cases x<;>simp only[qS] at h
  all_goals first
   |(cases h;done)
   |(simp only[Ej];exact Ot l' h ha)
 |x,.BM t' y,l,h,ha=>by
  cases x<;>simp only[qS] at h
  all_goals first
   |(cases h;done)
   |(obtain ⟨h1,h2⟩:=Ah h;simp only[beq_iff_eq] at h1;simp only[Ej];exact ⟨h1,aaP y h2 ha⟩)
 |x,.sh s,l,h,ha=>by
  have h0:∃s',Di hp x=ak s'/\s'=s:=by
   cases x<;>simp only[qS,bM] at h
   all_goals
    obtain ⟨s',h1,rfl⟩:=h;exact ⟨s',h1,ha.1⟩
  obtain ⟨s',h1,rfl⟩:=h0;cases x<;>simp only[Ej]<;>exact .inl h1
 |x,.int k n,l,h,ha=>by
  cases x<;>simp only[qS] at h
  all_goals first
   |(cases h;done)
   |(obtain ⟨h1,h2⟩:=Ah h;cases h2;simp only[beq_iff_eq] at h1;simp only[Ej];exact ⟨h1,ha.1⟩)
 |x,.bool b,l,h,ha=>by
  cases x<;>simp only[qS] at h
  all_goals first
   |(cases h;done)
   |(obtain ⟨h1,h2⟩:=Ah h;simp only[beq_iff_eq] at h1;simp only[Ej];exact h1)
   |(cases h;simp only[Ej];exact ha.1)
 |x,.Ei,l,h,ha=>by cases x<;>simp only[qS] at h<;>first|(cases h;done) |(simp only[Ej])
 |x,.zY,l,h,ha=>by cases x<;>simp only[qS] at h<;>first|(cases h;done) |(simp only[Ej])
 |x,.FM,l,h,ha=>by cases x<;>simp only[qS] at h<;>first|(cases h;done) |(simp only[Ej])
 |x,.CS,l,h,ha=>by cases x<;>simp only[qS] at h<;>first|(cases h;done) |(simp only[Ej])
 |x,.EU,l,h,ha=>by cases x<;>simp only[qS] at h<;>first|(cases h;done) |(simp only[Ej])
 |x,.glob g,l,h,ha=>by
  cases x<;>simp only[qS] at h
  all_goals first
   |(cases h;done)
   |(obtain ⟨h1,h2⟩:=Ah h;simp only[beq_iff_eq] at h1;simp only[Ej];exact h1)
 |x,.str s,l,h,ha=>by
  cases x<;>simp only[qS] at h
  all_goals first
   |(cases h;done)
   |(cases h;simp only[Ej];exact ha.1)
 |x,.val s,l,h,ha=>by
  cases x<;>simp only[qS] at h
  all_goals first
   |(cases h;done)
   |(cases h;simp only[Ej];exact ha.1)
 |x,.Gh st n g i off,l,h,ha=>by
  have key:∀(q:Option Sh),BQ (off==0) (q.map fun s=>[AQ.sh s (.pt (g i)),.nat (g i).length st,.bool (fF i n) aC])=ak l->q=ak (.pt (g i))/\off=0/\(g i).length=st/\i<n:=fun q h=>by
   obtain ⟨h1,h2⟩:=Ah h;simp only[bM] at h2;obtain ⟨s,h3,rfl⟩:=h2;have e1:s=.pt (g i):=ha.1;exact ⟨by rw[h3,e1],by simpa using h1,ha.2.1,JD ha.2.2.1⟩
  cases x<;>simp only[qS] at h
  case Gh=>obtain ⟨h1,h2⟩:=Ah h;cases h2;simp only[aG,beq_iff_eq] at h1;simp only[Ej];exact ⟨h1.1,ha.1,ha.2.1,ha.2.2.1,h1.2⟩
  all_goals
   simp only[Ej];exact key _ h
 |x,.gp id st i off,l,h,ha=>by cases x<;>simp only[qS] at h<;>cases h |x,.ev id,l,h,ha=>by cases x<;>simp only[qS] at h<;>cases h |x,.vw id n,l,h,ha=>by cases x<;>simp only[qS] at h<;>cases h
theorem Ot:∀{l:List SV} (l':List SV) {q:List AQ},qL hp ρ l l'=ak q->cu q->leL hp ρ l l'
 |[],[],_,_,_=>trivial |x::l,y::l',q,h,ha=>by
  simp only[qL] at h;obtain ⟨a,b,h1,h2,rfl⟩:=AZ h;exact ⟨aaP y h1 (dV ha).1,Ot l' h2 (dV ha).2⟩
 |[],_::_,_,h,_=>by simp[qL] at h |_::_,[],_,h,_=>by simp[qL] at h
end
theorem anK:∀{l l':List (SV×SV)} {q:List AQ},qM hp ρ l l'=ak q->cu q->leM hp ρ l l'
 |[],[],_,_,_=>trivial |(a,b)::l,(a',b')::l',q,h,ha=>by
  simp only[qM] at h;obtain ⟨q1,q2,h1,h2,rfl⟩:=AZ h;obtain ⟨q3,q4,h3,h4,rfl⟩:=AZ h2;obtain ⟨a1,a2⟩:=dV ha;obtain ⟨a3,a4⟩:=dV a2;exact ⟨aaP a' h1 a1,aaP b' h3 a3,anK h4 a4⟩
 |[],_::_,_,h,_=>by simp[qM] at h |_::_,[],_,h,_=>by simp[qM] at h
theorem anL{id':Nat}{sb:SB}{q:List AQ}(h:qB hp ρ id' sb=ak q)(ha:cu q):leB hp ρ id' sb:=by
 cases sb with
 |box cells' e'=>
  simp only[qB] at h;simp only[leB];split at h
  ·rename_i id hr
   simp only[hr];split at h
   ·rename_i cells e hl
    simp only[hl];obtain ⟨h1,h2⟩:=Ah h;exact ⟨by simpa using h1,Ot _ h2 ha⟩
   ·cases h
  ·cases h
 |row cells' e' st' n'=>
  simp only[qB] at h;simp only[leB];split at h
  ·rename_i id hr
   simp only[hr];split at h
   ·rename_i cells e st n hl
    simp only[hl];obtain ⟨h1,h2⟩:=Ah h;simp only[aG,beq_iff_eq] at h1;exact ⟨h1.1.1,h1.1.2,h1.2,Ot _ h2 ha⟩
   ·cases h
  ·cases h
 |own e' st' n' g'=>
  simp only[qB] at h;simp only[leB];split at h
  ·rename_i id hr
   simp only[hr];split at h
   ·rename_i e st n g hl
    simp only[hl];obtain ⟨h1,h2⟩:=Ah h;cases h2;simp only[aG,beq_iff_eq] at h1;exact ⟨h1.1,h1.2,ha.1,ha.2.1⟩
   ·cases h
  ·rename_i hr
   simp only[hr];cases h;exact ha.1
  ·cases h
 |map es'=>
  simp only[qB] at h;grind [leB,id,anK]
 |fz st n g=>simp[qB] at h |QN l=>simp[qB] at h |FY e st n g m=>simp[qB] at h |fm k M fs us t=>simp[qB] at h |pm vt' M' us'=>
  simp only[qB] at h;split at h
  ·rename_i id hr
   split at h
   ·rename_i vt M us hl
    split at h
    ·rename_i N h1
     obtain ⟨h2,h3⟩:=Ah h;cases h3;simp only[leB,hr,hl];have e:N=M':=ha.1;simp_all
    ·cases h
   ·cases h
  ·cases h
 |buf e' l'=>
  simp only[qB] at h;split at h
  ·rename_i id hr
   split at h
   ·rename_i e l hl
    obtain ⟨h1,h2⟩:=Ah h;cases h2;simp only[leB,hr,hl];exact ⟨by grind,ha.1⟩
   ·cases h
  ·cases h
theorem anM:∀{l:List (Nat×SB)} {q:List AQ},qH hp ρ l=ak q->cu q->leH hp ρ l
 |[],_,_,_=>trivial |(id',sb)::l,q,h,ha=>by
  simp only[qH] at h;obtain ⟨a,b,h1,h2,rfl⟩:=AZ h;exact ⟨anL h1 (dV ha).1,anM h2 (dV ha).2⟩
theorem aiM{c c':Core}{q:List AQ}(h:qC ρ c c'=ak q)(ha:cu q):leC ρ c c':=by
 unfold qC at h;obtain ⟨h1,h2⟩:=Ah h;obtain ⟨a,b,h3,h4,rfl⟩:=AZ h2;exact ⟨Ot _ h3 (dV ha).1,anM h4 (dV ha).2,h1⟩
end
inductive Fe where
 |ret (s:Sh)
 |at_ (l:List AQ)
def anN:It->It->Bool
 | .code p,.code q=>p==q | .inBlock i,.inBlock j=>i==j | .reg p l,.reg q m=>p==q&&l==m | .XE,.XE=>aC |_,_=>ay
def IC:List It->List It->Bool
 |[],[]=>aC |x::l,y::m=>anN x y&&IC l m |_,_=>ay
theorem anO{x y:It}(h:anN x y=aC):x=y:=by
 cases x<;>cases y<;>simp[anN] at h<;>simp_all
theorem L6:∀{l m:List It},IC l m=aC->l=m
 |[],[],_=>rfl |x::l,y::m,h=>by
  simp only[IC,aG] at h;rw[anO h.1,L6 h.2]
 |[],_::_,h=>by simp[IC] at h |_::_,[],h=>by simp[IC] at h
structure Fr where
 g:Nat
 td:List It
 tm:List SV
inductive aaQ where
 |fin (v:SV) (c:Core)
 |stop (g:Nat) (td:List It) (c:Core) (stk:List Fr)
def P8(C:Ctx)(fn:Func)(td:List It)(c:Core):Option (Nat×Func×List SV):=
 match td with
 | .reg p (i::_)::_=>match Ai (zS fn) p with
  | .region _ ops _=>match opAt ops.toList i with
   |some o=>match NG ops.toList c.tm o with
    | .yes=>match o.op with
     | .call k=>match k.callee with
      | .value f=>match AP c.tm f with
       | .fn g cs=>match C.spec g with
        |some _=>aK |none=>match C.fns.get g with
         |some fn'=>bif gJ (k.args.toList.map (AP c.tm)++cs).length fn'.ntmps&&fn'.body.isSome then ak (g,fn',k.args.toList.map (AP c.tm)++cs) else aK |none=>aK
       |_=>aK
      |_=>aK
     |_=>aK
    |_=>aK
   |none=>aK
  |_=>aK
 |_=>aK
def holdB(hold:Nat->Bool)(fn:Func)(td:List It)(c:Core):Bool:=
 match td with
 | .reg p (i::_)::_=>match Ai (zS fn) p with
  | .region _ ops _=>match opAt ops.toList i with
   |some o=>match o.op with
    | .call k=>match k.callee with
     | .value f=>match AP c.tm f with
      | .fn g _=>hold g |_=>ay
     |_=>ay
    |_=>ay
   |none=>ay
  |_=>ay
 |_=>ay
def Rq(C:Ctx)(f:Fr)(v:SV)(c:Core):Option (List It×Core):=
 match C.fns.get f.g with
 |some fn=>match f.td with
  | .reg p (i::r)::k=>match Ai (zS fn) p with
   | .region _ ops _=>ak (.reg p r::k,{c with tm:=QE f.tm ((opAt ops.toList i).bind (·.dst)) v})
   |_=>aK
  |_=>aK
 |none=>aK
def YX(C:Ctx)(hold:Nat->Bool)(m:Nat):Nat->Nat->List It->Core->List Fr->Tree aaQ
 |0,g,td,c,stk=>.leaf (.stop g td c stk) |n+1,g,td,c,stk=>match C.fns.get g with
  |none=>.fail |some fn=>bif holdB hold fn td c then .leaf (.stop g td c stk) else match P8 C fn td c with
   |some r=>YX C hold m n r.1 [.code []] {c with tm:=r.2.2++dL (r.2.1.ntmps - r.2.2.length) .any} ({g,td,tm:=c.tm}::stk)
   |none=>(Q5 C (LV C (run C m ay)) aC g fn td c).bind fun s=>match s with
    | .go td c=>YX C hold m n g td c stk | .halt td c=>.leaf (.stop g td c stk) | .done v c=>match stk with
     |[]=>.leaf (.fin v c) |f::stk=>match Rq C f v c with
      |some r=>YX C hold m n f.g r.1 r.2 stk |none=>.fail
def base(g:Nat):Frame:={(default:Frame) with fn:=g,kind:=.normal}
def Fp(C:Ctx)(H:Mem)(E:Env):List Fr->List Frame->Prop
 |[],[]=>True |f::s,mf::ms=>(∃fn a items,C.fns.get f.g=ak fn/\zO H E f.tm a.tmps.toList/\a.defers=[]/\BA (zS fn) f.td items/\mf=(base f.g).at a items)/\Fp C H E s ms |_,_=>False
abbrev Hp:=Nat->Option Obj
def Ou(R:Hp->Prop)(K:Kx)(H:Mem)(E:Env)(w:World):Prop:=
 ∃h:Hp,R h/\∀b o,h b=ak o->w.heap[b]?=ak o/\H b=aK/\(∀i,bk E i≠ak b)/\(K.w0.heap.size<=b\/K.own b)
def emp:Hp->Prop:=fun _=>True
def QG(g:Nat):List Fr->Nat
 |[]=>g |f::s=>QG f.g s
def Aw(P:Program)(C:Ctx)(K:Kx)(g:Nat)(td:List It)(c:Core)(stk:List Fr)(R:Hp->Prop)(φ:Sh->Prop):Prop:=
 ∀(H:Mem) (E:Env) (w:World) (a:Act) (items:List Item) (ms cs:List Frame) (fn:Func),C.fns.get g=ak fn->St C K H E w c a->BA (zS fn) td items->Fp C H E stk ms->Ou R K H E w->
  ∃(a':Act) (w':World) (v:Value) (s:Sh) (H':Mem) (todo:List Item) (fn0:Func),C.fns.get (QG g stk)=ak fn0/\Steps P (lone ((base g).at a items) (ms++cs) w) (lone {(base (QG g stk)).at a' todo with mode:=.returning} cs w')/\
   a'.defers=[]/\φ s/\CV K.H0 K.w0 s v H' w'/\(results fn0 a'.tmps).run P w'=.ok v w'
section
variable{P:Program}{C:Ctx}{K:Kx}{H H' Oo H0:Mem}{E E' Oq E1:Env}{w w' w'' w0:World}
theorem Fp.le(hH:H.le H')(hE:E.le E'):∀{s:List Fr} {ms:List Frame},Fp C H E s ms->Fp C H' E' s ms
 |[],[],_=>trivial |_::_,_::_,⟨⟨fn,a,items,h1,h2,h3⟩,h4⟩=>⟨⟨fn,a,items,h1,h2.le hH hE,h3⟩,Fp.le hH hE h4⟩ |[],_::_,h=>h.elim |_::_,[],h=>h.elim
def QO(H:Mem)(E:Env)(w:World)(hp:List (Nat×SB)):Kx:=⟨w,fun b=>∃id sb,zI hp id=ak sb/\Ag E id sb=ak b,H⟩
theorem FH.QO{K1 K2:Kx}{id:Nat}{sb:SB}(h:FH K1 H E w id sb)(hm:∀b,Ag E id sb=ak b->Mine K1 H b->Mine K2 H b):FH K2 H E w id sb:=by
 cases sb with
 |box cells elem=>obtain ⟨b,cs,he,h1,h2,h3⟩:=h;exact ⟨b,cs,he,h1,h2,hm b (by simp[Ag,he,zT]) h3⟩ |row cells elem st n=>obtain ⟨v,xs,he,h1,h2,h3⟩:=h;exact ⟨v,xs,he,h1,h2,fun b hb=>hm b (by simp[Ag,he,hb]) (h3 b hb)⟩ |own elem st n g=>obtain ⟨v,xs,he,h1,h2,h3⟩:=h;exact ⟨v,xs,he,h1,h2,fun b hb=>hm b (by simp[Ag,he,hb]) (h3 b hb)⟩ |fz st n g=>exact h |map es=>obtain ⟨b,ms,clk,he,h1,h2,h3⟩:=h;exact ⟨b,ms,clk,he,h1,h2,hm b (by simp[Ag,he,zT]) h3⟩ |QN l=>exact h |FY elem st n g more=>obtain ⟨v,xs,ys,he,h1,h2,h3,h4,h5,h6⟩:=h;exact ⟨v,xs,ys,he,h1,h2,h3,h4,h5,fun b hb=>hm b (by simp[Ag,he,hb]) (h6 b hb)⟩ |fm k M fs us tag=>obtain ⟨b,ms,clk,fv,uv,he,h1,h2,h3,h4,h5,h6,h7⟩:=h;exact ⟨b,ms,clk,fv,uv,he,h1,h2,h3,h4,h5,h6,hm b (by simp[Ag,he,zT]) h7⟩ |pm vt M us=>obtain ⟨b,ms,clk,uv,he,h1,h2,h3,h4,h5,h7⟩:=h;exact ⟨b,ms,clk,uv,he,h1,h2,h3,h4,h5,hm b (by simp[Ag,he,zT]) h7⟩ |buf e l=>obtain ⟨v,he,h1,h3⟩:=h;exact ⟨v,he,h1,fun b hb=>hm b (by simp[Ag,he,hb]) (h3 b hb)⟩
theorem agl{hp:List (Nat×SB)}(hh:zU K H E w hp)(hw:Du K H w):zU (QO H E w hp) H E w hp/\Du (QO H E w hp) H w:=
 ⟨⟨fun id sb hl=>(hh.ent id sb hl).QO fun _ hb hm=>⟨hm.1,.inr ⟨id,sb,hl,hb⟩⟩,hh.Fg⟩,
  ⟨rfl,rfl,rfl,bV _,fun _ _ _=>rfl,hw.on,fun _ _ h=>h,fun _ h=>.inl h⟩⟩
theorem aaR{hp:List (Nat×SB)}(hh:zU K H E w hp)(hw:Du K H w){b:Nat}(h:w.heap.size<=b\/(QO H E w hp).own b):K.w0.heap.size<=b\/K.own b:=by
 rcases h with h|⟨id,sb,h1,h2⟩
 ·exact .inl (gU hw.size h)
 ·exact ((hh.ent _ _ h1).lt h2).2.2
theorem agm{hp hp':List (Nat×SB)}(hh:zU K H E w hp)(hw:Du K H w)(hh':zU (QO H E w hp) H' E' w' hp')(hw':Du (QO H E w hp) H' w'):zU K H' E' w' hp'/\Du K H' w':=by
 refine ⟨⟨fun id sb hl=>(hh'.ent id sb hl).QO fun b hb hm=>⟨hm.1,aaR hh hw hm.2⟩,hh'.Fg⟩,⟨hw'.os.trans hw.os,hw'.tape.trans hw.tape,hw'.output.trans hw.output,gU hw.size hw'.size,fun b hb hn=>?_,hw'.on,fun b o h=>hw'.le b o (hw.le b o h),fun b hb=>?_⟩⟩
 ·rw[hw'.kept b (by have:=hw.size;exact ji hb this) fun ho=>?_]
  ·exact hw.kept b hb hn
  ·(rcases aaR hh hw (.inr ho) with h|h)<;>grind
 ·rcases hw'.fresh b hb with h|h
  ·exact hw.fresh b h
  ·exact .inr (aaR hh hw h)
theorem St.re{c:Core}{a:Act}(st:St C K H E w c a):St C (QO H E w c.hp) H E w c a:=
 ⟨st.den,(agl st.hp st.Bg).1,(agl st.hp st.Bg).2,st.free,st.gl,st.defers⟩
theorem St.un{c c':Core}{a a':Act}(st:St C K H E w c a)(st':St C (QO H E w c.hp) H' E' w' c' a'):St C K H' E' w' c' a':=
 ⟨st'.den,(agm st.hp st.Bg st'.hp st'.Bg).1,(agm st.hp st.Bg st'.hp st'.Bg).2,st'.free,st'.gl,st'.defers⟩
theorem Ou.keep{R:Hp->Prop}{c c':Core}{a a':Act}(h:Ou R K H E w)(st:St C K H E w c a)(st':St C (QO H E w c.hp) H' E' w' c' a')(mv:Mv (QO H E w c.hp) H E w c H' E' w' c'):Ou R K H' E' w':=by
 obtain ⟨hh,hr,hb⟩:=h;refine ⟨hh,hr,fun b o e=>?_⟩;obtain ⟨h1,h2,h3,h4⟩:=hb b o e;have hlt:=(bK.1 h1).1;have hno:¬(QO H E w c.hp).own b:=fun ⟨id,sb,_,q⟩=>h3 id (FI q);refine ⟨by rw[st'.Bg.kept b hlt hno];exact h1,?_,fun i hi=>?_,h4⟩
 ·cases hx:H' b with
  |none=>rfl |some o'=>
   rcases st'.Bg.fresh b (by rw[hx];simp) with q|q|q
   ·exact (q h2).elim
   ·have q:w.heap.size<=b:=q;omega
   simp_all
 ·cases he:E i with
  |none=>
   (rcases mv.NK i b he hi with q|⟨id,_,q⟩)<;>grind
  |some v=>
   have:bk E' i=bk E i:=by simp[bk,he,mv.Ll _ _ he]
   simp_all
def akn(P:Program)(C:Ctx)(K:Kx)(R:Hp->Prop)(φ:Sh->Prop):aaQ->Prop
 | .fin v c=>∃s,finish c v=ak s/\φ s | .stop g td c stk=>Aw P C K g td c stk R φ
theorem Ku{g:Nat}{fn:Func}{body:Code}(hP:P.funcs[g]?=ak fn)(hb:fn.body=ak body)(args:Array Value):
  fM P g args .normal=(base g).at {tmps:=args++dN (fn.ntmps - args.size) undef,defers:=[]} [.code body]:=by
 simp[fM,Frame.at,hP,hb,base]
theorem JJ(hC:Az P C)(hF:AU P C){hold:Nat->Bool}{m:Nat}{R:Hp->Prop}{φ:Sh->Prop}:∀{n g:Nat} {td:List It} {c:Core} {stk:List Fr},(YX C hold m n g td c stk).All (akn P C (K0 H0 w0) R φ)->Aw P C (K0 H0 w0) g td c stk R φ
 |0,g,td,c,stk,h=>h |n+1,g,td,c,stk,h=>by
  intro H E w a items ms cs fn hfn st hi hs hx;simp only[YX,hfn] at h;cases aiN:holdB hold fn td c<;>simp only[aiN,cond_true,cond_false] at h
  rotate_left
  ·exact h H E w a items ms cs fn hfn st hi hs hx
  split at h
  ·
   rename_i r hr;unfold P8 at hr;split at hr
   ·rename_i p i rest k
    split at hr
    ·rename_i rid ops dr hcode
     split at hr
     ·rename_i o ho
      split at hr
      ·rename_i hwant
       split at hr
       ·rename_i kk hop
        split at hr
        ·rename_i f ako
         split at hr
         ·rename_i g2 caps hev
          split at hr
          ·cases hr
          ·rename_i hspec
           split at hr
           ·rename_i EF hfn2
            cases hb:(gJ (kk.args.toList.map (AP c.tm)++caps).length EF.ntmps&&EF.body.isSome)<;>simp only[hb,cond_true,cond_false] at hr
            ·cases hr
            cases hr;simp only[aG] at hb;obtain ⟨body2,P9⟩:=eF.1 hb.2;have ih:=JJ hC hF h;have hP2:=hC.fn g2 EF hfn2;cases hi with
            |reg p l id ops2 hc hk=>
             rw[hc] at hcode;cases hcode;rename_i k';have df:=Ap (H:=H) (E:=E) st.den f;rw[hev] at df;obtain ⟨vs,ef,hvs⟩:=df;have hargs:=(MP st.den kk.args.toList).append hvs;have ho':ops[i]?=ak o:=by grind [opAt]
             have hw':=Gj (ops:=ops) st.den o;rw[hwant] at hw';have hent:=hF.en g2 (.inr (by grind));have hrun:(execOp a.eval o).run P w=.ok (.enter g2 (kk.args.map a.eval++vs)) w:=by
              simp_all [execOp,resolve,jd,invoke,GK]
             have hg:=stepG_op (P:=P) (b:=base g) (k:=k') (cs:=ms++cs) (w:=w) (rest:=rest) ho' hw';have henter:step P (lone ((base g).at a (.inRegion ops (i::rest)::k')) (ms++cs) w)=.next (lone (fM P g2 (kk.args.map a.eval++vs) .normal) ((base g).at a (.inRegion ops (i::rest)::k')::(ms++cs)) w):=
              step_lone_go (by simp_all [fP,Frame.at])
             rw[Ku hP2 P9] at henter;have hl:=hargs.length;have hlen:(kk.args.map a.eval++vs).size=(kk.args.toList.map (AP c.tm)++caps).length:=by
              simp_all
             have st2:St C (K0 H0 w0) H E w {c with tm:=(kk.args.toList.map (AP c.tm)++caps)++dL (EF.ntmps - (kk.args.toList.map (AP c.tm)++caps).length) .any} {tmps:=(kk.args.map a.eval++vs)++dN (EF.ntmps - (kk.args.map a.eval++vs).size) undef,defers:=[]}:=by
              refine ⟨?_,st.hp,st.Bg,st.free,st.gl,rfl⟩;have:((kk.args.map a.eval++vs)++dN (EF.ntmps - (kk.args.map a.eval++vs).size) undef).toList=(kk.args.toList.map a.eval++vs.toList)++dL (EF.ntmps - (kk.args.toList.map (AP c.tm)++caps).length) undef:=by
               rw[hlen];simp
              simp only[this];exact hargs.append (qj _ _ (by simp))
             have hit2:BA (zS EF) [.code []] [.code body2]:=by
              have:=gB (body:=zS EF) [] pz;simp_all [Ai,zS]
             have hs2:Fp C H E ({g,td:=.reg p (i::rest)::k,tm:=c.tm}::stk) ((base g).at a (.inRegion ops (i::rest)::k')::ms):=
              ⟨⟨fn,a,_,hfn,st.den,st.defers,.reg p (i::rest) _ ops hc hk,rfl⟩,hs⟩
             obtain ⟨a',w',v,s,H',todo,fn0,q1,q2,q3⟩:=ih H E w _ _ (_::ms) cs EF hfn2 st2 hit2 hs2 hx;exact ⟨a',w',v,s,H',todo,fn0,q1,.head henter q2,q3⟩
           ·cases hr
         ·cases hr
        ·cases hr
       ·cases hr
      ·cases hr
     ·cases hr
    ·cases hr
   ·cases hr
  ·have hK:=Tm (K:=QO H E w c.hp) hC hF (Tn hC hF m)
   obtain ⟨sig,h1,h2⟩:=XP hC hF hK (dX h) st.re hi (base g) (ms++cs);cases sig with
   |go Fj c'=>
    obtain ⟨a',w',H',E',items',q1,q2,q3,q4⟩:=h2;obtain ⟨a2,w2,v,s,H2,todo,fn0,r1,r2,r3⟩:=JJ hC hF h1 H' E' w' a' items' ms cs fn hfn (st.un q2) q4 (hs.le q3.H7 q3.Ll) (hx.keep st q2 q3);exact ⟨a2,w2,v,s,H2,todo,fn0,r1,q1.trans r2,r3⟩
   |halt Fj c'=>
    obtain ⟨a',w',H',E',items',q1,q2,q3,q4⟩:=h2;obtain ⟨a2,w2,v,s,H2,todo,fn0,r1,r2,r3⟩:=h1 H' E' w' a' items' ms cs fn hfn (st.un q2) q4 (hs.le q3.H7 q3.Ll) (hx.keep st q2 q3);exact ⟨a2,w2,v,s,H2,todo,fn0,r1,q1.trans r2,r3⟩
   |done sv c'=>
    obtain ⟨a',w',H',E',v,todo,q1,q2,q3,q4,q5⟩:=h2;cases stk with
    |nil=>
     cases ms with
     |cons _ _=>exact hs.elim |nil=>
      obtain ⟨s,e1,e2⟩:=h1;obtain ⟨H2,r⟩:=P6 (st.un q2) e1 q4;exact ⟨a',w',v,s,H2,todo,fn,hfn,q1,q2.defers,e2,r,q5⟩
    |cons f stk=>
     cases ms with
     |nil=>exact hs.elim |cons mf ms=>
      simp only at h1;split at h1
      ·rename_i r hr
       unfold Rq at hr;split at hr
       ·rename_i Ov agn
        split at hr
        ·rename_i p i rest k htd
         split at hr
         ·rename_i rid ops dr hcode
          cases hr;obtain ⟨⟨fn3,a3,akp,g1,g2,g3,g4,g5⟩,hs'⟩:=hs.le q3.H7 q3.Ll;rw[agn] at g1;cases g1;rw[htd] at g4;cases g4 with
          |reg p l id ops2 hc hk=>
           rw[hc] at hcode;cases hcode;rename_i k';subst g5;have hleave:step P (lone {(base g).at a' todo with mode:=.returning} ((base f.g).at a3 (.inRegion ops (i::rest)::k')::(ms++cs)) w')=.next (lone ((base f.g).at (a3.put ((opAt ops.toList i).bind (·.dst)) v) (.inRegion ops rest::k')) (ms++cs) w'):=by
            rw[step_leave_returned (v:=v) ⟨rfl,q2.defers,rfl,fn,hC.fn g fn hfn,q5⟩,kQ];simp[opAt]
           have st3:St C (K0 H0 w0) H' E' w' {c' with tm:=QE f.tm ((opAt ops.toList i).bind (·.dst)) sv} (a3.put ((opAt ops.toList i).bind (·.dst)) v):=
            ⟨Ji (c:={c' with tm:=f.tm}) g2 _ q4,(st.un q2).hp,(st.un q2).Bg,q2.free,q2.gl,by rw[put_defers];exact g3⟩
           obtain ⟨a2,w2,v2,s,H2,aaS,fn0,r1,r2,r3⟩:=JJ hC hF h1 H' E' w' _ _ ms cs Ov agn st3 (.reg p rest _ ops hc hk) hs' (hx.keep st q2 q3);exact ⟨a2,w2,v2,s,H2,aaS,fn0,r1,(q1.trans (.one hleave)).trans r2,r3⟩
         ·cases hr
        ·cases hr
       ·cases hr
      ·exact h1.elim
end
structure Lp where
 g:Nat
 td:List It
 c:Core
 stk:List Fr
mutual
def coll:SV->SV->List (Nat×Rn)
 | .gs i,.gs j=>[(i,.id j)] | .gs i,.zY=>[(i,.nil)] | .ptr i _,.ptr j _=>[(i,.id j)] | .mp i,.mp j=>[(i,.id j)] | .fn _ l,.fn _ m=>MR l m | .agg l,.agg m=>MR l m | .zQ l,.zQ m=>MR l m | .BM _ x,.BM _ y=>coll x y |_,_=>[]
def MR:List SV->List SV->List (Nat×Rn)
 |x::l,y::m=>coll x y++MR l m |_,_=>[]
end
def anP:List (SV×SV)->List (SV×SV)->List (Nat×Rn)
 |(a,b)::l,(c,d)::m=>coll a c++coll b d++anP l m |_,_=>[]
def anQ:Option SB->Option SB->List (Nat×Rn)
 |some (.box l _),ak (.box m _)=>MR l m |some (.row l _ _ _),ak (.row m _ _ _)=>MR l m |some (.map l),ak (.map m)=>anP l m |_,_=>[]
def anR:List Fr->List Fr->List (Nat×Rn)
 |f::s,f'::s'=>MR f.tm f'.tm++anR s s' |_,_=>[]
def infer(hp' hp:List (Nat×SB)):Nat->List (Nat×Rn)->List (Nat×Rn)->List (Nat×Rn)
 |0,_,acc=>acc |_,[],acc=>acc |n+1,(i,r)::t,acc=>match zI acc i with
  |some _=>infer hp' hp n t acc |none=>match r with
   | .id j=>infer hp' hp n (anQ (zI hp' i) (zI hp j)++t) ((i,r)::acc) | .nil=>infer hp' hp n t ((i,r)::acc)
def aaT(hp:List (Nat×SB))(ρ:List (Nat×Rn)):List Fr->List Fr->Option (List AQ)
 |[],[]=>ak [] |f::s,f'::s'=>BQ (f.g==f'.g&&IC f.td f'.td) (Em (qL hp ρ f.tm f'.tm) (aaT hp ρ s s')) |_,_=>aK
inductive DF where
 |ret (s:Sh)
 |at_ (k:Nat) (l:List AQ)
def Rt:List Fr->List Fr->Bool
 |[],[]=>aC |f::s,f'::s'=>f.g==f'.g&&IC f.td f'.td&&Rt s s' |_,_=>ay
def Lp.rn(t:Lp)(c:Core)(stk:List Fr):List (Nat×Rn):=infer t.c.hp c.hp 4000 (MR t.c.tm c.tm++anR t.stk stk) []
def Wy(g:Nat)(td:List It)(c:Core)(stk:List Fr):Nat->List Lp->Tree DF
 |_,[]=>.fail |k,t::r=>bif g==t.g&&IC td t.td&&Rt stk t.stk then match Em (qC (t.rn c stk) c t.c) (aaT c.hp (t.rn c stk) stk t.stk) with
   |some l=>.leaf (.at_ k l) |none=>.fail
  else Wy g td c stk (k+1) r
def anS(ts:List Lp):aaQ->Tree DF
 | .fin v c=>match finish c v with
  |some s=>.leaf (.ret s) |none=>.fail
 | .stop g td c stk=>Wy g td c stk 0 ts
def AA(C:Ctx)(hold:Nat->Bool)(m n g:Nat)(td:List It)(c:Core)(stk:List Fr)(ts:List Lp):Tree DF:=(YX C hold m n g td c stk).bind (anS ts)
def H8(P:Program)(C:Ctx)(K:Kx)(ts:List Lp)(R:Hp->Prop)(φ:Sh->Prop):DF->Prop
 | .ret s=>φ s | .at_ k l=>cu l/\∃t,ts[k]?=ak t/\Aw P C K t.g t.td t.c t.stk R φ
section
variable{P:Program}{C:Ctx}{K:Kx}{H H' Oo H0:Mem}{E E' Oq E1:Env}{w w' w'' w0:World}
def aaU(hp:List (Nat×SB))(ρ:List (Nat×Rn)):List Fr->List Fr->Prop
 |[],[]=>True |f::s,f'::s'=>f.g=f'.g/\f.td=f'.td/\leL hp ρ f.tm f'.tm/\aaU hp ρ s s' |_,_=>False
theorem aaV{hp:List (Nat×SB)}{ρ:List (Nat×Rn)}:∀{s s':List Fr} {q:List AQ},aaT hp ρ s s'=ak q->cu q->aaU hp ρ s s'
 |[],[],_,_,_=>trivial |f::s,f'::s',q,h,ha=>by
  simp only[aaT] at h;obtain ⟨h1,h2⟩:=Ah h;obtain ⟨a,b,h3,h4,rfl⟩:=AZ h2;simp only[aG,beq_iff_eq] at h1;exact ⟨h1.1,L6 h1.2,Ot _ h3 (dV ha).1,aaV h4 (dV ha).2⟩
 |[],_::_,_,h,_=>by simp[aaT] at h |_::_,[],_,h,_=>by simp[aaT] at h
theorem Fp.weak{hp:List (Nat×SB)}{ρ:List (Nat×Rn)}(hh:zU K H E w hp):∀{s s':List Fr} {ms:List Frame},Fp C H E s ms->aaU hp ρ s s'->Fp C H (ER ρ E) s' ms
 |[],[],[],_,_=>trivial |f::s,f'::s',m::ms,⟨⟨fn,a,items,h1,h2,h3,h4,h5⟩,h6⟩,⟨e1,e2,e3,e4⟩=>
  ⟨⟨fn,a,items,by simp_all,Ii hh _ e3 h2,h3,by simp_all,by simp_all⟩,Fp.weak hh h6 e4⟩
 |[],[],_::_,h,_=>h.elim |_::_,_,[],h,_=>h.elim |[],_::_,_,_,h=>h.elim |_::_,[],_::_,_,h=>h.elim
theorem Ou.weak{R:Hp->Prop}{ρ:List (Nat×Rn)}(h:Ou R K H E w):Ou R K H (ER ρ E) w:=by
 obtain ⟨hh,h1,h2⟩:=h;refine ⟨hh,h1,fun b o e=>?_⟩;obtain ⟨a1,a2,a3,a4⟩:=h2 b o e;refine ⟨a1,a2,fun i=>?_,a4⟩;unfold bk ER;cases hr:zI ρ i with
 |none=>simp |some r=>
  cases r with
  |id j=>exact a3 j |nil=>simp[zT]
theorem agp{hp:List (Nat×SB)}{ρ:List (Nat×Rn)}:∀{s s':List Fr} {g:Nat},aaU hp ρ s s'->QG g s'=QG g s
 |[],[],_,_=>rfl |f::s,f'::s',_,⟨e1,_,_,e4⟩=>by simp only[QG];rw[e1];exact agp e4 |[],_::_,_,h=>h.elim |_::_,[],_,h=>h.elim
theorem YZ{g:Nat}{td:List It}{c c':Core}{stk Jk:List Fr}{R:Hp->Prop}{φ:Sh->Prop}(ρ:List (Nat×Rn))(hle:leC ρ c c')(hs:aaU c.hp ρ stk Jk)(h:Aw P C K g td c' Jk R φ):Aw P C K g td c stk R φ:=by
 intro H E w a items ms cs fn hfn st hi hst hx;have:=h H (ER ρ E) w a items ms cs fn hfn (st.weak hle) hi (hst.weak st.hp hs) hx.weak;grind [agp]
theorem UW{R:Hp->Prop}{φ:Sh->Prop}{ts:List Lp}{g:Nat}{td:List It}{c:Core}{stk:List Fr}:∀{r:List Lp} {k:Nat},(∀j,r[j]?=ts[k+j]?)->(Wy g td c stk k r).All (H8 P C K ts R φ)->Aw P C K g td c stk R φ
 |[],_,_,h=>h.elim |t::r,k,hk,h=>by
  unfold Wy at h;cases hb:(g==t.g&&IC td t.td&&Rt stk t.stk)<;>simp only[hb,cond_true,cond_false] at h
  ·exact UW (fun j=>by have:=hk (j+1);grind) h
  ·simp only[aG,beq_iff_eq] at hb
   obtain ⟨⟨h1,h2⟩,h3⟩:=hb;split at h
   ·rename_i l hl
    obtain ⟨a,b,q1,q2,rfl⟩:=AZ hl;obtain ⟨hl,t',ht,hg⟩:=h;have:=hk 0;simp only[jY,kF] at this;rw[<-this] at ht;cases ht;have h2:=L6 h2;subst h1 h2;exact YZ (t.rn c stk) (aiM q1 (dV hl).1) (aaV q2 (dV hl).2) hg
   ·exact h.elim
theorem Gv(hC:Az P C)(hF:AU P C){hold:Nat->Bool}{m n g:Nat}{td:List It}{c:Core}{stk:List Fr}{ts:List Lp}{R:Hp->Prop}{φ:Sh->Prop}
  (h:(AA C hold m n g td c stk ts).All (H8 P C (K0 H0 w0) ts R φ)):Aw P C (K0 H0 w0) g td c stk R φ:=by
 refine JJ hC hF (hold:=hold) (m:=m) (n:=n) ((dX h).mono fun o ho=>?_);cases o with
 |fin v c=>
  simp only[anS] at ho;split at ho
  ·rename_i s hs
   exact ⟨s,hs,ho⟩
  ·exact ho.elim
 |stop g td c stk=>exact UW (k:=0) (fun j=>by simp) ho
theorem agq{g:Nat}{fn:Func}{p:List Nat}{k:List It}{x:Code}{c:Core}{stk:List Fr}{R:Hp->Prop}{φ:Sh->Prop}(hfn:C.fns.get g=ak fn)(hx:Ai (zS fn) p=.loop x)
  (h:Aw P C K g (.code (0::p)::.code p::k) c stk R φ):Aw P C K g (.code p::k) c stk R φ:=by
 intro H E w a items ms cs fn' hfn' st hi hs he;rw[hfn] at hfn';cases hfn';have h0:Ai (zS fn) (0::p)=x:=by simp[Ai,hx,child]
 cases hi with
 |code p hk=>
  have:=gB (0::p) (nU p x hx hk);rw[h0] at this;rw[hx];obtain ⟨a2,w2,v,s,H',todo,fn0,r0,r1,r2⟩:=h H E w a _ ms cs fn hfn st this hs he;exact ⟨a2,w2,v,s,H',todo,fn0,r0,.head step_loop r1,r2⟩
 |loop p y hl hk=>
  rw[hx] at hl;cases hl;have:=gB (0::p) (nU p x hx hk);rw[h0] at this;obtain ⟨a2,w2,v,s,H',todo,fn0,r0,r1,r2⟩:=h H E w a _ ms cs fn hfn st this hs he;exact ⟨a2,w2,v,s,H',todo,fn0,r0,.head step_inLoop r1,r2⟩
theorem WA:Ou emp K H E w:=⟨fun _=>aK,trivial,fun _ _ h=>by cases h⟩
theorem J8(hC:Az P C){g:Nat}{fn:Func}{F:List Sh->Tree Sh}(hfn:C.fns.get g=ak fn)(hb:fn.body.isSome=aC)
  (h:∀(H:Mem) (w:World) (Aq:List Sh) (args:List Value) (φ:Sh->Prop),CU H Aq args->(F Aq).All φ->∃C9:List Sh,CU H C9 args/\∃L,Aw P C (K0 H w) g [.code []] (zL fn.ntmps C9 L) [] emp φ):zZ P C.gls g F:=by
 intro H w Aq args φ hon hg hr hφ;obtain ⟨C9,hr,L,hgo⟩:=h H w Aq args φ hr hφ;obtain ⟨body,hbody⟩:=eF.1 hb;have hP:=hC.fn g fn hfn;intro cs;let a:Act:={tmps:=args.toArray++dN (fn.ntmps - args.toArray.size) undef,defers:=[]}
 have hlen:=hr.length;have st:St C (K0 H w) H E0 w (zL fn.ntmps C9 L) a:=by
  refine ⟨?_,⟨fun _ _ h=>by simp[zL,zI] at h,fun _ _ _ _ _ h=>by simp[zL,zI] at h⟩,⟨rfl,rfl,rfl,bV _,fun _ _ _=>rfl,hon,fun _ _ h=>h,fun _ h=>.inl h⟩,fun _ _ _=>rfl,hg,rfl⟩;have:a.tmps.toList=args++dL (fn.ntmps - C9.length) undef:=by simp[a,hlen]
  rw[this];exact (IW hr).append (qj _ _ (by simp))
 have hit:BA (zS fn) [.code []] [.code body]:=by
  have:=gB (body:=zS fn) [] pz;simp_all [Ai,zS]
 obtain ⟨a',w',v,s,H',todo,fn0,q0,q1,q2,q3,q4,q5⟩:=hgo H E0 w a [.code body] [] cs fn hfn st hit trivial WA;exact ⟨.returned v,w',_,⟨v,s,H',rfl,q3,q4⟩,by rw[Ku hP hbody];exact q1,rfl,rfl,q2,rfl,fn,hP,by cases hfn.symm.trans q0;exact q5⟩
end
def WB:Code->Bool
 | .loop _=>aC |_=>ay
def ZK(fn:Func):List It->Option (List It)
 | .code p::k=>bif WB (Ai (zS fn) p) then ak (.code (0::p)::.code p::k) else aK |_=>aK
theorem G6{P:Program}{C:Ctx}{K:Kx}{g:Nat}{fn:Func}{td tb:List It}{c:Core}{stk:List Fr}{R:Hp->Prop}{φ:Sh->Prop}(hfn:C.fns.get g=ak fn)(hx:ZK fn td=ak tb)
  (h:Aw P C K g tb c stk R φ):Aw P C K g td c stk R φ:=by
 unfold ZK at hx;split at hx
 ·rename_i p k
  cases hb:WB (Ai (zS fn) p)<;>simp only[hb,cond_true,cond_false] at hx
  ·cases hx
  ·cases hx
   unfold WB at hb;grind [agq]
 ·cases hx
def Fq(P:Program):List Field->Nat->List SV->Bool
 |[],_,[]=>aC
 |f::r,j,.int .i64 _::z=>f.name != "_" && f.offset==j&&(match P.underlying f.type with|some (.int .i64)=>aC|_=>ay)&&Fq P r (j+1) z
 |f::r,j,.bool _::z=>f.name != "_" && f.offset==j&&(match P.underlying f.type with|some .bool=>aC|_=>ay)&&Fq P r (j+1) z
 |_,_,_=>ay
def aeB(P:Program)(t:Nat)(z:List SV):Bool:=
 (match P.underlying t with|some (.struct fs)=>Fq P fs.toList 0 z|_=>ay) && !P.stoodInHeld t && !P.eqGuardType P.depth t
theorem adh{P:Program}{t:Nat}{k:IntKind}(hu:P.underlying t=ak (.int k))(xs:List Cq)(j:Nat)(n:Int)(hj:xs[j]?=ak (.i n))(w:World):
  (part t (xs.map lU).toArray j).run P w=.ok (.int .i64 n) w:=by
 simp_all [lU,part,isAgg,run_underlying]
theorem aaW{P:Program}{t:Nat}(hu:P.underlying t=ak .bool)(xs:List Cq)(j:Nat)(n:Bool)(hj:xs[j]?=ak (.b n))(w:World):
  (part t (xs.map lU).toArray j).run P w=.ok (.bool n) w:=by
 simp_all [lU,part,isAgg,run_underlying]
theorem aaX{l:List Cq}{k:IntKind}{n:Int}{z:List SV}(h:Cc l (.int k n::z)=aC):∃a r,l=.i a::r/\Cc r z=aC:=by
 unfold Cc at h;grind
theorem Y0{l:List Cq}{n:Bool}{z:List SV}(h:Cc l (.bool n::z)=aC):∃a r,l=.b a::r/\Cc r z=aC:=by
 unfold Cc at h;grind
theorem aaY{l:List Cq}(h:Cc l []=aC):l=[]:=by
 grind [Cc]
theorem Tt{α:Type}{l:List α}{j:Nat}{a:α}{r:List α}(h:l.drop j=a::r):l[j]?=ak a/\l.drop (j+1)=r:=by
 have h1:l[j]?=ak a:=by
  have:=congrArg (fun x=>x[0]?) h;grind
 grind [List.tail_drop]
theorem Qa{P:Program}(d:Nat)(w:World)(xs ys:List Cq):∀(fs:List Field) (j:Nat) (z:List SV),Fq P fs j z=aC->Cc (xs.drop j) z=aC->Cc (ys.drop j) z=aC->
  (rF (d+1) (xs.map lU).toArray (ys.map lU).toArray fs).run P w=.ok (decide (xs.drop j=ys.drop j)) w
 |[],j,z,h,h1,h2=>by
  cases z with
  |cons a z=>simp[Fq] at h |nil=>rw[aaY h1,aaY h2];rfl
 |f::fs,j,z,h,h1,h2=>by
  cases z with
  |nil=>simp[Fq] at h |cons a0 z=>
  cases a0;case int k n=>
   cases k;case i64=>
    unfold Fq at h;simp only[aG,bne_iff_ne,ne_eq,beq_iff_eq] at h;obtain ⟨⟨⟨a1,a2⟩,a3⟩,a4⟩:=h;have hu:P.underlying f.type=ak (.int .i64):=by
     grind
    obtain ⟨a,r1,q1,s1⟩:=aaX h1;obtain ⟨b,r2,q2,s2⟩:=aaX h2;obtain ⟨g1,t1⟩:=Tt q1;obtain ⟨g2,t2⟩:=Tt q2;have p1:=adh hu xs j _ g1 w;have p2:=adh hu ys j _ g2 w;have q:=run_equalIn_int (P:=P) w d f.type .i64 .i64 a b hu;have ih:=Qa d w xs ys fs (j+1) z a4 (by simp_all) (by simp_all);have hn:f.name≠ "_" :=by omega
    simp only[rF,hn,ne_eq,not_false_eq_true,if_true,a2,gK,p1,p2,q,iI,yL];rw[q1,q2];rw[t1,t2] at ih;(by_cases hb:a=b)<;>simp_all
   all_goals simp[Fq] at h
  case bool n=>
   unfold Fq at h;simp only[aG,bne_iff_ne,ne_eq,beq_iff_eq] at h;obtain ⟨⟨⟨a1,a2⟩,a3⟩,a4⟩:=h;have hu:P.underlying f.type=ak .bool:=by
    grind
   obtain ⟨a,r1,q1,s1⟩:=Y0 h1;obtain ⟨b,r2,q2,s2⟩:=Y0 h2;obtain ⟨g1,t1⟩:=Tt q1;obtain ⟨g2,t2⟩:=Tt q2;have p1:=aaW hu xs j _ g1 w;have p2:=aaW hu ys j _ g2 w;have q:=run_equalIn_bool' (P:=P) w d f.type a b hu;have ih:=Qa d w xs ys fs (j+1) z a4 (by simp_all) (by simp_all);have hn:f.name≠ "_" :=by omega
   simp only[rF,hn,ne_eq,not_false_eq_true,if_true,a2,gK,p1,p2,q,iI,yL];rw[q1,q2];rw[t1,t2] at ih;(by_cases hb:a=b)<;>simp_all
  all_goals simp[Fq] at h
theorem XT{P:Program}{t:Nat}{z:List SV}(h:aeB P t z=aC)(xs ys:List Cq)(w:World)(h1:Cc xs z=aC)(h2:Cc ys z=aC)(x y:Operand):
  (do eqGuard .eql t x y (.agg (xs.map lU).toArray) (.agg (ys.map lU).toArray);binOp .eql t (.agg (xs.map lU).toArray) (.agg (ys.map lU).toArray):Sem Value).run P w=.ok (.bool (decide (xs=ys))) w/\
  (do eqGuard .neq t x y (.agg (xs.map lU).toArray) (.agg (ys.map lU).toArray);binOp .neq t (.agg (xs.map lU).toArray) (.agg (ys.map lU).toArray):Sem Value).run P w=.ok (.bool (!decide (xs=ys))) w:=by
 unfold aeB at h;simp only[aG,Bool.not_eq_true'] at h;obtain ⟨⟨a1,a2⟩,a3⟩:=h;split at a1
 ·rename_i fs hu
  have hf:P.fieldsOf t=fs:=by simp[Program.fieldsOf,hu]
  have he:=run_equalIn_struct (P:=P) w 9999 t (xs.map lU).toArray (ys.map lU).toArray (by simp_all) a2;rw[hf,Qa 9998 w xs ys fs.toList 0 z a1 (by assumption) (by assumption)] at he;simp only[List.drop_zero] at he;simp_all [run_eqGuard_agg,run_eql_struct,run_neq_struct,gK,iI]
 ·cases a1
def ags(P:Program):List Nat->Bool
 |[]=>aC |T::r=>(match P.info? T with|some inf=>inf.comparable|none=>ay)&&(match P.underlying T with|some (.pointer e)=>(match P.info? e with|some ie=>ie.size != 0|none=>ay) |_=>ay)&&ags P r
theorem WC{P:Program}:∀{l:List Nat},ags P l=aC->∀T,l.contains T=aC->∃inf e ie,P.info? T=ak inf/\inf.comparable=aC/\P.underlying T=ak (.pointer e)/\P.info? e=ak ie/\ie.size≠0
 |[],_,T,h=>by simp at h |T'::r,h,T,hT=>by
  simp only[ags,aG] at h;obtain ⟨⟨h1,h2⟩,h3⟩:=h;simp only[rG,lH,beq_iff_eq] at hT;rcases hT with rfl|hT
  ·grind
  ·exact WC h3 T hT
def WE(P:Program)(tys:BT Jt):List Nat->Bool
 |[]=>aC |t::r=>(match tys.get t with|some i=>aeB P t i.zero|none=>aC)&&WE P tys r
theorem Qb{P:Program}{tys:BT Jt}:∀{l:List Nat},WE P tys l=aC->∀t i,l.contains t=aC->tys.get t=ak i->aeB P t i.zero=aC
 |[],_,t,_,h,_=>by simp at h |t'::r,h,t,i,ht,hi=>by
  simp only[WE,aG] at h;simp only[rG,lH,beq_iff_eq] at ht;rcases ht with rfl|ht
  ·simp_all
  ·exact Qb h.2 t i ht hi
section
variable{P:Program}{C:Ctx}{H H':Mem}{E E':Env}{w w':World}
def KL(E:Env)(hp:List (Nat×SB)):Nat->Prop:=fun b=>∃id sb,zI hp id=ak sb/\Ag E id sb=ak b
theorem aeC{K:Kx}{hp:List (Nat×SB)}(p:Nat->Bool)(h:zU K H E w hp):zU K H E w (dropKey p hp):=by
 have key:∀{i:Nat} {sb:SB},zI (dropKey p hp) i=ak sb->zI hp i=ak sb:=fun {i sb} hl=>by
  grind [J7]
 exact ⟨fun id sb hl=>h.ent id sb (key hl),fun id id' sb sb' b l1 l2 o1 o2=>h.Fg id id' sb sb' b (key l1) (key l2) o1 o2⟩
end
inductive aAa where
 |fin (v:SV) (hp:List (Nat×SB))
 |stop (td:List It) (c:Core)
section
variable{P:Program}{C:Ctx}{K:Kx}{H H':Mem}{E E' E0:Env}{w w':World}
end
def qF(hp:List (Nat×SB))(ρ:List (Nat×Rn)):List (Int×Bool×SV)->List (Int×Bool×SV)->Option (List AQ)
 |[],[]=>ak [] |(n,p,x)::l,(n',p',x')::l'=>BQ (p==p') (Em (ak [.int n n']) (Em (bif p' then qS hp ρ x x' else ak []) (qF hp ρ l l'))) |_,_=>aK
def qB2(hp:List (Nat×SB))(ρ:List (Nat×Rn))(id':Nat):SB->Option (List AQ)
 | .fm k' M' fs' us' tg'=>match zI ρ id' with
  |some (.id id)=>match zI hp id with
   |some (.fm k M fs us _)=>BQ (k==k'&&tg'.isNone) (Em (ak [.mp M M']) (Em (qF hp ρ fs fs') (qF hp ρ us us'))) |_=>aK
  |_=>aK
 | .FY e' st' n' g' more'=>match zI ρ id' with
  |some (.id id)=>match zI hp id with
   |some (.FY e st n g more)=>BQ (e==e'&&st==st'&&more.length==more'.length&&EG more') (Em (ak [.nat n n',.get n g g']) (qL hp ρ more more')) |_=>aK
  |_=>aK
 |sb=>qB hp ρ id' sb
def qH2(hp:List (Nat×SB))(ρ:List (Nat×Rn)):List (Nat×SB)->Option (List AQ)
 |[]=>ak [] |(id',sb)::l=>Em (qB2 hp ρ id' sb) (qH2 hp ρ l)
def ZL:List (Int×Bool×SV)->List (Int×Bool×SV)->List (Nat×Rn)
 |(_,aC,x)::l,(_,aC,y)::m=>coll x y++ZL l m |_::l,_::m=>ZL l m |_,_=>[]
def arG:Option SB->Option SB->List (Nat×Rn)
 |some (.fm _ _ fs us _),ak (.fm _ _ gs vs _)=>ZL fs gs++ZL us vs |some (.FY _ _ _ _ l),ak (.FY _ _ _ _ m)=>MR l m |a,b=>anQ a b
def ZM(hp' hp:List (Nat×SB)):Nat->List (Nat×Rn)->List (Nat×Rn)->List (Nat×Rn)
 |0,_,acc=>acc |_,[],acc=>acc |n+1,(i,r)::t,acc=>match zI acc i with
  |some _=>ZM hp' hp n t acc |none=>match r with
   | .id j=>ZM hp' hp n (arG (zI hp' i) (zI hp j)++t) ((i,r)::acc) | .nil=>ZM hp' hp n t ((i,r)::acc)
structure QS where
 hp:List (Nat×SB)
 keep:List Nat
def QS.rn(t:QS)(hp:List (Nat×SB)):List (Nat×Rn):=ZM t.hp hp 4000 (t.keep.map fun i=>(i,.id i)) []
def akq(hp:List (Nat×SB))(t:QS):Option (List AQ):=BQ (JI (KJ (t.rn hp))&&t.keep.all fun i=>adg (zI (t.rn hp) i) i) (qH2 hp (t.rn hp) t.hp)
def akr(v:SV)(hp:List (Nat×SB)):Nat->List QS->Tree (SV×Nat×List AQ)
 |_,[]=>.fail |k,t::r=>match akq hp t with
  |some l=>.leaf (v,k,l) |none=>akr v hp (k+1) r
def toEnd(ts:List QS):Out->Tree (SV×Nat×List AQ)
 | .done v c=>akr v c.hp 0 ts | .stop _ _ _=>.fail
def Fv(ts:List QS)(φ:SV->Nat->Prop):SV×Nat×List AQ->Prop
 |(v,k,l)=>cu l/\φ v k
@[irreducible] def D9 (ψ:SV×Nat×List AQ->Prop) (t:Tree (SV×Nat×List AQ)):Prop:=t.All ψ
theorem BH(ψ:SV×Nat×List AQ->Prop)(t:Tree (SV×Nat×List AQ)):D9 ψ t=t.All ψ:=by unfold D9;rfl
section
variable{P:Program}{C:Ctx}{K:Kx}{H H':Mem}{E E':Env}{w w':World}{hp:List (Nat×SB)}{ρ:List (Nat×Rn)}
theorem aeD(hh:zU K H E w hp):∀{l l':List (Int×Bool×SV)} {q:List AQ} {r:List (Int×Option Value)},qF hp ρ l l'=ak q->cu q->FD H E l r->FD H (ER ρ E) l' r
 |[],[],_,[],_,_,_=>trivial |(n,p,x)::l,(n',p',x')::l',q,(k,o)::r,hq,ha,⟨h1,h2,h3⟩=>by
  simp only[qF] at hq;obtain ⟨hp',hq⟩:=Ah hq;obtain ⟨a,b,e1,e2,rfl⟩:=AZ hq;obtain ⟨c,d,e3,e4,rfl⟩:=AZ e2;cases e1;have hpp:p=p':=by grind
  subst hpp;obtain ⟨hn,ha⟩:=ha;have hn:n=n':=hn;subst hn;have ha2:=dV (show cu (c++d) from ha);refine ⟨h1,?_,aeD hh e4 ha2.2 h3⟩;cases p with
  |true=>
   cases o with
   |none=>exact h2 |some v=>exact ⟨Rl hh _ (aaP _ e3 ha2.1) h2.1,h2.2⟩
  |false=>
   grind
 |[],_::_,_,_,h,_,_=>by simp[qF] at h |_::_,[],_,_,h,_,_=>by simp[qF] at h |_::_,_::_,_,[],_,_,h=>h.elim |[],[],_,_::_,_,_,h=>h.elim
theorem aeE(hh:zU K H E w hp){id':Nat}{sb:SB}{q:List AQ}(hq:qB2 hp ρ id' sb=ak q)(ha:cu q):
  FH K H (ER ρ E) w id' sb/\∀b,Ag (ER ρ E) id' sb=ak b->∃id s0,zI ρ id'=ak (.id id)/\zI hp id=ak s0/\Ag E id s0=ak b:=by
 unfold qB2 at hq;split at hq
 ·rename_i k' M' fs' us' tg'
  split at hq
  ·rename_i id hr
   split at hq
   ·rename_i k M fs us tg hl
    obtain ⟨hk,hq⟩:=Ah hq;obtain ⟨a,b,e1,e2,rfl⟩:=AZ hq;obtain ⟨c,d,e3,e4,rfl⟩:=AZ e2;cases e1;simp only[aG,beq_iff_eq,Option.isNone_iff_eq_none] at hk;obtain ⟨rfl,rfl⟩:=hk;obtain ⟨hM,ha⟩:=ha;have hM:M=M':=hM;subst hM;have ha2:=dV (show cu (c++d) from ha);obtain ⟨b,ms,clk,fv,uv,he,h1,h2,h3,h4,h5,h6,h7⟩:=hh.ent _ _ hl;refine ⟨⟨b,ms,clk,fv,uv,by grind [CP],h1,aeD hh e3 ha2.1 h2,aeD hh e4 ha2.2 h3,h4,h5,trivial,h7⟩,fun b' hb=>⟨id,_,hr,hl,?_⟩⟩;simp_all [Ag,CP]
   ·cases hq
  ·cases hq
 ·rename_i e' st' n' g' more'
  split at hq
  ·rename_i id hr
   split at hq
   ·rename_i e st n g more hl
    obtain ⟨hk,hq⟩:=Ah hq;obtain ⟨a,b,e1,e2,rfl⟩:=AZ hq;cases e1;simp only[aG,beq_iff_eq] at hk;obtain ⟨⟨⟨rfl,rfl⟩,hlen⟩,hone⟩:=hk;obtain ⟨hn,hg,ha⟩:=ha;have hn:n=n':=hn;subst hn;have hg:∀i,i<n->g i=g' i:=hg;obtain ⟨v,xs,ys,he,h1,h2,h3,h4,h5,h6⟩:=hh.ent _ _ hl;refine ⟨⟨v,xs,ys,by grind [CP],by simp_all,Ro h2 hg,Ii hh _ (Ot _ e2 ha) h3,by simp_all,hone,h6⟩,fun b' hb=>⟨id,_,hr,hl,?_⟩⟩;simp_all [Ag,CP]
   ·cases hq
  ·cases hq
 grind [Wu,anL]
theorem ZN:∀{l:List (Nat×SB)} {q:List AQ} {i:Nat} {sb:SB},qH2 hp ρ l=ak q->cu q->zI l i=ak sb->∃q',qB2 hp ρ i sb=ak q'/\cu q'
 |[],_,_,_,_,_,h=>by simp[zI] at h |(j,x)::l,q,i,sb,hq,ha,h=>by
  simp only[qH2] at hq;obtain ⟨a,b,e1,e2,rfl⟩:=AZ hq;simp only[zI] at h;cases hj:(j==i)<;>simp only[hj,cond_true,cond_false] at h
  ·exact ZN e2 (dV ha).2 h
  grind [dV]
theorem anT(hh:zU K H E w hp){t:QS}{q:List AQ}(hq:akq hp t=ak q)(ha:cu q):∃E',zU K H E' w t.hp/\∀i∈t.keep,E' i=E i:=by
 unfold akq at hq;obtain ⟨h1,h2⟩:=Ah hq;simp only[aG,dA] at h1;refine ⟨ER (t.rn hp) E,⟨fun id sb hl=>?_,fun id id' sb sb' b l1 l2 o1 o2=>?_⟩,fun i hi=>CP (Wx (h1.2 i hi))⟩
 ·grind [ZN,aeE]
 ·obtain ⟨q1,e1,e2⟩:=ZN h2 ha l1
  obtain ⟨q2,e3,e4⟩:=ZN h2 ha l2;obtain ⟨i1,s1,a1,a2,a3⟩:=(aeE hh e1 e2).2 b o1;obtain ⟨i2,s2,b1,b2,b3⟩:=(aeE hh e3 e4).2 b o2;have:=hh.Fg _ _ _ _ _ a2 b2 a3 b3;grind [aez]
theorem agt{v:SV}{φ:SV->Nat->Prop}{ts:List QS}:∀{r:List QS} {k:Nat},(∀j,r[j]?=ts[k+j]?)->(akr v hp k r).All (Fv ts φ)->∃j t q,ts[j]?=ak t/\akq hp t=ak q/\cu q/\φ v j
 |[],_,_,h=>h.elim |t::r,k,hk,h=>by
  unfold akr at h;split at h
  ·rename_i l hl
   have:=hk 0;simp only[jY,kF] at this;exact ⟨k,t,l,this.symm,hl,h.1,h.2⟩
  ·exact agt (fun j=>by have:=hk (j+1);grind) h
theorem aiO(hC:Az P C)(hF:AU P C){n g:Nat}{fn:Func}{c:Core}{args:Array Value}{ts:List QS}{φ:SV->Nat->Prop}(hfn:C.fns.get g=ak fn)(hb:fn.body.isSome=aC)
  (hd:zO H E c.tm (args++dN (fn.ntmps - args.size) undef).toList) (hh:zU ⟨w,KL E c.hp,H⟩ H E w c.hp) (hon:H.on w) (hfree:Free E c) (hg:BU C.gls H)
  (h:D9 (Fv ts φ) ((run C n aC g [.code []] c).bind (toEnd ts))) :
  Calls P g args w fun e w'=>∃v sv k t H' E1 E',e=.returned v/\φ sv k/\ts[k]?=ak t/\Den H' E1 sv v/\zU ⟨w,KL E c.hp,H⟩ H' E' w' t.hp/\Du ⟨w,KL E c.hp,H⟩ H' w'/\H.le H'/\∀i∈t.keep,∀u,E i=ak u->E' i=ak u:=by
 rw[BH] at h;intro cs;obtain ⟨body,hbody⟩:=eF.1 hb;have hP:=hC.fn g fn hfn;let b:Frame:={(default:Frame) with fn:=g,kind:=.normal}
 let a:Act:={tmps:=args++dN (fn.ntmps - args.size) undef,defers:=[]}
 have henter:fM P g args .normal=b.at a [.code body]:=by
  grind [fM,Frame.at]
 have st:St C ⟨w,KL E c.hp,H⟩ H E w c a:=
  ⟨hd,hh,⟨rfl,rfl,rfl,bV _,fun _ _ _=>rfl,hon,fun _ _ h=>h,fun _ h=>.inl h⟩,hfree,hg,rfl⟩
 have hit:BA (zS fn) [.code []] [.code body]:=by
  have:=gB (body:=zS fn) [] pz;simp_all [Ai,zS]
 obtain ⟨out,h1,h2⟩:=Tn hC hF n aC g [.code []] c H E w a fn [.code body] _ hfn (dX h) st hit b cs;cases out with
 |stop g' Fj c'=>exact h1.elim |done sv c'=>
  obtain ⟨a',w',H',E',v,todo,q1,q2,q3,q4,q5⟩:=h2;obtain ⟨k,t,q,r1,r2,r3,r4⟩:=agt (ts:=ts) (k:=0) (fun j=>by simp) h1;obtain ⟨E2,r5,r6⟩:=anT q2.hp r2 r3;exact ⟨.returned v,w',_,⟨v,sv,k,t,H',E',E2,rfl,r4,r1,q4,r5,q2.Bg,q3.H7,fun i hi u hu=>by rw[r6 i hi];exact q3.Ll i u hu⟩,by rw[henter];exact q1,rfl,rfl,q2.defers,rfl,fn,hP,q5⟩
end
def aks(fn:Func)(td:List It)(c:Core):Option (Nat×List SV×Option Nat×List It):=
 match td with
 | .reg p (i::r)::k=>match Ai (zS fn) p with
  | .region _ ops _=>match opAt ops.toList i with
   |some o=>match NG ops.toList c.tm o with
    | .yes=>match o.op with
     | .call kk=>match kk.callee with
      | .value f=>match AP c.tm f with
       | .fn g cs=>ak (g,kk.args.toList.map (AP c.tm)++cs,o.dst,.reg p r::k) |_=>aK
      |_=>aK
     |_=>aK
    |_=>aK
   |none=>aK
  |_=>aK
 |_=>aK
def Hp.at(h:Hp)(H:Mem)(w:World):Prop:=∀b o,h b=ak o->w.heap[b]?=ak o/\H b=aK
mutual
def Ij:SV->Bool
 | .ptr _ _=>ay | .gs _=>ay | .gp _ _ _ _=>ay | .mp _=>ay | .ev _=>ay | .vw _ _=>ay | .fn _ l=>KN l | .agg l=>KN l | .zQ l=>KN l | .BM _ x=>Ij x |_=>aC
def KN:List SV->Bool
 |[]=>aC |x::l=>Ij x&&KN l
end
def aeF:List Fr->Bool
 |[]=>aC |f::s=>KN f.tm&&aeF s
def KW:Env:=fun _=>aK
mutual
theorem L8{H:Mem}{E E':Env}:∀{x:SV} {v:Value},Ij x=aC->Den H E x v->Den H E' x v
 | .any,_,_,_=>trivial | .val _,_,_,h=>h | .int _ _,_,_,h=>h | .sym _ _,_,_,h=>h | .bool _,_,_,h=>h | .test _,_,_,h=>h | .str _,_,_,h=>h | .ptr _ _,_,h,_=>by simp[Ij] at h | .gs _,_,h,_=>by simp[Ij] at h | .gp _ _ _ _,_,h,_=>by simp[Ij] at h | .Ei,_,_,h=>h | .zY,_,_,h=>h | .FM,_,_,h=>h | .CS,_,_,h=>h | .EU,_,_,h=>h | .fn _ l,_,hn,⟨vs,h1,h2⟩=>⟨vs,h1,JK (by assumption) h2⟩ | .agg l,_,hn,⟨vs,h1,h2⟩=>⟨vs,h1,JK (by assumption) h2⟩ | .zQ l,_,hn,⟨vs,h1,h2⟩=>⟨vs,h1,JK (by assumption) h2⟩ | .BM _ x,_,hn,⟨v,h1,h2⟩=>⟨v,h1,L8 (by assumption) h2⟩ | .mp _,_,h,_=>by simp[Ij] at h | .sh _,_,_,h=>h | .Gh _ _ _ _ _,_,_,h=>h | .glob _,_,_,h=>h | .ev _,_,h,_=>by simp[Ij] at h | .vw _ _,_,h,_=>by simp[Ij] at h
theorem JK{H:Mem}{E E':Env}:∀{l:List SV} {vs:List Value},KN l=aC->zO H E l vs->zO H E' l vs
 |[],[],_,_=>trivial |_::_,_::_,hn,⟨h1,h2⟩=>by
  simp only[KN,aG] at hn;exact ⟨L8 hn.1 h1,JK hn.2 h2⟩
 |[],_::_,_,h=>h.elim |_::_,[],_,h=>h.elim
end
theorem adi{C:Ctx}{H:Mem}{E E':Env}:∀{s:List Fr} {ms:List Frame},aeF s=aC->Fp C H E s ms->Fp C H E' s ms
 |[],[],_,_=>trivial |f::s,m::ms,hn,⟨⟨fn,a,items,h1,h2,h3⟩,h4⟩=>by
  simp only[aeF,aG] at hn;exact ⟨⟨fn,a,items,h1,JK hn.1 h2,h3⟩,adi hn.2 h4⟩
 |[],_::_,_,h=>h.elim |_::_,[],_,h=>h.elim
theorem O4{K:Kx}{H:Mem}{E:Env}{w:World}:zU K H E w []:=⟨fun _ _ hl=>by simp[zI] at hl,fun _ _ _ _ _ hl=>by simp[zI] at hl⟩
section
variable{P:Program}{C:Ctx}{H H' H0:Mem}{E E':Env}{w w' w0:World}
def akt(P:Program)(gls:List (Nat×Sh))(g:Nat)(args:List SV)(R:Hp->Prop)(sv:SV)(R':Hp->Prop):Prop:=
 ∀(H:Mem) (E:Env) (w:World) (vs:List Value) (h:Hp),zO H E args vs->H.on w->BU gls H->R h->h.at H w->
  Calls P g vs.toArray w fun en w'=>∃v H' h',en=.returned v/\Den H' E sv v/\R' h'/\h'.at H' w'/\H.le H'/\Du ⟨w,fun b=>h b≠aK,H⟩ H' w'/\∀b,h' b≠aK->w.heap.size<=b\/h b≠aK
theorem agu{K:Kx}{g g2:Nat}{fn:Func}{td Fj:List It}{c:Core}{stk:List Fr}{R R':Hp->Prop}{φ:Sh->Prop}{args:List SV}{sv:SV}{dst:Option Nat}(hfn:C.fns.get g=ak fn)
  (hp:aks fn td c=ak (g2,args,dst,Fj)) (hen:Enters P g2) (hn:c.hp=[]/\KN c.tm=aC/\aeF stk=aC) (hcall:akt P C.gls g2 args R sv R') (hgo:Aw P C K g Fj {c with tm:=QE c.tm dst sv} stk R' φ):Aw P C K g td c stk R φ:=by
 intro H E1 w a items ms cs fn' hfn' st hi hs hx;rw[hfn] at hfn';cases hfn';let E:Env:=KW
 have st:St C K H E w c a:=⟨JK hn.2.1 st.den,by grind [O4],st.Bg,fun _ _ _=>rfl,st.gl,st.defers⟩;have hs:Fp C H E stk ms:=adi hn.2.2 hs;have hx:Ou R K H E w:=let ⟨h,h1,h2⟩:=hx;⟨h,h1,fun b o e=>⟨(h2 b o e).1,(h2 b o e).2.1,fun i hi=>by grind [KW,bk],(h2 b o e).2.2.2⟩⟩;unfold aks at hp;split at hp;rotate_left
 ·cases hp
 rename_i p i rest k;split at hp;rotate_left
 ·cases hp
 rename_i rid ops dr hcode;split at hp;rotate_left
 ·cases hp
 rename_i o ho;split at hp;rotate_left
 ·cases hp
 rename_i hwant;split at hp;rotate_left
 ·cases hp
 rename_i kk hop;split at hp;rotate_left
 ·cases hp
 rename_i f ako;split at hp;rotate_left
 ·cases hp
 rename_i g3 caps hev;cases hp;cases hi with
 |reg p l id ops2 hc hk=>
  rw[hc] at hcode;cases hcode;rename_i k';have df:=Ap (H:=H) (E:=E) st.den f;rw[hev] at df;obtain ⟨vs,ef,hvs⟩:=df;have hargs:=(MP st.den kk.args.toList).append hvs;have ho':ops[i]?=ak o:=by grind [opAt]
  have hw':=Gj (ops:=ops) st.den o;rw[hwant] at hw';have hrun:(execOp a.eval o).run P w=.ok (.enter g2 (kk.args.map a.eval++vs)) w:=by
   simp_all [execOp,resolve,jd,invoke,GK]
  have hg:=stepG_op (P:=P) (b:=base g) (k:=k') (cs:=ms++cs) (w:=w) (rest:=rest) ho' hw';have henter:step P (lone ((base g).at a (.inRegion ops (i::rest)::k')) (ms++cs) w)=.next (lone (fM P g2 (kk.args.map a.eval++vs) .normal) ((base g).at a (.inRegion ops (i::rest)::k')::(ms++cs)) w):=
   step_lone_go (by simp_all [fP,Frame.at])
  obtain ⟨h,hR,hb⟩:=hx;have hcl:=hcall H E w _ h hargs st.Bg.on st.gl hR fun b o e=>⟨(hb b o e).1,(hb b o e).2.1⟩;have awj:(kk.args.toList.map a.eval++vs.toList).toArray=kk.args.map a.eval++vs:=by
   simp
  rw[awj] at hcl;obtain ⟨en,w',F,⟨v,H',h',rfl,dv,hR',hat',hH,WG,atJ⟩,q1,q2,q3⟩:=hcl ((base g).at a (.inRegion ops (i::rest)::k')::(ms++cs));have hleave:step P (lone F ((base g).at a (.inRegion ops (i::rest)::k')::(ms++cs)) w')=.next (lone ((base g).at (a.put o.dst v) (.inRegion ops rest::k')) (ms++cs) w'):=by
   rw[step_leave_returned q3,kQ];simp[ho']
  have hno:∀{i:Nat} {b:Nat},bk E i=ak b->h b=aK:=fun {i b} hi=>by
   cases hx:h b with
   |none=>rfl |some o=>simp_all
  have hun:∀{b:Nat},H b=aK->b<w.heap.size->h b=aK->H' b=aK:=fun {b} h1 h2 h3=>by
   cases hx:H' b with
   |none=>rfl |some o=>
    (rcases WG.fresh b (by rw[hx];simp) with q|q|q)<;>grind
  have EP:∀{b:Nat},h b≠aK->K.w0.heap.size<=b\/K.own b:=fun {b} hb'=>by
   cases hx:h b with
   |none=>simp_all |some o=>simp_all
  have hhp:zU K H' E w' c.hp:=⟨fun id sb hl=>by
   have hent:=st.hp.ent id sb hl;exact hent.kept hH (fun _ _ e=>e) (fun b ho=>WG.kept b (hent.lt ho).1 (by have:=hno (FI ho);simp[this])) fun b ho=>hun (hent.lt ho).2.1 (hent.lt ho).1 (hno (FI ho)),st.hp.Fg⟩
  have hW:Du K H' w':=⟨WG.os.trans st.Bg.os,WG.tape.trans st.Bg.tape,WG.output.trans st.Bg.output,gU st.Bg.size WG.size,fun b hb1 hn=>by
   rw[WG.kept b (ji hb1 st.Bg.size) fun hq=>by grind]
   exact st.Bg.kept b hb1 hn,WG.on,fun b o e=>hH b o (st.Bg.le b o e),fun b hb1=>by
    rcases WG.fresh b hb1 with q|q|q
    ·exact st.Bg.fresh b q
    ·exact .inr (.inl (gU st.Bg.size q))
    simp_all⟩
  have st3:St C K H' E w' {c with tm:=QE c.tm o.dst sv} (a.put o.dst v):=
   ⟨Ji (c:=c) (st.den.le hH fun _ _ e=>e) _ dv,hhp,hW,st.free,st.gl.le hH,by rw[put_defers];exact st.defers⟩
  have hx3:Ou R' K H' E w':=by
   refine ⟨h',hR',fun b o e=>⟨(hat' b o e).1,(hat' b o e).2,fun i hi=>?_,?_⟩⟩
   ·grind [KW,bk]
   ·rcases atJ b (by rw[e];simp) with q|q
    ·exact .inl (gU st.Bg.size q)
    simp_all
  obtain ⟨a2,w2,v2,s,H2,aaS,fn0,r1,r2,r3⟩:=hgo H' E w' _ _ ms cs fn hfn st3 (.reg p rest _ ops hc hk) (hs.le hH fun _ _ e=>e) hx3;exact ⟨a2,w2,v2,s,H2,aaS,fn0,r1,(Steps.head henter (q1.trans (.one hleave))).trans r2,r3⟩
def aaZ(i:Nat)(u:Value)(x:SV):SV:=match x with
 | .ptr j 0=>bif j==i then .val u else .any |_=>bif Ij x then x else .any
theorem aiP{E':Env}{i:Nat}{b:Nat}(he:E i=ak (.pointer (ak ⟨b,0,aK⟩))){x:SV}{v:Value}(h:Den H E x v):Den H E' (aaZ i (.pointer (ak ⟨b,0,aK⟩)) x) v:=by
 unfold aaZ;split
 ·rename_i j
  cases hj:(j==i)<;>simp only[cond_true,cond_false]
  ·trivial
  ·obtain ⟨b',h1,h2⟩:=h
   obtain rfl:j=i:=by grind
   rw[he] at h1;simp[zT] at h1;subst h1;exact ⟨h2,rfl⟩
 ·cases hn:Ij x<;>simp only[cond_true,cond_false]
  ·trivial
  ·exact L8 hn h
theorem Ru{E':Env}{i:Nat}{b:Nat}(he:E i=ak (.pointer (ak ⟨b,0,aK⟩))):∀{l:List SV} {vs:List Value},zO H E l vs->zO H E' (l.map (aaZ i (.pointer (ak ⟨b,0,aK⟩)))) vs
 |[],[],_=>trivial |_::_,_::_,⟨h1,h2⟩=>⟨aiP he h1,Ru he h2⟩ |[],_::_,h=>h.elim |_::_,[],h=>h.elim
def WH(i:Nat)(u:Value):List Fr->List Fr
 |[]=>[] |f::s=>{f with tm:=f.tm.map (aaZ i u)}::WH i u s
theorem aa0{E':Env}{i:Nat}{b:Nat}(he:E i=ak (.pointer (ak ⟨b,0,aK⟩))):∀{s:List Fr} {ms:List Frame},Fp C H E s ms->Fp C H E' (WH i (.pointer (ak ⟨b,0,aK⟩)) s) ms
 |[],[],_=>trivial |_::_,_::_,⟨⟨fn,a,items,h1,h2,h3⟩,h4⟩=>⟨⟨fn,a,items,h1,Ru he h2,h3⟩,aa0 he h4⟩ |[],_::_,h=>h.elim |_::_,[],h=>h.elim
theorem Y1{i:Nat}{u:Value}:∀{s:List Fr} {g:Nat},QG g (WH i u s)=QG g s
 |[],_=>rfl |f::s,_=>by simp only[WH,QG];exact Y1
def WI(E:Env)(w:World)(hp:List (Nat×SB)):Hp->Prop:=fun h=>(∀b o,h b=ak o->w.heap[b]?=ak o)/\∀b,(∃id sb,zI hp id=ak sb/\Ag E id sb=ak b)↔h b≠aK
theorem aiQ{K:Kx}{hp:List (Nat×SB)}(hh:zU K H E w hp):∃h,WI E w hp h:=by
 classical
 refine ⟨fun b=>if ∃id sb,zI hp id=ak sb/\Ag E id sb=ak b then w.heap[b]? else aK,fun b o e=>?_,fun b=>⟨fun hq=>?_,fun hq=>?_⟩⟩
 ·simp_all
 ·have:=hq
  obtain ⟨id,sb,h1,h2⟩:=hq;have hlt:=((hh.ent _ _ h1).lt h2).1;simp_all
 grind
theorem Y2{K:Kx}{g i0:Nat}{td:List It}{c:Core}{stk:List Fr}{R:Hp->Prop}{R':Nat->Hp->Prop}{φ:Sh->Prop}(q:Nat->Bool)
  (hR:∀H E w h,H.on w->zU K H E w (dropKey q c.hp)->WI E w (dropKey q c.hp) h->∃b,E i0=ak (.pointer (ak ⟨b,0,aK⟩))/\R' b h)
  (hgo:∀b,Aw P C K g td {tm:=c.tm.map (aaZ i0 (.pointer (ak ⟨b,0,aK⟩))),hp:=[],nx:=0,lim:=c.lim,tc:=[]} (WH i0 (.pointer (ak ⟨b,0,aK⟩)) stk) (R' b) φ):Aw P C K g td c stk R φ:=by
 intro H E w a items ms cs fn' hfn' st hi hs hx;have hd:=aeC q st.hp;obtain ⟨h,hh⟩:=aiQ hd;obtain ⟨b,he,hR'⟩:=hR H E w h st.Bg.on hd hh;have:=hgo b H KW w a items ms cs fn' hfn' ⟨Ru he st.den,O4,st.Bg,fun _ _ _=>rfl,st.gl,st.defers⟩ hi (aa0 he hs) ⟨h,hR',fun b' o e=>by
  obtain ⟨id,sb,h1,h2⟩:=(hh.2 b').2 (by rw[e];simp);have:=((hd.ent _ _ h1).lt h2).2;exact ⟨hh.1 b' o e,this.1,fun i hi=>by simp[KW,bk] at hi,this.2⟩⟩
 simp_all [Y1]
theorem agv{x y:SV}:∀{l:List SV} {vs:List Value} {i:Nat},l[i]?=ak x->(∀v,Den H E x v->Den H E y v)->zO H E l vs->zO H E (l.set i y) vs
 |[],_,_,h,_,_=>by simp at h |_::_,[],_,_,_,h=>h.elim |_::_,_::_,0,h,hf,⟨h1,h2⟩=>by
  simp at h;subst h;exact ⟨hf _ h1,h2⟩
 |_::_,_::_,i+1,h,hf,⟨h1,h2⟩=>⟨h1,agv (by simpa using h) hf h2⟩
def Mem.with(H:Mem)(h:Hp):Mem:=fun b=>match h b with|some o=>ak o|none=>H b
theorem agw{K:Kx}{g:Nat}{td:List It}{c:Core}{stk:List Fr}{R:Hp->Prop}{φ:Sh->Prop}{u:Value}{X:Type}{y:X->SV}(hR:∀H E h w,R h->H.on w->h.at H w->∃x,Den (H.with h) E (y x) u)
  {i:Nat} (hi:c.tm[i]?=ak (.val u)) (hgo:∀x,Aw P C K g td {c with tm:=c.tm.set i (y x)} stk emp φ):Aw P C K g td c stk R φ:=by
 intro H E w a items ms cs fn' hfn' st hit hs ⟨h,hR',hb⟩;have hat:h.at H w:=fun b o e=>⟨(hb b o e).1,(hb b o e).2.1⟩;have hle:H.le (H.with h):=fun b o e=>by
  grind [Mem.with]
 have hw:Du K (H.with h) w:=⟨st.Bg.os,st.Bg.tape,st.Bg.output,st.Bg.size,st.Bg.kept,fun b o e=>by
  unfold Mem.with at e;cases hx:h b with
  |none=>rw[hx] at e;exact st.Bg.on b o e |some o'=>simp_all,fun b o e=>hle b o (st.Bg.le b o e),fun b hb1=>by
  unfold Mem.with at hb1;cases hx:h b with
  |none=>rw[hx] at hb1;exact st.Bg.fresh b hb1 |some o'=>simp_all⟩
 have hhp:zU K (H.with h) E w c.hp:=⟨fun id sb hl=>(st.hp.ent id sb hl).kept hle (fun _ _ e=>e) (fun _ _=>rfl) fun b ho=>by
  unfold Mem.with;cases hx:h b with
  |none=>exact ((st.hp.ent id sb hl).lt ho).2.1 |some o=>exact ((hb b o hx).2.2.1 id (FI ho)).elim,st.hp.Fg⟩
 obtain ⟨x,hx⟩:=hR H E h w hR' st.Bg.on hat;exact hgo x _ E w a items ms cs fn' hfn' ⟨agv hi (fun v hv=>by obtain ⟨rfl,_⟩:=hv;exact hx) (st.den.le hle fun _ _ e=>e),hhp,hw,st.free,st.gl.le hle,st.defers⟩ hit (hs.le hle fun _ _ e=>e) WA
inductive Fe3 where
 |ret (s:Sh)
 |raw (g:Nat) (td:List It) (c:Core) (stk:List Fr)
def anU:aaQ->Tree Fe3
 | .fin v c=>match finish c v with
  |some s=>.leaf (.ret s) |none=>.fail
 | .stop g td c stk=>.leaf (.raw g td c stk)
def asY(C:Ctx)(hold:Nat->Bool)(m n g:Nat)(td:List It)(c:Core)(stk:List Fr):Tree Fe3:=(YX C hold m n g td c stk).bind anU
def atL(P:Program)(C:Ctx)(K:Kx)(R:Hp->Prop)(φ:Sh->Prop):Fe3->Prop
 | .ret s=>φ s | .raw g td c stk=>Aw P C K g td c stk R φ
@[irreducible] def aeG (ψ:Fe3->Prop) (t:Tree Fe3):Prop:=t.All ψ
theorem aa1(ψ:Fe3->Prop)(t:Tree Fe3):aeG ψ t=t.All ψ:=by unfold aeG;rfl
theorem agy(hC:Az P C)(hF:AU P C){hold:Nat->Bool}{m n g:Nat}{td:List It}{c:Core}{stk:List Fr}{R:Hp->Prop}{φ:Sh->Prop}
  (h:aeG (atL P C (K0 H0 w0) R φ) (asY C hold m n g td c stk)):Aw P C (K0 H0 w0) g td c stk R φ:=by
 rw[aa1] at h;refine JJ hC hF (hold:=hold) (m:=m) (n:=n) ((dX h).mono fun o ho=>?_);cases o with
 |fin v c=>
  simp only[anU] at ho;split at ho
  ·rename_i s hs
   exact ⟨s,hs,ho⟩
  ·exact ho.elim
 |stop g td c stk=>exact ho
end
def aku:List (Nat×SB)->List Nat
 |[]=>[] |(_,.FY _ _ _ _ more)::l=>Jc more++aku l |_::l=>aku l
def Rw(A:Prim)(hp:List (Nat×SB)):SB->SB
 | .FY e st n g more=>match G8 hp more with
  |some l=>.own e st (A.addN n (more.length / st)) (A.snoc g n (Af (chunks st (more.length / st) l))) |none=>.FY e st n g more
 |sb=>sb
def WJ(A:Prim)(hp:List (Nat×SB)):List (Nat×SB)->List (Nat×SB)
 |[]=>[] |(i,sb)::l=>(i,Rw A hp sb)::WJ A hp l
def settle(A:Prim)(hp:List (Nat×SB)):Option (List (Nat×SB)):=(freeze hp (aku hp)).map fun hp=>WJ A hp hp
section
variable{P:Program}{C:Ctx}{K:Kx}{H H' H0:Mem}{E E':Env}{w w' w0:World}
theorem Qc{A:Prim}{hp:List (Nat×SB)}{i:Nat}:∀{l:List (Nat×SB)},zI (WJ A hp l) i=(zI l i).map (Rw A hp)
 |[]=>rfl |(j,sb)::l=>by
  simp only[WJ,zI];cases h:j==i<;>simp only[cond_true,cond_false,Option.map_some]
  exact Qc
theorem Rx{hp:List (Nat×SB)}(hh:zU K H E w hp){i:Nat}{sb:SB}(h:FH K H E w i sb):FH K H E w i (Rw zG hp sb)/\Ag E i (Rw zG hp sb)=Ag E i sb:=by
 unfold Rw;split
 ·rename_i e st n g more
  split
  ·rename_i l hl
   obtain ⟨v,xs,ys,he,h1,h2,h3,h4,h5,h6⟩:=h;refine ⟨⟨v,xs++ys,he,h1,?_,h6⟩,by simp[Ag]⟩;have hlen:=h3.length;have hm:=Nat.div_add_mod more.length st;rw[h4,kF,Nat.mul_comm] at hm;exact aas h2 (Jf (show ys.length=more.length / st*st by rw[hm];exact hlen) (DK hh hl h3) (Ep h5 h3))
  ·exact ⟨h,rfl⟩
 ·exact ⟨h,rfl⟩
theorem aiR{hp hp':List (Nat×SB)}(h:settle zG hp=ak hp')(hh:zU K H E w hp)(hw:Du K H w):∃H',H.le H'/\zU K H' E w hp'/\Du K H' w:=by
 unfold settle at h;cases hf:freeze hp (aku hp) with
 |none=>rw[hf] at h;cases h |some hp1=>
  rw[hf] at h;cases h;obtain ⟨H',h1,h2,h3,_⟩:=MN hf hh hw;refine ⟨H',h1,⟨fun id sb hl=>?_,fun id id' sb sb' b l1 l2 o1 o2=>?_⟩,h3⟩
  ·rw[Qc] at hl
   cases hx:zI hp1 id with
   |none=>rw[hx] at hl;cases hl |some s0=>
    rw[hx] at hl;cases hl;exact (Rx h2 (h2.ent _ _ hx)).1
  ·rw[Qc] at l1 l2
   cases hx:zI hp1 id with
   |none=>rw[hx] at l1;cases l1 |some s0=>
    cases hy:zI hp1 id' with
    |none=>rw[hy] at l2;cases l2 |some s1=>
     rw[hx] at l1;rw[hy] at l2;cases l1;cases l2;rw[(Rx h2 (h2.ent _ _ hx)).2] at o1;rw[(Rx h2 (h2.ent _ _ hy)).2] at o2;exact h2.Fg _ _ _ _ _ hx hy o1 o2
theorem acF{g:Nat}{td:List It}{c:Core}{stk:List Fr}{φ:Sh->Prop}{hp':List (Nat×SB)}(h:settle zG c.hp=ak hp')(hgo:Aw P C K g td {c with hp:=hp'} stk emp φ):Aw P C K g td c stk emp φ:=by
 intro H E w a items ms cs fn hfn st hi hs hx;obtain ⟨H',h1,h2,h3⟩:=aiR h st.hp st.Bg;exact hgo H' E w a items ms cs fn hfn ⟨st.den.le h1 fun _ _ e=>e,h2,h3,st.free,st.gl.le h1,st.defers⟩ hi (hs.le h1 fun _ _ e=>e) WA
def aiS(A:Prim)(ts:List Lp):aaQ->Tree DF
 | .fin v c=>match finish c v with
  |some s=>.leaf (.ret s) |none=>.fail
 | .stop g td c stk=>match settle A c.hp with
  |some hp=>Wy g td {c with hp:=hp} stk 0 ts
  |none=>.fail
def asZ(C:Ctx)(hold:Nat->Bool)(m n g:Nat)(td:List It)(c:Core)(stk:List Fr)(ts:List Lp):Tree DF:=(YX C hold m n g td c stk).bind (aiS C.A ts)
theorem agz(hC:Az P C)(hF:AU P C){hold:Nat->Bool}{m n g:Nat}{td:List It}{c:Core}{stk:List Fr}{ts:List Lp}{φ:Sh->Prop}
  (h:(asZ C hold m n g td c stk ts).All (H8 P C (K0 H0 w0) ts emp φ)):Aw P C (K0 H0 w0) g td c stk emp φ:=by
 refine JJ hC hF (hold:=hold) (m:=m) (n:=n) ((dX h).mono fun o ho=>?_);cases o with
 |fin v c=>
  simp only[aiS] at ho;split at ho
  ·rename_i s hs
   exact ⟨s,hs,ho⟩
  ·exact ho.elim
 |stop g td c stk=>
  simp only[aiS,hC.A] at ho;split at ho
  ·rename_i hp hs
   exact acF hs (UW (k:=0) (fun j=>by simp) ho)
  ·exact ho.elim
end
def WL(g:Nat)(td:List It)(c:Core)(stk:List Fr):Nat->List Lp->Tree DF
 |_,[]=>.fail |k,t::r=>bif g==t.g&&IC td t.td&&Rt stk t.stk then match Em (qC (t.rn c stk) c t.c) (aaT c.hp (t.rn c stk) stk t.stk) with
   |some l=>.leaf (.at_ k l) |none=>WL g td c stk (k+1) r
  else WL g td c stk (k+1) r
def anV(ts:List Lp):aaQ->Tree DF
 | .fin v c=>match finish c v with
  |some s=>.leaf (.ret s) |none=>.fail
 | .stop g td c stk=>WL g td c stk 0 ts
section
variable{P:Program}{C:Ctx}{K:Kx}{H0:Mem}{w0:World}
theorem UY{R:Hp->Prop}{φ:Sh->Prop}{ts:List Lp}{g:Nat}{td:List It}{c:Core}{stk:List Fr}:∀{r:List Lp} {k:Nat},(∀j,r[j]?=ts[k+j]?)->(WL g td c stk k r).All (H8 P C K ts R φ)->Aw P C K g td c stk R φ
 |[],_,_,h=>h.elim |t::r,k,hk,h=>by
  have hr:∀j,r[j]?=ts[k+1+j]?:=fun j=>by have:=hk (j+1);grind
  unfold WL at h;cases hb:(g==t.g&&IC td t.td&&Rt stk t.stk)<;>simp only[hb,cond_true,cond_false] at h
  ·exact UY hr h
  ·simp only[aG,beq_iff_eq] at hb
   obtain ⟨⟨h1,h2⟩,h3⟩:=hb;split at h
   ·rename_i l hl
    obtain ⟨a,b,q1,q2,rfl⟩:=AZ hl;obtain ⟨hl,t',ht,hg⟩:=h;have:=hk 0;simp only[jY,kF] at this;rw[<-this] at ht;cases ht;have h2:=L6 h2;subst h1 h2;exact YZ (t.rn c stk) (aiM q1 (dV hl).1) (aaV q2 (dV hl).2) hg
   ·exact UY hr h
end
def adk(C:Ctx)(pause:Nat->List It->Bool)(hold:Nat->Bool)(m:Nat):Nat->Nat->List It->Core->List Fr->Tree aaQ
 |0,g,td,c,stk=>.leaf (.stop g td c stk) |n+1,g,td,c,stk=>match C.fns.get g with
  |none=>.fail |some fn=>bif pause g td||holdB hold fn td c then .leaf (.stop g td c stk) else match P8 C fn td c with
   |some r=>adk C pause hold m n r.1 [.code []] {c with tm:=r.2.2++dL (r.2.1.ntmps - r.2.2.length) .any} ({g,td,tm:=c.tm}::stk)
   |none=>(Q5 C (LV C (run C m ay)) aC g fn td c).bind fun s=>match s with
    | .go td c=>adk C pause hold m n g td c stk | .halt td c=>.leaf (.stop g td c stk) | .done v c=>match stk with
     |[]=>.leaf (.fin v c) |f::stk=>match Rq C f v c with
      |some r=>adk C pause hold m n f.g r.1 r.2 stk |none=>.fail
section
variable{P:Program}{C:Ctx}{K:Kx}{H H' Oo H0:Mem}{E E' Oq E1:Env}{w w' w'' w0:World}
theorem NM(hC:Az P C)(hF:AU P C){pause:Nat->List It->Bool}{hold:Nat->Bool}{m:Nat}{R:Hp->Prop}{φ:Sh->Prop}:∀{n g:Nat} {td:List It} {c:Core} {stk:List Fr},(adk C pause hold m n g td c stk).All (akn P C (K0 H0 w0) R φ)->Aw P C (K0 H0 w0) g td c stk R φ
 |0,g,td,c,stk,h=>h |n+1,g,td,c,stk,h=>by
  intro H E w a items ms cs fn hfn st hi hs hx;simp only[adk,hfn] at h;cases aiN:(pause g td||holdB hold fn td c)<;>simp only[aiN,cond_true,cond_false] at h
  rotate_left
  ·exact h H E w a items ms cs fn hfn st hi hs hx
  split at h
  ·
   rename_i r hr;unfold P8 at hr;split at hr
   ·rename_i p i rest k
    split at hr
    ·rename_i rid ops dr hcode
     split at hr
     ·rename_i o ho
      split at hr
      ·rename_i hwant
       split at hr
       ·rename_i kk hop
        split at hr
        ·rename_i f ako
         split at hr
         ·rename_i g2 caps hev
          split at hr
          ·cases hr
          ·rename_i hspec
           split at hr
           ·rename_i EF hfn2
            cases hb:(gJ (kk.args.toList.map (AP c.tm)++caps).length EF.ntmps&&EF.body.isSome)<;>simp only[hb,cond_true,cond_false] at hr
            ·cases hr
            cases hr;simp only[aG] at hb;obtain ⟨body2,P9⟩:=eF.1 hb.2;have ih:=NM hC hF h;have hP2:=hC.fn g2 EF hfn2;cases hi with
            |reg p l id ops2 hc hk=>
             rw[hc] at hcode;cases hcode;rename_i k';have df:=Ap (H:=H) (E:=E) st.den f;rw[hev] at df;obtain ⟨vs,ef,hvs⟩:=df;have hargs:=(MP st.den kk.args.toList).append hvs;have ho':ops[i]?=ak o:=by grind [opAt]
             have hw':=Gj (ops:=ops) st.den o;rw[hwant] at hw';have hent:=hF.en g2 (.inr (by grind));have hrun:(execOp a.eval o).run P w=.ok (.enter g2 (kk.args.map a.eval++vs)) w:=by
              simp_all [execOp,resolve,jd,invoke,GK]
             have hg:=stepG_op (P:=P) (b:=base g) (k:=k') (cs:=ms++cs) (w:=w) (rest:=rest) ho' hw';have henter:step P (lone ((base g).at a (.inRegion ops (i::rest)::k')) (ms++cs) w)=.next (lone (fM P g2 (kk.args.map a.eval++vs) .normal) ((base g).at a (.inRegion ops (i::rest)::k')::(ms++cs)) w):=
              step_lone_go (by simp_all [fP,Frame.at])
             rw[Ku hP2 P9] at henter;have hl:=hargs.length;have hlen:(kk.args.map a.eval++vs).size=(kk.args.toList.map (AP c.tm)++caps).length:=by
              simp_all
             have st2:St C (K0 H0 w0) H E w {c with tm:=(kk.args.toList.map (AP c.tm)++caps)++dL (EF.ntmps - (kk.args.toList.map (AP c.tm)++caps).length) .any} {tmps:=(kk.args.map a.eval++vs)++dN (EF.ntmps - (kk.args.map a.eval++vs).size) undef,defers:=[]}:=by
              refine ⟨?_,st.hp,st.Bg,st.free,st.gl,rfl⟩;have:((kk.args.map a.eval++vs)++dN (EF.ntmps - (kk.args.map a.eval++vs).size) undef).toList=(kk.args.toList.map a.eval++vs.toList)++dL (EF.ntmps - (kk.args.toList.map (AP c.tm)++caps).length) undef:=by
               rw[hlen];simp
              simp only[this];exact hargs.append (qj _ _ (by simp))
             have hit2:BA (zS EF) [.code []] [.code body2]:=by
              have:=gB (body:=zS EF) [] pz;simp_all [Ai,zS]
             have hs2:Fp C H E ({g,td:=.reg p (i::rest)::k,tm:=c.tm}::stk) ((base g).at a (.inRegion ops (i::rest)::k')::ms):=
              ⟨⟨fn,a,_,hfn,st.den,st.defers,.reg p (i::rest) _ ops hc hk,rfl⟩,hs⟩
             obtain ⟨a',w',v,s,H',todo,fn0,q1,q2,q3⟩:=ih H E w _ _ (_::ms) cs EF hfn2 st2 hit2 hs2 hx;exact ⟨a',w',v,s,H',todo,fn0,q1,.head henter q2,q3⟩
           ·cases hr
         ·cases hr
        ·cases hr
       ·cases hr
      ·cases hr
     ·cases hr
    ·cases hr
   ·cases hr
  ·have hK:=Tm (K:=QO H E w c.hp) hC hF (Tn hC hF m)
   obtain ⟨sig,h1,h2⟩:=XP hC hF hK (dX h) st.re hi (base g) (ms++cs);cases sig with
   |go Fj c'=>
    obtain ⟨a',w',H',E',items',q1,q2,q3,q4⟩:=h2;obtain ⟨a2,w2,v,s,H2,todo,fn0,r1,r2,r3⟩:=NM hC hF h1 H' E' w' a' items' ms cs fn hfn (st.un q2) q4 (hs.le q3.H7 q3.Ll) (hx.keep st q2 q3);exact ⟨a2,w2,v,s,H2,todo,fn0,r1,q1.trans r2,r3⟩
   |halt Fj c'=>
    obtain ⟨a',w',H',E',items',q1,q2,q3,q4⟩:=h2;obtain ⟨a2,w2,v,s,H2,todo,fn0,r1,r2,r3⟩:=h1 H' E' w' a' items' ms cs fn hfn (st.un q2) q4 (hs.le q3.H7 q3.Ll) (hx.keep st q2 q3);exact ⟨a2,w2,v,s,H2,todo,fn0,r1,q1.trans r2,r3⟩
   |done sv c'=>
    obtain ⟨a',w',H',E',v,todo,q1,q2,q3,q4,q5⟩:=h2;cases stk with
    |nil=>
     cases ms with
     |cons _ _=>exact hs.elim |nil=>
      obtain ⟨s,e1,e2⟩:=h1;obtain ⟨H2,r⟩:=P6 (st.un q2) e1 q4;exact ⟨a',w',v,s,H2,todo,fn,hfn,q1,q2.defers,e2,r,q5⟩
    |cons f stk=>
     cases ms with
     |nil=>exact hs.elim |cons mf ms=>
      simp only at h1;split at h1
      ·rename_i r hr
       unfold Rq at hr;split at hr
       ·rename_i Ov agn
        split at hr
        ·rename_i p i rest k htd
         split at hr
         ·rename_i rid ops dr hcode
          cases hr;obtain ⟨⟨fn3,a3,akp,g1,g2,g3,g4,g5⟩,hs'⟩:=hs.le q3.H7 q3.Ll;rw[agn] at g1;cases g1;rw[htd] at g4;cases g4 with
          |reg p l id ops2 hc hk=>
           rw[hc] at hcode;cases hcode;rename_i k';subst g5;have hleave:step P (lone {(base g).at a' todo with mode:=.returning} ((base f.g).at a3 (.inRegion ops (i::rest)::k')::(ms++cs)) w')=.next (lone ((base f.g).at (a3.put ((opAt ops.toList i).bind (·.dst)) v) (.inRegion ops rest::k')) (ms++cs) w'):=by
            rw[step_leave_returned (v:=v) ⟨rfl,q2.defers,rfl,fn,hC.fn g fn hfn,q5⟩,kQ];simp[opAt]
           have st3:St C (K0 H0 w0) H' E' w' {c' with tm:=QE f.tm ((opAt ops.toList i).bind (·.dst)) sv} (a3.put ((opAt ops.toList i).bind (·.dst)) v):=
            ⟨Ji (c:={c' with tm:=f.tm}) g2 _ q4,(st.un q2).hp,(st.un q2).Bg,q2.free,q2.gl,by rw[put_defers];exact g3⟩
           obtain ⟨a2,w2,v2,s,H2,aaS,fn0,r1,r2,r3⟩:=NM hC hF h1 H' E' w' _ _ ms cs Ov agn st3 (.reg p rest _ ops hc hk) hs' (hx.keep st q2 q3);exact ⟨a2,w2,v2,s,H2,aaS,fn0,r1,(q1.trans (.one hleave)).trans r2,r3⟩
         ·cases hr
        ·cases hr
       ·cases hr
      ·exact h1.elim
def as1(C:Ctx)(pause:Nat->List It->Bool)(m n g:Nat)(td:List It)(c:Core)(stk:List Fr)(ts:List Lp):Tree DF:=(adk C pause (fun _=>ay) m n g td c stk).bind (anV ts)
theorem agA(hC:Az P C)(hF:AU P C){pause:Nat->List It->Bool}{m n g:Nat}{td:List It}{c:Core}{stk:List Fr}{ts:List Lp}{φ:Sh->Prop}{R:Hp->Prop}
  (h:(as1 C pause m n g td c stk ts).All (H8 P C (K0 H0 w0) ts R φ)):Aw P C (K0 H0 w0) g td c stk R φ:=by
 refine NM hC hF (pause:=pause) (hold:=fun _=>ay) (m:=m) (n:=n) ((dX h).mono fun o ho=>?_);cases o with
 |fin v c=>
  simp only[anV] at ho;split at ho
  ·rename_i s hs
   exact ⟨s,hs,ho⟩
  ·exact ho.elim
 |stop g td c stk=>exact UY (k:=0) (fun j=>by simp) ho
end
def Bz(b:Frame)(a:Act)(todo:List Item):Frame:=
 {fn:=b.fn,tmps:=a.tmps,todo,defers:=a.defers++b.defers,mode:=.run,kind:=b.kind,roundOf:=b.roundOf}
def Ry(b:Frame)(a:Act):Act:={a with defers:=a.defers++b.defers}
theorem JL(b:Frame)(a:Act)(todo:List Item):Bz b a todo=b.atR (Ry b a) todo:=rfl
theorem Qd(b:Frame)(a:Act):(Ry b a).eval=a.eval:=funext fun x=>by rfl
theorem adl(b:Frame)(a:Act)(d:Option Nat)(v:Value):(Ry b a).put d v=Ry b (a.put d v):=by cases d<;>rfl
def bq(g:Nat)(r:Option Nat)(ds:List Deferred):Frame:={(default:Frame) with fn:=g,kind:=.normal,roundOf:=r,defers:=ds}
theorem Tv(g:Nat)(a:Act)(todo:List Item):Bz (bq g aK []) a todo=(base g).at a todo:=by simp[Bz,Frame.at,bq,base]
theorem Rz(b:Frame)(a:Act)(ops:Array Oper)(i:Nat)(rest:List Nat)(k:List Item)(v:Value):
  (Bz b a (.inRegion ops (i::rest)::k)).finish v=Bz b (a.put ((ops[i]?).bind (·.dst)) v) (.inRegion ops rest::k):=by
 grind [JL,Frame.finish_atR,adl]
section moves
variable{P:Program}{b:Frame}{a:Act}{k:List Item}{cs:List Frame}{w:World}{ops:Array Oper}
theorem anW:step P (lone (Bz b a (.code .skip::k)) cs w)=.next (lone (Bz b a k) cs w):=by rfl
theorem agB{id:Nat}:step P (lone (Bz b a (.inBlock id::k)) cs w)=.next (lone (Bz b a k) cs w):=by rfl
theorem arH{x y:Code}:step P (lone (Bz b a (.code (.seq x y)::k)) cs w)=.next (lone (Bz b a (.code x::.code y::k)) cs w):=by rfl
theorem anX{c:Operand}{x y:Code}{t:Bool}(h:a.eval c=.bool t):step P (lone (Bz b a (.code (.cond c x y)::k)) cs w)=.next (lone (Bz b a (.code (if t then x else y)::k)) cs w):=by
 simp_all [JL,stepR_cond,Qd]
theorem alO{id:Nat}{c:Code}:step P (lone (Bz b a (.code (.block id c)::k)) cs w)=.next (lone (Bz b a (.code c::.inBlock id::k)) cs w):=by rfl
theorem agC{c:Code}:step P (lone (Bz b a (.code (.loop c)::k)) cs w)=.next (lone (Bz b a (.code c::.inLoop c::k)) cs w):=by rfl
theorem aa2{c:Code}:step P (lone (Bz b a (.inLoop c::k)) cs w)=.next (lone (Bz b a (.code c::.inLoop c::k)) cs w):=by rfl
theorem anY{id:Nat}{k':List Item}(h:exitTo id k=ak k'):step P (lone (Bz b a (.code (.exit id)::k)) cs w)=.next (lone (Bz b a k') cs w):=by simp_all [JL,stepR_exit]
theorem arI(hb:b.roundOf=aK):step P (lone (Bz b a (.code .ret::k)) cs w)=.next (lone {Bz b a (.code .ret::k) with mode:=.returning} cs w):=by rw[JL];exact stepR_ret hb
theorem arJ(hb:b.roundOf=aK):step P (lone (Bz b a []) cs w)=.next (lone {Bz b a [] with mode:=.returning} cs w):=by rw[JL];exact stepR_end hb
theorem aiT{id:Nat}:step P (lone (Bz b a (.code (.region id ops ay)::k)) cs w)=.next (lone (Bz b a (.inRegion ops (aY ops.size)::k)) cs w):=by rfl
theorem RD:step P (lone (Bz b a (.inRegion ops []::k)) cs w)=.next (lone (Bz b a k) cs w):=by rfl
theorem Zt{id:Nat}:step P (lone (Bz b a (.code (.region id ops aC)::k)) cs w) =
   .next (lone (Bz b a (.inRegion ops (mW (P.follows .mixedOrders) ops (w.tape w.drawn (.order b.fn id)))::k)) cs {w with drawn:=w.drawn+1}):=by rfl
end moves
def aiU:Op->Bool
 | .defer _=>ay |_=>aC
def Dw:Code->Bool
 | .seq a b=>Dw a&&Dw b | .cond _ a b=>Dw a&&Dw b | .block _ b=>Dw b | .loop b=>Dw b | .rangeFunc _ _ a b=>Dw a&&Dw b | .region _ ops _=>ops.toList.all fun o=>aiU o.op |_=>aC
theorem aa3{c:Code}(h:Dw c=aC)(i:Nat):Dw (child c i)=aC:=by
 unfold child;grind [Dw]
theorem RF{c:Code}(h:Dw c=aC):∀p:List Nat,Dw (Ai c p)=aC
 |[]=>h |i::p=>aa3 (RF h p) i
theorem WM{id:Nat}{ops:Array Oper}{dr:Bool}(h:Dw (.region id ops dr)=aC){i:Nat}{o:Oper}(ho:ops[i]?=ak o):∀c,o.op≠.defer c:=by
 intro c hc;simp only[Dw] at h;have hm:o∈ops.toList:=by
  grind
 have:=dA.1 h o hm;rw[hc] at this;cases this
section
variable{P:Program}{C:Ctx}{K:Kx}{H H' Oo:Mem}{E E' Oq:Env}{w w' w'':World}
theorem agD{ops:Array Oper}{i:Nat}{rest:List Nat}{Q:Exit->Act->World->Prop}{next:Act->World->Prop}{a:Act}(hnd:∀o,ops[i]?=ak o->∀c,o.op≠.defer c)(hQ:∀e a w,Q e a w->e=.normal)
  (h:wpOp P ops Q i next a w) (b:Frame) (k:List Item) (cs:List Frame) :
  ∃a' w',next a' w'/\Steps P (lone (Bz b a (.inRegion ops (i::rest)::k)) cs w) (lone (Bz b a' (.inRegion ops rest::k)) cs w'):=by
 unfold wpOp at h;cases ho:ops[i]? with
 |none=>
  simp only[ho] at h;have hs:=stepR_op_skip (P:=P) (b:=b) (a:=Ry b a) (k:=k) (cs:=cs) (w:=w) (ops:=ops) (i:=i) (rest:=rest) (by simp[ho]);simp only[ho,Option.bind_none,Act.put] at hs;exact ⟨a,w,h,.one hs⟩
 |some o=>
  simp only[ho] at h;by_cases hw:Region.wanted o (yielded ops a.tmps)=aC
  ·simp only[hw,if_true] at h
   rcases h with h|⟨_,_,_,hq⟩
   case inr=>grind
   simp only[Oper.wp] at h;have hg:=stepGR_op (P:=P) (b:=b) (a:=Ry b a) (k:=k) (cs:=cs) (w:=w) (rest:=rest) ho hw;rw[Oper.semAt_eq _ _ _ (hnd o ho),Qd,<-JL] at hg;have hfin:∀v,(Bz b a (.inRegion ops (i::rest)::k)).finish v=Bz b (a.put o.dst v) (.inRegion ops rest::k):=by
    simp_all [Rz]
   generalize hr:(execOp a.eval o).run P w=r at h;cases r with
   |ok n w'=>
    cases n<;>simp only[wu] at h
    case value v=>
     refine ⟨_,_,h,.one (step_lone_go ?_)⟩;simp_all [fP]
    case skip=>
     refine ⟨_,_,h,.one (step_lone_go ?_)⟩;simp_all [fP]
    case defer d=>
     refine ⟨_,_,h,.one (step_lone_go ?_)⟩;have:({Bz b a (.inRegion ops (i::rest)::k) with defers:=d::(a.defers++b.defers)}:Frame).finish undef =
       Bz b ({a with defers:=d::a.defers}.put o.dst undef) (.inRegion ops rest::k):=by
      have:=Rz b {a with defers:=d::a.defers} ops i rest k undef
      rw[ho] at this;exact this
     rw[hg];simp only[fP,Sem.runT_eq,hr,GStep.bare_after];exact congrArg (fun fr=>GStep.go {frame:=fr,callers:=cs,status:=.running,dying:=aK} w') this
    case enter f args=>
     obtain ⟨e,w'',fr,hR,hsteps,_,hleave⟩:=h (Bz b a (.inRegion ops (i::rest)::k)::cs);have henter:step P (lone (Bz b a (.inRegion ops (i::rest)::k)) cs w) =
       .next (lone (fM P f args .normal) (Bz b a (.inRegion ops (i::rest)::k)::cs) w'):=
      step_lone_go (by simp_all [fP,Bz])
     cases e with
     |returned v=>
      refine ⟨_,_,hR,.head henter (hsteps.trans (.one ?_))⟩;grind [step_leave_returned]
     |panicked chain=>grind |outgrown=>obtain ⟨_,_,hq⟩:=hR;grind
    case row row args=>
     obtain ⟨v,w'',hR,hsteps⟩:=h (Bz b a (.inRegion ops (i::rest)::k)) cs;have henter:step P (lone (Bz b a (.inRegion ops (i::rest)::k)) cs w) =
       .next (lone (Frame.ofRow P row args .normal) (Bz b a (.inRegion ops (i::rest)::k)::cs) w'):=
      step_lone_go (by simp_all [fP,Bz])
     refine ⟨_,_,hR,.head henter ?_⟩;simp_all
    all_goals first|exact h.elim|cases hQ _ _ _ h
   |halt x w'=>
    cases x<;>simp only[wu] at h
    grind
  ·simp only[hw,if_false,Bool.false_eq_true] at h
   have hs:=stepR_op_skip (P:=P) (b:=b) (a:=Ry b a) (k:=k) (cs:=cs) (w:=w) (ops:=ops) (i:=i) (rest:=rest)
    (by simp_all [Ry])
   simp only[ho,Option.bind_some] at hs;rw[adl] at hs;exact ⟨_,_,h,.one hs⟩
theorem agE{ops:Array Oper}{Q:Exit->Act->World->Prop}(hnd:∀(i:Nat) (o:Oper),ops[i]?=ak o->∀c,o.op≠.defer c)(hQ:∀e a w,Q e a w->e=.normal)(b:Frame)(k:List Item)(cs:List Frame):∀(l:List Nat) (a:Act) (w:World),wpOps P ops Q l a w->
  ∃a' w',Q .normal a' w'/\Steps P (lone (Bz b a (.inRegion ops l::k)) cs w) (lone (Bz b a' k) cs w')
 |[],a,w,h=>⟨a,w,h,.one RD⟩ |i::l,a,w,h=>by
  rw[wpOps_cons] at h;obtain ⟨a1,w1,h1,h2⟩:=agD (hnd i) hQ h b k cs;obtain ⟨a2,w2,h3,h4⟩:=agE hnd hQ b k cs l a1 w1 h1;exact ⟨a2,w2,h3,h2.trans h4⟩
theorem arK{call:Nat->List SV->Core->Tree (SV×Core)}(hC:Az P C)(hF:AU P C)(hK:Gu P C K call){c:Core}{a:Act}{φ:Core->Prop}{ops:Array Oper}{id:Nat}(hnd:∀(i:Nat) (o:Oper),ops[i]?=ak o->∀c,o.op≠.defer c)
  (st:St C K H E w c a) {g:Nat} (h:(drawn C call g ops c).All φ) (b:Frame) (k:List Item) (cs:List Frame) :
  ∃c' a' H' E' w',φ c'/\St C K H' E' w' c' a'/\Mv K H E w c H' E' w' c'/\Steps P (lone (Bz b a (.code (.region id ops aC)::k)) cs w) (lone (Bz b a' k) cs w'):=by
 have h1:=aaG hC hF hK st h;have hm:=hC.mixed;have hs:∀t,wpOps P ops _ (mW (P.follows .mixedOrders) ops t) a {w with drawn:=w.drawn+1}:=fun t=>by
  simp only[mW,hm,Bool.true_or,if_true];exact wpAny_sound ops.size t _ a _ h1
 obtain ⟨a',w',⟨_,c',H',E',e1,e2,e3⟩,e4⟩:=agE hnd (fun _ _ _ h=>h.1) b k cs _ a _ (hs (w.tape w.drawn (.order b.fn id)));exact ⟨c',a',H',E',w',e1,e2,e3,.head Zt e4⟩
theorem aeH{fn:Func}{c:Core}{φ:Out->Prop}(h:(result C fn c).All φ):∃sv,result C fn c=.leaf (.done sv c)/\φ (.done sv c):=by
 unfold result at h ⊢;split
 ·rename_i sv hs;rw[hs] at h;exact ⟨sv,rfl,h⟩
 ·rename_i l hne hs
  split at h
  ·grind
  ·rename_i l2 hne2 hs2;rw[hs] at hs2;cases hs2;exact ⟨_,rfl,h⟩
  grind
 ·rename_i hs;rw[hs] at h;exact h.elim
def anZ(P:Program)(C:Ctx)(fn:Func)(H:Mem)(E:Env)(sv:SV)(c:Core)(a:Act):Prop:=
 ∀(K:Kx) (w:World),St C K H E w c a->∃v,Den H E sv v/\(results fn a.tmps).run P w=.ok v w
theorem alP(hC:Az P C){fn:Func}{c:Core}{a:Act}{sv:SV}(h:result C fn c=.leaf (.done sv c)):anZ P C fn H E sv c a:=fun K w st=>by
 obtain ⟨sv',v,h1,h2,h3⟩:=aaH (φ:=fun o=>o=.done sv c) hC st (by rw[h];exact rfl);simp_all
def an0(P:Program)(C:Ctx)(K:Kx)(fn:Func)(H:Mem)(E:Env)(w:World)(c:Core)(m:Machine)(b:Frame)(cs:List Frame):Sig->Prop
 | .done sv c'=>∃(a':Act) (w':World) (H':Mem) (E':Env) (todo:List Item),Steps P m (lone {Bz b a' todo with mode:=.returning} cs w')/\St C K H' E' w' c' a'/\Mv K H E w c H' E' w' c'/\anZ P C fn H' E' sv c' a'
 | .go Fj c'=>∃(a':Act) (w':World) (H':Mem) (E':Env) (items':List Item),Steps P m (lone (Bz b a' items') cs w')/\St C K H' E' w' c' a'/\Mv K H E w c H' E' w' c'/\BA (zS fn) Fj items' | .halt Fj c'=>∃(a':Act) (w':World) (H':Mem) (E':Env) (items':List Item),Steps P m (lone (Bz b a' items') cs w')/\St C K H' E' w' c' a'/\Mv K H E w c H' E' w' c'/\BA (zS fn) Fj items'
def endsB(fn:Func):List It->Bool
 |[]=>aC | .code p::_=>match Ai (zS fn) p with
  | .ret=>aC |_=>ay
 |_=>ay
theorem alQ(hC:Az P C)(hF:AU P C){call:Nat->List SV->Core->Tree (SV×Core)}(hK:Gu P C K call){top:Bool}{g:Nat}{fn:Func}{td:List It}{c:Core}{a:Act}{items:List Item}{φ:Sig->Prop}(hnd:Dw (zS fn)=aC)
  (h:(Q5 C call top g fn td c).All φ) (st:St C K H E w c a) (hi:BA (zS fn) td items) (b:Frame) (cs:List Frame) (hr:b.roundOf=aK\/endsB fn td=ay) :
  ∃sig,φ sig/\an0 P C K fn H E w c (lone (Bz b a items) cs w) b cs sig:=by
 have KH:Mv K H E w c H E w c:=Ih st rfl rfl rfl rfl;have go:∀{Fj:List It} {c':Core} {H':Mem} {E':Env} {w':World} {a':Act} {items':List Item},φ (.go Fj c')->St C K H' E' w' c' a'->Mv K H E w c H' E' w' c'->BA (zS fn) Fj items'->
   Steps P (lone (Bz b a items) cs w) (lone (Bz b a' items') cs w')->∃sig,φ sig/\an0 P C K fn H E w c (lone (Bz b a items) cs w) b cs sig:=fun h1 h2 h3 h4 h5=>⟨_,h1,_,_,_,_,_,h5,h2,h3,h4⟩
 have fin:∀(todo:List Item),((result C fn c).bind aef).All φ->step P (lone (Bz b a items) cs w)=.next (lone {Bz b a todo with mode:=.returning} cs w)->∃sig,φ sig/\an0 P C K fn H E w c (lone (Bz b a items) cs w) b cs sig:=fun todo hr hs=>by
  obtain ⟨sv,h1,h2⟩:=aeH (dX hr);exact ⟨_,h2,a,w,H,E,todo,.one hs,st,KH,alP hC h1⟩
 unfold Q5 at h;split at h
 ·cases hi
  have hb:b.roundOf=aK:=by
   rcases hr with hr|hr
   ·exact hr
   ·cases hr
  grind [arJ]
 ·cases hi with
  |inBlock id hk=>exact go h st KH hk (.one agB)
 ·exact h.elim
 ·cases hi with
  |reg p l id ops hc hk=>exact go h (st.MJ g) (Ih st rfl rfl rfl rfl) hk (.one RD)
 ·rename_i p i r k
  cases hi with
  |reg p l id ops hc hk=>
   have hd:Dw (.region id ops ay)=aC:=by grind [RF]
   rw[hc] at h;simp only at h;obtain ⟨a',w',h1,h2⟩:=agD (fun o ho=>WM hd ho) (fun _ _ _ h=>h.elim) (UL hC hF hK st (dX h) (fun a' w'=>∃c' H' E',φ (.go (.reg p r::k) c')/\St C K H' E' w' c' a'/\Mv K H E w c H' E' w' c') (fun _ _ _=>False)
    fun c' a' H' E' w' e1 e2 e3 _=>⟨c',H',E',e1,e2,e3⟩) b _ cs
   obtain ⟨c',H',E',e1,e2,e3⟩:=h1;exact go e1 e2 e3 (.reg p r id ops hc hk) h2
 ·rename_i p k
  have hloop:∀{x:Code},Ai (zS fn) p=x->(∀y,x≠.loop y)->∃k',items=.code x::k'/\BA (zS fn) k k':=fun {x} hx hne=>by
   cases hi with
   |code p hk=>simp_all |loop p y hl hk=>grind
  split at h
  ·rename_i hx
   obtain ⟨k',rfl,hk⟩:=hloop hx (by simp);exact go h st KH hk (.one anW)
  ·rename_i hx
   obtain ⟨k',rfl,hk⟩:=hloop hx (by simp);grind [endsB,arI]
  ·rename_i x y hx
   obtain ⟨k',rfl,hk⟩:=hloop hx (by simp);have h0:Ai (zS fn) (0::p)=x:=by simp[Ai,hx,child]
   have h1:Ai (zS fn) (1::p)=y:=by simp[Ai,hx,child]
   have:=gB (0::p) (gB (1::p) hk);rw[h0,h1] at this;exact go h st KH this (.one arH)
  ·rename_i id x hx
   obtain ⟨k',rfl,hk⟩:=hloop hx (by simp);have h0:Ai (zS fn) (0::p)=x:=by simp[Ai,hx,child]
   have:=gB (0::p) (BA.inBlock id hk);rw[h0] at this;exact go h st KH this (.one alO)
  ·rename_i x hx
   have h0:Ai (zS fn) (0::p)=x:=by simp[Ai,hx,child]
   cases hst:C.LU g p<;>simp only[hst,cond_true,cond_false] at h
   ·cases hi with
    |code p hk=>
     have:=gB (0::p) (nU p x hx hk);rw[h0] at this;rw[hx] at go ⊢;exact go h st KH this (.one agC)
    |loop p y hl hk=>
     rw[hx] at hl;cases hl;have:=gB (0::p) (nU p x hx hk);rw[h0] at this;exact go h st KH this (.one aa2)
   ·exact ⟨_,h,a,w,H,E,items,.refl _ _,st,KH,hi⟩
  ·rename_i id hx
   obtain ⟨k',rfl,hk⟩:=hloop hx (by simp);split at h
   ·rename_i k2 he
    obtain ⟨k3,h1,h2⟩:=agd hk he;exact go h st KH h2 (.one (anY h1))
   ·exact h.elim
  ·rename_i x y z hx
   obtain ⟨k',rfl,hk⟩:=hloop hx (by simp);have h0:=gB (0::p) hk;have h1:=gB (1::p) hk;have e0:Ai (zS fn) (0::p)=y:=by simp[Ai,hx,child]
   have e1:Ai (zS fn) (1::p)=z:=by simp[Ai,hx,child]
   rw[e0] at h0;rw[e1] at h1;have dx:=Ap (H:=H) (E:=E) st.den x;have cnd:∀t:Bool,a.eval x=.bool t->step P (lone (Bz b a (.code (.cond x y z)::k')) cs w)=.next (lone (Bz b a (.code (if t then y else z)::k')) cs w):=fun t ht=>anX ht
   split at h
   ·rename_i hv
    rw[hv] at dx;exact go h st KH h0 (.one (cnd aC dx))
   ·rename_i hv
    rw[hv] at dx;exact go h st KH h1 (.one (cnd ay dx))
   ·rename_i t hv
    rw[hv] at dx;have st':∀v,t=v->St C K H E w (c.put (VN x) (.bool v)) a:=fun v hv2=>by
     subst hv2;cases x with
     |tmp d=>exact st.know hv |const u=>assumption |global u=>assumption |func u=>assumption
    have mv':∀v:Bool,Mv K H E w c H E w (c.put (VN x) (.bool v)):=fun v=>Ih st rfl rfl rfl rfl
    cases t with
    |true=>exact go (h.1 rfl) (st' aC rfl) (mv' aC) h0 (.one (cnd aC dx)) |false=>exact go (h.2 rfl) (st' ay rfl) (mv' ay) h1 (.one (cnd ay dx))
   ·exact h.elim
  ·rename_i id ops dr hx
   obtain ⟨k',rfl,hk⟩:=hloop hx (by simp);have hd:Dw (.region id ops dr)=aC:=by grind [RF]
   cases dr with
   |false=>
    simp only[cond_false] at h;exact go h st KH (.reg p (aY ops.size) id ops hx hk) (.one aiT)
   |true=>
    simp only[cond_true] at h;have key:∀(f:Core->Tree Sig),((drawn C call g ops c).bind f).All φ->∃c' a' H' E' w',(f c').All φ/\St C K H' E' w' c' a'/\Mv K H E w c H' E' w' c'/\Steps P (lone (Bz b a (.code (.region id ops aC)::k')) cs w) (lone (Bz b a' k') cs w'):=fun f hf=>
     arK (id:=id) hC hF hK (fun i o ho=>WM hd ho) st (dX hf) b k' cs
    cases hl:(top && !(drawn C call g ops c).lone)<;>simp only[hl,cond_true,cond_false] at h
    ·obtain ⟨c',a',H',E',w',h1,h2,h3,h4⟩:=key _ h
     exact go h1 h2 h3 hk h4
    ·obtain ⟨c',a',H',E',w',h1,h2,h3,h4⟩:=key _ h
     exact ⟨_,h1,a',w',H',E',k',h4,h2,h3,hk⟩
  ·exact h.elim
end
inductive Ox where
 |ready|busy|done (q:List Nat)
structure Fw where
 g:Nat
 r:Option (Nat×Nat)
 td:List It
 tm:List SV
 lp:Option (Nat×List Nat×Ox)
def JM:Ox->LoopState
 | .ready=>.ready | .busy=>.busy | .done _=>.done
def EZ(body:Code):Ox->Option Code
 | .done q=>ak (Ai body q) |_=>aK
def marks(rs:List Nat):List Deferred:=rs.map fun r=>{target:=.collected r,args:=#[]}
def RG(r:Option (Nat×Nat)):Option Nat:=r.map (·.1)
def QT(f:Fw):List Nat:=match f.lp with
 |some (l,_,_)=>[l] |none=>[]
def agF(fn:Func)(g:Nat)(tmps:Array Value)(p:List Nat)(s:Ox)(o:Obj):Prop:=
 ∃x ps ca cb df,Ai (zS fn) p=.rangeFunc x ps ca cb/\o=.loop {state:=JM s,pending:=EZ (zS fn) s,fn:=g,tmps,params:=ps,assign:=ca,body:=cb,defers:=df}
def Y3(C:Ctx)(H:Mem)(E:Env)(h:Hp)(f:Fw)(mf:Frame)(rs:List Nat):Prop:=
 ∃fn a items,C.fns.get f.g=ak fn/\zO H E f.tm a.tmps.toList/\a.defers=[]/\BA (zS fn) f.td items/\(∀x∈rs,h x=ak (.deferred (ak [])))/\
  match f.lp with
  |none=>mf=Bz (bq f.g (RG f.r) (marks rs)) a items |some (l,p,s)=>mf=Bz (bq f.g (RG f.r) (marks rs)) a (.inRangeFunc l::items)/\∃o,h l=ak o/\agF fn f.g a.tmps p s o
def EN(C:Ctx)(H:Mem)(E:Env)(h:Hp):List Fw->List Frame->List Nat->Prop
 |[],[],B=>B=[] |f::s,mf::ms,B=>∃rs B',B=rs++QT f++B'/\Y3 C H E h f mf rs/\EN C H E h s ms B' |_,_,_=>False
def Hf(h:Hp)(K:Kx)(H:Mem)(E:Env)(w:World)(hp:List (Nat×SB)):Prop:=
 ∀b o,h b=ak o->w.heap[b]?=ak o/\H b=aK/\(∀id sb,zI hp id=ak sb->Ag E id sb≠ak b)/\(K.w0.heap.size<=b\/K.own b)
def QH(g:Nat):List Fw->Nat
 |[]=>g |f::s=>QH f.g s
def agG(P:Program)(C:Ctx)(K:Kx)(bot:Nat)(φ:Sh->Prop)(m:Machine)(cs:List Frame):Prop:=
 ∃(a':Act) (w':World) (v:Value) (s:Sh) (H':Mem) (todo:List Item) (fn0:Func),C.fns.get bot=ak fn0/\Steps P m (lone {(base bot).at a' todo with mode:=.returning} cs w')/\
   a'.defers=[]/\φ s/\CV K.H0 K.w0 s v H' w'/\(results fn0 a'.tmps).run P w'=.ok v w'
theorem agG.of{P:Program}{C:Ctx}{K:Kx}{bot:Nat}{φ:Sh->Prop}{m m':Machine}{cs:List Frame}(h1:Steps P m m')(h2:agG P C K bot φ m' cs):agG P C K bot φ m cs:=by
 obtain ⟨a',w',v,s,H',todo,fn0,q1,q2,q3⟩:=h2;exact ⟨a',w',v,s,H',todo,fn0,q1,h1.trans q2,q3⟩
def Df(P:Program)(C:Ctx)(K:Kx)(g:Nat)(r:Option (Nat×Nat))(td:List It)(c:Core)(stk:List Fw)(φ:Sh->Prop):Prop:=
 ∀(H:Mem) (E:Env) (w:World) (a:Act) (items:List Item) (rs B:List Nat) (ms cs:List Frame) (fn:Func) (h:Hp),C.fns.get g=ak fn->St C K H E w c a->BA (zS fn) td items->
  (∀x∈rs,h x=ak (.deferred (ak [])))->EN C H E h stk ms B->(rs++B).Nodup->Hf h K H E w c.hp->
  agG P C K (QH g stk) φ (lone (Bz (bq g (RG r) (marks rs)) a items) (ms++cs) w) cs
section
variable{P:Program}{C:Ctx}{K:Kx}{H H' Oo H0:Mem}{E E' Oq E1:Env}{w w' w'' w0:World}{h:Hp}
theorem Y3.le(hH:H.le H')(hE:E.le E'){f:Fw}{mf:Frame}{rs:List Nat}(x:Y3 C H E h f mf rs):Y3 C H' E' h f mf rs:=by
 obtain ⟨fn,a,items,h1,h2,h3⟩:=x;exact ⟨fn,a,items,h1,h2.le hH hE,h3⟩
theorem EN.le(hH:H.le H')(hE:E.le E'):∀{s:List Fw} {ms:List Frame} {B:List Nat},EN C H E h s ms B->EN C H' E' h s ms B
 |[],[],_,x=>x |_::_,_::_,_,⟨rs,B',h1,h2,h3⟩=>⟨rs,B',h1,h2.le hH hE,EN.le hH hE h3⟩ |[],_::_,_,x=>x.elim |_::_,[],_,x=>x.elim
theorem Hf.keep{c c':Core}{a a':Act}(hx:Hf h K H E w c.hp)(st:St C K H E w c a)(st':St C (QO H E w c.hp) H' E' w' c' a'):Hf h K H' E' w' c'.hp:=by
 intro b o e;obtain ⟨h1,h2,h3,h4⟩:=hx b o e;have hlt:=(bK.1 h1).1;have hno:¬(QO H E w c.hp).own b:=fun ⟨id,sb,q1,q⟩=>h3 id sb q1 q;refine ⟨by rw[st'.Bg.kept b hlt hno];exact h1,?_,fun id sb hl ho=>?_,h4⟩
 ·cases hx:H' b with
  |none=>rfl |some o'=>
   rcases st'.Bg.fresh b (by rw[hx];simp) with q|q|q
   ·exact (q h2).elim
   ·have q:w.heap.size<=b:=q;omega
   simp_all
 ·obtain ⟨_,_,q⟩:=(st'.hp.ent id sb hl).lt ho
  rcases q with q|q
  ·have q:w.heap.size<=b:=q;omega
  grind
theorem Hf.weak{ρ:List (Nat×Rn)}{c c':Core}{a:Act}(hx:Hf h K H E w c.hp)(st:St C K H E w c a)(hle:leC ρ c c'):Hf h K H (ER ρ E) w c'.hp:=by
 intro b o e;obtain ⟨h1,h2,h3,h4⟩:=hx b o e;refine ⟨h1,h2,fun id sb hl ho=>?_,h4⟩;obtain ⟨id0,s0,_,q1,q2⟩:=(Wu st.hp (Wv hle.2.1 hl)).2 b ho;simp_all
def H9(h:Hp)(b:Nat)(o:Obj):Hp:=fun x=>if x=b then ak o else h x
theorem MS{b:Nat}{o:Obj}:H9 h b o b=ak o:=by simp[H9]
theorem ED{b x:Nat}{o:Obj}(hne:x≠b):H9 h b o x=h x:=by simp[H9,hne]
theorem St.putObj{c:Core}{a:Act}(st:St C K H E w c a){b:Nat}{o o':Obj}(hx:Hf h K H E w c.hp)(hb:h b=ak o):St C K H E (w.putObj b o') c a:=by
 obtain ⟨h1,h2,h3,h4⟩:=hx b o hb;refine ⟨st.den,⟨fun id sb hl=>(st.hp.ent id sb hl).kept (fun _ _ e=>e) (fun _ _ e=>e) (fun b' hb'=>?_) fun b' hb'=>((st.hp.ent id sb hl).lt hb').2.1,st.hp.Fg⟩,?_,st.free,st.gl,st.defers⟩
 ·grind [iY]
 ·refine ⟨st.Bg.os,st.Bg.tape,st.Bg.output,by rw[World.putObj_size];exact st.Bg.size,fun b' hlt hno=>?_,fun b' o2 hb'=>?_,st.Bg.le,st.Bg.fresh⟩
  ·rw[iY]
   ·exact st.Bg.kept b' hlt hno
   grind
  ·rw[iY]
   ·exact st.Bg.on b' o2 hb'
   grind
theorem Hf.put{hp:List (Nat×SB)}{b:Nat}{o o':Obj}(hx:Hf h K H E w hp)(hb:h b=ak o):Hf (H9 h b o') K H E (w.putObj b o') hp:=by
 intro x o2 e;by_cases hxb:x=b
 ·subst hxb
  rw[MS] at e;cases e;obtain ⟨h1,h2⟩:=hx x o hb;grind [World.putObj_heap_same,bK]
 ·rw[ED hxb] at e
  obtain ⟨h1,h2⟩:=hx x o2 e;simp_all [iY]
theorem heap_alloc_old(w:World)(o:Obj)(x:Nat)(h:x<w.heap.size):(w.alloc o).heap[x]?=w.heap[x]?:=by
 show (w.heap.push o)[x]?=_;grind
theorem St.XU{c:Core}{a:Act}(st:St C K H E w c a)(o:Obj):St C K H E (w.alloc o) c a:=
 ⟨st.den,⟨fun id sb hl=>(st.hp.ent id sb hl).kept (fun _ _ e=>e) (fun _ _ e=>e) (fun b hb=>heap_alloc_old w o b ((st.hp.ent id sb hl).lt hb).1) fun _ hb=>((st.hp.ent id sb hl).lt hb).2.1,st.hp.Fg⟩,
  st.Bg.alloc o,st.free,st.gl,st.defers⟩
theorem Hf.alloc{c:Core}{a:Act}(hx:Hf h K H E w c.hp)(st:St C K H E w c a)(o:Obj):Hf (H9 h w.heap.size o) K H E (w.alloc o) c.hp:=by
 intro x o2 e;by_cases hxb:x=w.heap.size
 ·subst hxb
  rw[MS] at e;cases e;refine ⟨World.alloc_heap_new w o,?_,fun id sb hl ho=>?_,.inl st.Bg.size⟩
  ·cases hH:H w.heap.size with
   |none=>rfl |some o'=>have:=(bK.1 (st.Bg.on _ _ hH)).1;omega
  ·have:=((st.hp.ent id sb hl).lt ho).1;omega
 ·rw[ED hxb] at e
  obtain ⟨h1,h2⟩:=hx x o2 e;grind [heap_alloc_old,bK]
theorem Y3.put{f:Fw}{mf:Frame}{rs:List Nat}(x:Y3 C H E h f mf rs){b:Nat}{o:Obj}(h1:b ∉ rs)(h2:b ∉ QT f):Y3 C H E (H9 h b o) f mf rs:=by
 obtain ⟨fn,a,items,q1,q2,q3,q4,q5,q6⟩:=x;refine ⟨fn,a,items,q1,q2,q3,q4,fun y hy=>by grind [ED],?_⟩;grind [QT,ED]
theorem EN.put{b:Nat}{o:Obj}:∀{s:List Fw} {ms:List Frame} {B:List Nat},EN C H E h s ms B->b ∉ B->EN C H E (H9 h b o) s ms B
 |[],[],_,x,_=>x |f::_,_::_,B,⟨rs,B',h1,h2,h3⟩,hb=>by
  subst h1;simp only[cZ,not_or] at hb;exact ⟨rs,B',rfl,h2.put hb.1.1 hb.1.2,EN.put h3 hb.2⟩
 |[],_::_,_,x,_=>x.elim |_::_,[],_,x,_=>x.elim
theorem EN.len:∀{s:List Fw} {ms:List Frame} {B:List Nat},EN C H E h s ms B->s.length=ms.length
 |[],[],_,_=>rfl |_::_,_::_,_,⟨_,_,_,_,h3⟩=>by simp[EN.len h3] |[],_::_,_,x=>x.elim |_::_,[],_,x=>x.elim
theorem EN.has:∀{s:List Fw} {ms:List Frame} {B:List Nat},EN C H E h s ms B->∀x∈B,∃o,h x=ak o
 |[],[],_,e,x,hx=>by have e:_=[]:=e;simp_all |f::_,_::_,B,⟨rs,B',h1,h2,h3⟩,x,hx=>by
  subst h1;obtain ⟨fn,a,items,q1,q2,q3,q4,q5,q6⟩:=h2;simp only[cZ] at hx;rcases hx with (hx|hx) |hx
  ·exact ⟨_,q5 x hx⟩
  ·unfold QT at hx
   split at q6
   ·rename_i hl;rw[hl] at hx;cases hx
   ·rename_i l p s hl
    rw[hl] at hx;obtain ⟨_,o,q8,_⟩:=q6;have:x=l:=by simpa using hx
    exact ⟨o,this ▸ q8⟩
  ·exact EN.has h3 x hx
 |[],_::_,_,e,_,_=>e.elim |_::_,[],_,e,_,_=>e.elim
theorem collects{c:Core}{a:Act}:∀{rs:List Nat} {B:List Nat} {h:Hp} {w:World} {s:List Fw} {ms:List Frame} (g:Nat) (todo:List Item) (cs:List Frame),St C K H E w c a->Hf h K H E w c.hp->(∀x∈rs,h x=ak (.deferred (ak [])))->EN C H E h s ms B->(rs++B).Nodup->
  ∃w' h',Steps P (lone {Bz (bq g aK (marks rs)) a todo with mode:=.returning} cs w) (lone {(base g).at a todo with mode:=.returning} cs w')/\St C K H E w' c a/\Hf h' K H E w' c.hp/\EN C H E h' s ms B
 |[],B,h,w,s,ms,g,todo,cs,st,hx,_,hs,_=>⟨w,h,by rw[<-Tv];exact .refl _ _,st,hx,hs⟩ |r::rs,B,h,w,s,ms,g,todo,cs,st,hx,hm,hs,hnd=>by
  have h0:=hm r (List.mem_cons_self ..);have hw:=(hx r _ h0).1;simp only[List.cons_append,List.nodup_cons,cZ,not_or] at hnd;have hstep:step P (lone {Bz (bq g aK (marks (r::rs))) a todo with mode:=.returning} cs w)=.next (lone {Bz (bq g aK (marks rs)) a todo with mode:=.returning} cs (w.putObj r (.deferred aK))):=by
   have:=step_collected (P:=P) (fr:={Bz (bq g aK (marks (r::rs))) a todo with mode:=.returning}) (cs:=cs) (w:=w) (d:={target:=.collected r,args:=#[]}) (r:=r) (ds:=marks rs) (calls:=[]) (by simp)
    (by simp[Bz,bq,marks,st.defers]) rfl (run_takeDeferred hw)
   rw[this];simp[Bz,bq,marks,st.defers]
  obtain ⟨w',h',q1,q2,q3,q4⟩:=collects g todo cs (st.putObj (o':=.deferred aK) hx h0) (hx.put (o':=.deferred aK) h0) (fun x hxm=>by
   grind [ED,List.mem_cons_of_mem]) (hs.put hnd.1.2) hnd.2
  exact ⟨w',h',.head hstep q1,q2,q3,q4⟩
end
end Go.Sx
