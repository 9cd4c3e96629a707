/- Own work. -/
import Derived.Test.YthehnhaoiijkhaaGreatDoorL05
import Derived.Laws.StructEq
import Derived.RangeFuncIn
import Derived.RangeFuncRecord
open Int (ofNat)
open Array renaming getElem?_eq_some_iff->bH,replicate->dY
open Bool renaming false->ay,true->aC,and_eq_true->aI,not_true->xu,false_eq_true->nM,not_false->wS,or_eq_true->nI
open Go.Deferred renaming ofValue->jL
open Go.Frame renaming enter->gQ,finish_at->mG
open Go.Op renaming eqFields->pK
open Go.Oper renaming upon->xq
open Go.Region renaming schedule->oK
open Go.Result renaming andThen_ok->gy
open Go.Sem renaming run_bind->gK,run_ite->zD,run_pure->pI
open Go.Sx.Cq renaming v->kY
open Go.Sx.AA renaming any->rY
open Go.Sx.BK renaming all->dI,Ei->eH
open Go.Sx.CO renaming code->iG,nil->qX,loop->pJ
open Go.Sx.Tree renaming DZ->iJ
open Go.World renaming putObj_heap_other->jH
open Go.stepG renaming apply->gX
open List renaming replicate->dU,getElem?_cons_succ->jR,getElem?_cons_zero->jS,drop_zero->ji,contains_cons->tN,all_eq_true->dF,range->aZ,mem_append->bI
open Nat renaming blt->fV,ble->iq,le_refl->dn,le_trans->iM,lt_of_lt_of_le->jU,add_zero->jC
open Option renaming some->ak,none->aK,map_eq_some_iff->bW,isSome_iff_exists->fP
namespace Go.Sx
def adG(r:Option Rn)(id:Nat):Bool:=match r with|some (.id i)=>i==id|_=>ay
def aa9(r:Option Rn):Bool:=match r with|some .nil=>aC|_=>ay
mutual
def qS(hp:List (Nat×SB))(ρ:List (Nat×Rn)):SV->SV->Option (List BK)
 |_,.any=>ak [] |x,.sym k m=>match x with
  | .int k' n=>Dh (k'==k) (ak [.int n m]) | .sym k' n=>Dh (k'==k) (ak [.int n m]) |_=>aK
 |x,.test b=>match x with
  | .bool b'=>ak [.bool b' b] | .test b'=>ak [.bool b' b] |_=>aK
 |x,.gs id'=>match x with
  | .gs id=>Dh (adG (Ak ρ id') id) (ak []) | .A8=>Dh (aa9 (Ak ρ id')) (ak []) |_=>aK
 |x,.ptr id' off'=>match x with
  | .ptr id off=>Dh (adG (Ak ρ id') id&&off==off') (ak []) |_=>aK
 |x,.mp id'=>match x with
  | .mp id=>Dh (adG (Ak ρ id') id) (ak []) |_=>aK
 |x,.fn f' l'=>match x with
  | .fn f l=>Dh (f==f') (qL hp ρ l l') |_=>aK
 |x,.agg l'=>match x with
  | .agg l=>qL hp ρ l l' |_=>aK
 |x,.AQ l'=>match x with
  | .AQ l=>qL hp ρ l l' |_=>aK
 |x,.C9 t' y=>match x with
  | .C9 t z=>Dh (t==t') (qS hp ρ z y) |_=>aK
 |x,.sh s=>(D6 hp x).map fun s'=>[.sh s' s] |x,.GX st' n' g' i' off'=>match x with
  | .GX st n g i off=>Dh (st==st'&&off==off') (ak [.nat n n',.Mc g g',.nat i i']) |x=>Dh (off'==0) ((D6 hp x).map fun s=>[.sh s (.pt (g' i')),.nat (g' i').length st',.bool (fV i' n') aC])
 |x,.int k' n'=>match x with
  | .int k n=>Dh (k==k') (ak [.int n n']) | .sym k n=>Dh (k==k') (ak [.int n n']) |_=>aK
 |x,.bool b'=>match x with
  | .bool b=>Dh (b==b') (ak []) | .test b=>ak [.bool b b'] |_=>aK
 | .EZ,.EZ=>ak [] | .A8,.A8=>ak [] | .Gy,.Gy=>ak [] | .DT,.DT=>ak [] | .FY,.FY=>ak [] | .glob g,.glob g'=>Dh (g==g') (ak []) | .str l,.str l'=>ak [.str l l'] | .val v,.val v'=>ak [.val v v'] |_,_=>aK
def qL(hp:List (Nat×SB))(ρ:List (Nat×Rn)):List SV->List SV->Option (List BK)
 |[],[]=>ak [] |x::l,y::l'=>E5 (qS hp ρ x y) (qL hp ρ l l') |_,_=>aK
end
def qM(hp:List (Nat×SB))(ρ:List (Nat×Rn)):List (SV×SV)->List (SV×SV)->Option (List BK)
 |[],[]=>ak [] |(a,b)::l,(a',b')::l'=>E5 (qS hp ρ a a') (E5 (qS hp ρ b b') (qM hp ρ l l')) |_,_=>aK
def qB(hp:List (Nat×SB))(ρ:List (Nat×Rn))(id':Nat):SB->Option (List BK)
 | .box cells' e'=>match Ak ρ id' with
  |some (.id id)=>match Ak hp id with
   |some (.box cells e)=>Dh (e==e') (qL hp ρ cells cells') |_=>aK
  |_=>aK
 | .row cells' e' st' n'=>match Ak ρ id' with
  |some (.id id)=>match Ak hp id with
   |some (.row cells e st n)=>Dh (e==e'&&st==st'&&n==n') (qL hp ρ cells cells') |_=>aK
  |_=>aK
 | .own e' st' n' g'=>match Ak ρ id' with
  |some (.id id)=>match WM hp id with
   |some (e,st,n,g)=>Dh (e==e'&&st==st') (ak [.nat n n',.get n g g']) |_=>aK
  |some .nil=>ak [.nat n' 0] |none=>aK
 | .map es'=>match Ak ρ id' with
  |some (.id id)=>match Ak hp id with
   |some (.map es)=>qM hp ρ es es' |_=>aK
  |_=>aK
 | .fz _ _ _=>aK | .Rw _=>aK | .Hf _ _ _ _ _=>aK | .fm _ _ _ _ _=>aK | .pm vt' M' us'=>match us',Ak ρ id' with
  |[],ak (.id id)=>match Ak hp id with
   |some (.pm vt M us)=>match aa7 M us with
    |some N=>Dh (vt==vt') (ak [.mg N M']) |none=>aK
   |_=>aK
  |_,_=>aK
 | .buf e' l'=>match Ak ρ id' with
  |some (.id id)=>match Ak hp id with
   |some (.buf e l)=>Dh (e==e') (ak [.str l l']) |_=>aK
  |_=>aK
def qH(hp:List (Nat×SB))(ρ:List (Nat×Rn)):List (Nat×SB)->Option (List BK)
 |[]=>ak [] |(id',sb)::l=>E5 (qB hp ρ id' sb) (qH hp ρ l)
def qC(ρ:List (Nat×Rn))(c c':Core):Option (List BK):=Dh (anx c'.nx ρ) (E5 (qL c.hp ρ c.tm c'.tm) (qH c.hp ρ c'.hp))
section
variable{hp:List (Nat×SB)}{ρ:List (Nat×Rn)}
theorem WS{r:Option Rn}{id:Nat}(h:adG r id=aC):r=ak (.id id):=by
 unfold adG at h;split at h
 ·simp only[beq_iff_eq] at h;subst h;rfl
 ·cases h
theorem agp{r:Option Rn}(h:aa9 r=aC):r=ak .nil:=by
 unfold aa9 at h;split at h
 ·rfl
 ·cases h
mutual
theorem abb:∀{x:SV} (y:SV) {l:List BK},qS hp ρ x y=ak l->dI l->EW hp ρ x y
 |x,.any,l,h,ha=>by cases x<;>trivial |x,.sym k m,l,h,ha=>by
  cases x<;>simp only[qS] at h
  all_goals first
   |(cases h;done)
   |(obtain ⟨h1,h2⟩:=Bg h;cases h2;simp only[beq_iff_eq] at h1;subst h1;simp only[EW];exact ⟨trivial,ha.1⟩)
 |x,.test b,l,h,ha=>by
  cases x<;>simp only[qS] at h
  all_goals first
   |(cases h;done)
   |(cases h;simp only[EW];exact ha.1)
 |x,.gs id',l,h,ha=>by
  cases x<;>simp only[qS] at h
  all_goals first
   |(cases h;done)
   |(obtain ⟨h1,h2⟩:=Bg h;simp only[EW];exact WS h1)
   |(obtain ⟨h1,h2⟩:=Bg h;simp only[EW];exact agp h1)
 |x,.ptr id' off',l,h,ha=>by
  cases x<;>simp only[qS] at h
  all_goals first
   |(cases h;done)
   |(obtain ⟨h1,h2⟩:=Bg h;simp only[aI,beq_iff_eq] at h1;simp only[EW];exact ⟨WS h1.1,h1.2⟩)
 |x,.mp id',l,h,ha=>by
  cases x<;>simp only[qS] at h
  all_goals first
   |(cases h;done)
   |(obtain ⟨h1,h2⟩:=Bg h;simp only[EW];exact WS h1)
 |x,.fn f' l',l,h,ha=>by
  cases x<;>simp only[qS] at h
  all_goals first
   |(cases h;done)
   |(obtain ⟨h1,h2⟩:=Bg h;simp only[beq_iff_eq] at h1;simp only[EW];exact ⟨h1,OU l' h2 ha⟩)
 |x,.agg l',l,h,ha=>by
  cases x<;>simp only[qS] at h
  all_goals first
   |(cases h;done)
   |(simp only[EW];exact OU l' h ha)
 |x,.AQ l',l,h,ha=>by
  cases x<;>simp only[qS] at h
  all_goals first
   |(cases h;done)
   |(simp only[EW];exact OU l' h ha)
 |x,.C9 t' y,l,h,ha=>by
  cases x<;>simp only[qS] at h
  all_goals first
   |(cases h;done)
   |(obtain ⟨h1,h2⟩:=Bg h;simp only[beq_iff_eq] at h1;simp only[EW];exact ⟨h1,abb y h2 ha⟩)
 |x,.sh s,l,h,ha=>by
  have h0:∃s',D6 hp x=ak s'/\s'=s:=by
   cases x<;>simp only[qS,bW] at h
   all_goals
    obtain ⟨s',h1,rfl⟩:=h;exact ⟨s',h1,ha.1⟩
  obtain ⟨s',h1,rfl⟩:=h0;cases x<;>simp only[EW]<;>exact .inl h1
 |x,.int k n,l,h,ha=>by
  cases x<;>simp only[qS] at h
  all_goals first
   |(cases h;done)
   |(obtain ⟨h1,h2⟩:=Bg h;cases h2;simp only[beq_iff_eq] at h1;simp only[EW];exact ⟨h1,ha.1⟩)
 |x,.bool b,l,h,ha=>by
  cases x<;>simp only[qS] at h
  all_goals first
   |(cases h;done)
   |(obtain ⟨h1,h2⟩:=Bg h;simp only[beq_iff_eq] at h1;simp only[EW];exact h1)
   |(cases h;simp only[EW];exact ha.1)
 |x,.EZ,l,h,ha=>by cases x<;>simp only[qS] at h<;>first|(cases h;done) |(simp only[EW])
 |x,.A8,l,h,ha=>by cases x<;>simp only[qS] at h<;>first|(cases h;done) |(simp only[EW])
 |x,.Gy,l,h,ha=>by cases x<;>simp only[qS] at h<;>first|(cases h;done) |(simp only[EW])
 |x,.DT,l,h,ha=>by cases x<;>simp only[qS] at h<;>first|(cases h;done) |(simp only[EW])
 |x,.FY,l,h,ha=>by cases x<;>simp only[qS] at h<;>first|(cases h;done) |(simp only[EW])
 |x,.glob g,l,h,ha=>by
  cases x<;>simp only[qS] at h
  all_goals first
   |(cases h;done)
   |(obtain ⟨h1,h2⟩:=Bg h;simp only[beq_iff_eq] at h1;simp only[EW];exact h1)
 |x,.str s,l,h,ha=>by
  cases x<;>simp only[qS] at h
  all_goals first
   |(cases h;done)
   |(cases h;simp only[EW];exact ha.1)
 |x,.val s,l,h,ha=>by
  cases x<;>simp only[qS] at h
  all_goals first
   |(cases h;done)
   |(cases h;simp only[EW];exact ha.1)
 |x,.GX st n g i off,l,h,ha=>by
  have key:∀(q:Option Sh),Dh (off==0) (q.map fun s=>[BK.sh s (.pt (g i)),.nat (g i).length st,.bool (fV i n) aC])=ak l->q=ak (.pt (g i))/\off=0/\(g i).length=st/\i<n:=fun q h=>by
   obtain ⟨h1,h2⟩:=Bg h;simp only[bW] at h2;obtain ⟨s,h3,rfl⟩:=h2;have e1:s=.pt (g i):=ha.1;exact ⟨by rw[h3,e1],by simpa using h1,ha.2.1,Fj ha.2.2.1⟩
  cases x<;>simp only[qS] at h
  case GX=>obtain ⟨h1,h2⟩:=Bg h;cases h2;simp only[aI,beq_iff_eq] at h1;simp only[EW];exact ⟨h1.1,ha.1,ha.2.1,ha.2.2.1,h1.2⟩
  all_goals
   simp only[EW];exact key _ h
 |x,.gp id st i off,l,h,ha=>by cases x<;>simp only[qS] at h<;>cases h |x,.ev id,l,h,ha=>by cases x<;>simp only[qS] at h<;>cases h |x,.vw id n,l,h,ha=>by cases x<;>simp only[qS] at h<;>cases h
theorem OU:∀{l:List SV} (l':List SV) {q:List BK},qL hp ρ l l'=ak q->dI q->leL hp ρ l l'
 |[],[],_,_,_=>trivial |x::l,y::l',q,h,ha=>by
  simp only[qL] at h;obtain ⟨a,b,h1,h2,rfl⟩:=BN h;exact ⟨abb y h1 (eH ha).1,OU l' h2 (eH ha).2⟩
 |[],_::_,_,h,_=>by simp[qL] at h |_::_,[],_,h,_=>by simp[qL] at h
end
theorem anC:∀{l l':List (SV×SV)} {q:List BK},qM hp ρ l l'=ak q->dI q->leM hp ρ l l'
 |[],[],_,_,_=>trivial |(a,b)::l,(a',b')::l',q,h,ha=>by
  simp only[qM] at h;obtain ⟨q1,q2,h1,h2,rfl⟩:=BN h;obtain ⟨q3,q4,h3,h4,rfl⟩:=BN h2;obtain ⟨a1,a2⟩:=eH ha;obtain ⟨a3,a4⟩:=eH a2;exact ⟨abb a' h1 a1,abb b' h3 a3,anC h4 a4⟩
 |[],_::_,_,h,_=>by simp[qM] at h |_::_,[],_,h,_=>by simp[qM] at h
theorem anD{id':Nat}{sb:SB}{q:List BK}(h:qB hp ρ id' sb=ak q)(ha:dI q):leB hp ρ id' sb:=by
 cases sb with
 |box cells' e'=>
  simp only[qB] at h;simp only[leB];split at h
  ·rename_i id hr
   simp only[hr];split at h
   ·rename_i cells e hl
    simp only[hl];obtain ⟨h1,h2⟩:=Bg h;exact ⟨by simpa using h1,OU _ h2 ha⟩
   ·cases h
  ·cases h
 |row cells' e' st' n'=>
  simp only[qB] at h;simp only[leB];split at h
  ·rename_i id hr
   simp only[hr];split at h
   ·rename_i cells e st n hl
    simp only[hl];obtain ⟨h1,h2⟩:=Bg h;simp only[aI,beq_iff_eq] at h1;exact ⟨h1.1.1,h1.1.2,h1.2,OU _ h2 ha⟩
   ·cases h
  ·cases h
 |own e' st' n' g'=>
  simp only[qB] at h;simp only[leB];split at h
  ·rename_i id hr
   simp only[hr];split at h
   ·rename_i e st n g hl
    simp only[hl];obtain ⟨h1,h2⟩:=Bg h;cases h2;simp only[aI,beq_iff_eq] at h1;exact ⟨h1.1,h1.2,ha.1,ha.2.1⟩
   ·cases h
  ·rename_i hr
   simp only[hr];cases h;exact ha.1
  ·cases h
 |map es'=>
  simp only[qB] at h;simp only[leB];split at h
  ·rename_i id hr
   simp only[hr];split at h
   ·rename_i es hl
    simp only[hl];exact anC h ha
   ·cases h
  ·cases h
 |fz st n g=>simp[qB] at h |Rw l=>simp[qB] at h |Hf e st n g m=>simp[qB] at h |fm k M fs us t=>simp[qB] at h |pm vt' M' us'=>
  simp only[qB] at h;split at h
  ·rename_i id hr
   split at h
   ·rename_i vt M us hl
    split at h
    ·rename_i N h1
     obtain ⟨h2,h3⟩:=Bg h;cases h3;simp only[leB,hr,hl];have e:N=M':=ha.1;rw[e] at h1;exact ⟨trivial,by simpa using h2,h1⟩
    ·cases h
   ·cases h
  ·cases h
 |buf e' l'=>
  simp only[qB] at h;split at h
  ·rename_i id hr
   split at h
   ·rename_i e l hl
    obtain ⟨h1,h2⟩:=Bg h;cases h2;simp only[leB,hr,hl];exact ⟨by simpa using h1,ha.1⟩
   ·cases h
  ·cases h
theorem anE:∀{l:List (Nat×SB)} {q:List BK},qH hp ρ l=ak q->dI q->leH hp ρ l
 |[],_,_,_=>trivial |(id',sb)::l,q,h,ha=>by
  simp only[qH] at h;obtain ⟨a,b,h1,h2,rfl⟩:=BN h;exact ⟨anD h1 (eH ha).1,anE h2 (eH ha).2⟩
theorem aiO{c c':Core}{q:List BK}(h:qC ρ c c'=ak q)(ha:dI q):leC ρ c c':=by
 unfold qC at h;obtain ⟨h1,h2⟩:=Bg h;obtain ⟨a,b,h3,h4,rfl⟩:=BN h2;exact ⟨OU _ h3 (eH ha).1,anE h4 (eH ha).2,h1⟩
end
inductive Fe where
 |ret (s:Sh)
 |at_ (l:List BK)
def anF:It->It->Bool
 | .code p,.code q=>p==q | .inBlock i,.inBlock j=>i==j | .reg p l,.reg q m=>p==q&&l==m | .XR,.XR=>aC |_,_=>ay
def Jm:List It->List It->Bool
 |[],[]=>aC |x::l,y::m=>anF x y&&Jm l m |_,_=>ay
theorem anG{x y:It}(h:anF x y=aC):x=y:=by
 cases x<;>cases y<;>simp[anF] at h<;>simp_all
theorem MX:∀{l m:List It},Jm l m=aC->l=m
 |[],[],_=>rfl |x::l,y::m,h=>by
  simp only[Jm,aI] at h;rw[anG h.1,MX h.2]
 |[],_::_,h=>by simp[Jm] at h |_::_,[],h=>by simp[Jm] at h
structure Fr where
 g:Nat
 td:List It
 tm:List SV
inductive abd where
 |fin (v:SV) (c:Core)
 |stop (g:Nat) (td:List It) (c:Core) (stk:List Fr)
def Qz(C:Ctx)(fn:Func)(td:List It)(c:Core):Option (Nat×Func×List SV):=
 match td with
 | .reg p (i::_)::_=>match Ba (Az fn) p with
  | .region _ ops _=>match opAt ops.toList i with
   |some o=>match Og ops.toList c.tm o with
    | .yes=>match o.op with
     | .call k=>match k.callee with
      | .value f=>match BI c.tm f with
       | .fn g cs=>match C.spec g with
        |some _=>aK |none=>match C.fns.get g with
         |some fn'=>bif iq (k.args.toList.map (BI c.tm)++cs).length fn'.ntmps&&fn'.body.isSome then ak (g,fn',k.args.toList.map (BI c.tm)++cs) else aK |none=>aK
       |_=>aK
      |_=>aK
     |_=>aK
    |_=>aK
   |none=>aK
  |_=>aK
 |_=>aK
def holdB(hold:Nat->Bool)(fn:Func)(td:List It)(c:Core):Bool:=
 match td with
 | .reg p (i::_)::_=>match Ba (Az fn) p with
  | .region _ ops _=>match opAt ops.toList i with
   |some o=>match o.op with
    | .call k=>match k.callee with
     | .value f=>match BI c.tm f with
      | .fn g _=>hold g |_=>ay
     |_=>ay
    |_=>ay
   |none=>ay
  |_=>ay
 |_=>ay
def Sm(C:Ctx)(f:Fr)(v:SV)(c:Core):Option (List It×Core):=
 match C.fns.get f.g with
 |some fn=>match f.td with
  | .reg p (i::r)::k=>match Ba (Az fn) p with
   | .region _ ops _=>ak (.reg p r::k,{c with tm:=Q9 f.tm ((opAt ops.toList i).bind (·.dst)) v})
   |_=>aK
  |_=>aK
 |none=>aK
def Zg(C:Ctx)(hold:Nat->Bool)(m:Nat):Nat->Nat->List It->Core->List Fr->Tree abd
 |0,g,td,c,stk=>.leaf (.stop g td c stk) |n+1,g,td,c,stk=>match C.fns.get g with
  |none=>.fail |some fn=>bif holdB hold fn td c then .leaf (.stop g td c stk) else match Qz C fn td c with
   |some r=>Zg C hold m n r.1 [.code []] {c with tm:=r.2.2++dU (r.2.1.ntmps - r.2.2.length) .any} ({g,td,tm:=c.tm}::stk)
   |none=>(RQ C (MR C (run C m ay)) aC g fn td c).bind fun s=>match s with
    | .go td c=>Zg C hold m n g td c stk | .halt td c=>.leaf (.stop g td c stk) | .done v c=>match stk with
     |[]=>.leaf (.fin v c) |f::stk=>match Sm C f v c with
      |some r=>Zg C hold m n f.g r.1 r.2 stk |none=>.fail
def base(g:Nat):Frame:={(default:Frame) with fn:=g,kind:=.normal}
def Gt(C:Ctx)(H:Mem)(E:Env):List Fr->List Frame->Prop
 |[],[]=>True |f::s,mf::ms=>(∃fn a items,C.fns.get f.g=ak fn/\AA H E f.tm a.tmps.toList/\a.defers=[]/\CO (Az fn) f.td items/\mf=(base f.g).at a items)/\Gt C H E s ms |_,_=>False
abbrev Hp:=Nat->Option Obj
def OV(R:Hp->Prop)(K:Kx)(H:Mem)(E:Env)(w:World):Prop:=
 ∃h:Hp,R h/\∀b o,h b=ak o->w.heap[b]?=ak o/\H b=aK/\(∀i,bk E i≠ak b)/\(K.w0.heap.size<=b\/K.own b)
def emp:Hp->Prop:=fun _=>True
def Ri(g:Nat):List Fr->Nat
 |[]=>g |f::s=>Ri f.g s
def Bz(P:Program)(C:Ctx)(K:Kx)(g:Nat)(td:List It)(c:Core)(stk:List Fr)(R:Hp->Prop)(φ:Sh->Prop):Prop:=
 ∀(H:Mem) (E:Env) (w:World) (a:Act) (items:List Item) (ms cs:List Frame) (fn:Func),C.fns.get g=ak fn->St C K H E w c a->CO (Az fn) td items->Gt C H E stk ms->OV R K H E w->
  ∃(a':Act) (w':World) (v:Value) (s:Sh) (H':Mem) (todo:List Item) (fn0:Func),C.fns.get (Ri g stk)=ak fn0/\Steps P (lone ((base g).at a items) (ms++cs) w) (lone {(base (Ri g stk)).at a' todo with mode:=.returning} cs w')/\
   a'.defers=[]/\φ s/\Ew K.H0 K.w0 s v H' w'/\(results fn0 a'.tmps).run P w'=.ok v w'
section
variable{P:Program}{C:Ctx}{K:Kx}{H H' OQ H0:Mem}{E E' OT E1:Env}{w w' w'' w0:World}
theorem Gt.le(hH:H.le H')(hE:E.le E'):∀{s:List Fr} {ms:List Frame},Gt C H E s ms->Gt C H' E' s ms
 |[],[],_=>trivial |_::_,_::_,⟨⟨fn,a,items,h1,h2,h3⟩,h4⟩=>⟨⟨fn,a,items,h1,h2.le hH hE,h3⟩,Gt.le hH hE h4⟩ |[],_::_,h=>h.elim |_::_,[],h=>h.elim
def Rx(H:Mem)(E:Env)(w:World)(hp:List (Nat×SB)):Kx:=⟨w,fun b=>∃id sb,Ak hp id=ak sb/\Bd E id sb=ak b,H⟩
theorem GI.Rx{K1 K2:Kx}{id:Nat}{sb:SB}(h:GI K1 H E w id sb)(hm:∀b,Bd E id sb=ak b->Mine K1 H b->Mine K2 H b):GI K2 H E w id sb:=by
 cases sb with
 |box cells elem=>obtain ⟨b,cs,he,h1,h2,h3⟩:=h;exact ⟨b,cs,he,h1,h2,hm b (by simp[Bd,he,AL]) h3⟩ |row cells elem st n=>obtain ⟨v,xs,he,h1,h2,h3⟩:=h;exact ⟨v,xs,he,h1,h2,fun b hb=>hm b (by simp[Bd,he,hb]) (h3 b hb)⟩ |own elem st n g=>obtain ⟨v,xs,he,h1,h2,h3⟩:=h;exact ⟨v,xs,he,h1,h2,fun b hb=>hm b (by simp[Bd,he,hb]) (h3 b hb)⟩ |fz st n g=>exact h |map es=>obtain ⟨b,ms,clk,he,h1,h2,h3⟩:=h;exact ⟨b,ms,clk,he,h1,h2,hm b (by simp[Bd,he,AL]) h3⟩ |Rw l=>exact h |Hf elem st n g more=>obtain ⟨v,xs,ys,he,h1,h2,h3,h4,h5,h6⟩:=h;exact ⟨v,xs,ys,he,h1,h2,h3,h4,h5,fun b hb=>hm b (by simp[Bd,he,hb]) (h6 b hb)⟩ |fm k M fs us tag=>obtain ⟨b,ms,clk,fv,uv,he,h1,h2,h3,h4,h5,h6,h7⟩:=h;exact ⟨b,ms,clk,fv,uv,he,h1,h2,h3,h4,h5,h6,hm b (by simp[Bd,he,AL]) h7⟩ |pm vt M us=>obtain ⟨b,ms,clk,uv,he,h1,h2,h3,h4,h5,h7⟩:=h;exact ⟨b,ms,clk,uv,he,h1,h2,h3,h4,h5,hm b (by simp[Bd,he,AL]) h7⟩ |buf e l=>obtain ⟨v,he,h1,h3⟩:=h;exact ⟨v,he,h1,fun b hb=>hm b (by simp[Bd,he,hb]) (h3 b hb)⟩
theorem agq{hp:List (Nat×SB)}(hh:AO K H E w hp)(hw:Eh K H w):AO (Rx H E w hp) H E w hp/\Eh (Rx H E w hp) H w:=
 ⟨⟨fun id sb hl=>(hh.ent id sb hl).Rx fun _ hb hm=>⟨hm.1,.inr ⟨id,sb,hl,hb⟩⟩,hh.Gq⟩,
  ⟨rfl,rfl,rfl,dn _,fun _ _ _=>rfl,hw.on,fun _ _ h=>h,fun _ h=>.inl h⟩⟩
theorem abe{hp:List (Nat×SB)}(hh:AO K H E w hp)(hw:Eh K H w){b:Nat}(h:w.heap.size<=b\/(Rx H E w hp).own b):K.w0.heap.size<=b\/K.own b:=by
 rcases h with h|⟨id,sb,h1,h2⟩
 ·exact .inl (iM hw.size h)
 ·exact ((hh.ent _ _ h1).lt h2).2.2
theorem ags{hp hp':List (Nat×SB)}(hh:AO K H E w hp)(hw:Eh K H w)(hh':AO (Rx H E w hp) H' E' w' hp')(hw':Eh (Rx H E w hp) H' w'):AO K H' E' w' hp'/\Eh K H' w':=by
 refine ⟨⟨fun id sb hl=>(hh'.ent id sb hl).Rx fun b hb hm=>⟨hm.1,abe hh hw hm.2⟩,hh'.Gq⟩,⟨hw'.os.trans hw.os,hw'.tape.trans hw.tape,hw'.output.trans hw.output,iM hw.size hw'.size,fun b hb hn=>?_,hw'.on,fun b o h=>hw'.le b o (hw.le b o h),fun b hb=>?_⟩⟩
 ·rw[hw'.kept b (by have:=hw.size;exact jU hb this) fun ho=>?_]
  ·exact hw.kept b hb hn
  ·rcases abe hh hw (.inr ho) with h|h
   ·omega
   ·exact hn h
 ·rcases hw'.fresh b hb with h|h
  ·exact hw.fresh b h
  ·exact .inr (abe hh hw h)
theorem St.re{c:Core}{a:Act}(st:St C K H E w c a):St C (Rx H E w c.hp) H E w c a:=
 ⟨st.den,(agq st.hp st.BZ).1,(agq st.hp st.BZ).2,st.free,st.gl,st.defers⟩
theorem St.un{c c':Core}{a a':Act}(st:St C K H E w c a)(st':St C (Rx H E w c.hp) H' E' w' c' a'):St C K H' E' w' c' a':=
 ⟨st'.den,(ags st.hp st.BZ st'.hp st'.BZ).1,(ags st.hp st.BZ st'.hp st'.BZ).2,st'.free,st'.gl,st'.defers⟩
theorem OV.keep{R:Hp->Prop}{c c':Core}{a a':Act}(h:OV R K H E w)(st:St C K H E w c a)(st':St C (Rx H E w c.hp) H' E' w' c' a')(mv:Mv (Rx H E w c.hp) H E w c H' E' w' c'):OV R K H' E' w':=by
 obtain ⟨hh,hr,hb⟩:=h;refine ⟨hh,hr,fun b o e=>?_⟩;obtain ⟨h1,h2,h3,h4⟩:=hb b o e;have hlt:=(bH.1 h1).1;have hno:¬(Rx H E w c.hp).own b:=fun ⟨id,sb,_,q⟩=>h3 id (GL q);refine ⟨by rw[st'.BZ.kept b hlt hno];exact h1,?_,fun i hi=>?_,h4⟩
 ·cases hx:H' b with
  |none=>rfl |some o'=>
   rcases st'.BZ.fresh b (by rw[hx];simp) with q|q|q
   ·exact (q h2).elim
   ·have q:w.heap.size<=b:=q;omega
   ·exact (hno q).elim
 ·cases he:E i with
  |none=>
   rcases mv.Om i b he hi with q|⟨id,_,q⟩
   ·omega
   ·exact h3 id q
  |some v=>
   have:bk E' i=bk E i:=by simp[bk,he,mv.ML _ _ he]
   rw[this] at hi;exact h3 i hi
def akl(P:Program)(C:Ctx)(K:Kx)(R:Hp->Prop)(φ:Sh->Prop):abd->Prop
 | .fin v c=>∃s,finish c v=ak s/\φ s | .stop g td c stk=>Bz P C K g td c stk R φ
theorem Le{g:Nat}{fn:Func}{body:Code}(hP:P.funcs[g]?=ak fn)(hb:fn.body=ak body)(args:Array Value):
  gQ P g args .normal=(base g).at {tmps:=args++dY (fn.ntmps - args.size) undef,defers:=[]} [.code body]:=by
 simp[gQ,Frame.at,hP,hb,base]
theorem KF(hC:BG P C)(hF:BP P C){hold:Nat->Bool}{m:Nat}{R:Hp->Prop}{φ:Sh->Prop}:∀{n g:Nat} {td:List It} {c:Core} {stk:List Fr},(Zg C hold m n g td c stk).All (akl P C (K0 H0 w0) R φ)->Bz P C (K0 H0 w0) g td c stk R φ
 |0,g,td,c,stk,h=>h |n+1,g,td,c,stk,h=>by
  intro H E w a items ms cs fn hfn st hi hs hx;simp only[Zg,hfn] at h;cases aiP:holdB hold fn td c<;>simp only[aiP,cond_true,cond_false] at h
  rotate_left
  ·exact h H E w a items ms cs fn hfn st hi hs hx
  split at h
  ·
   rename_i r hr;unfold Qz at hr;split at hr
   ·rename_i p i rest k
    split at hr
    ·rename_i rid ops dr hcode
     split at hr
     ·rename_i o ho
      split at hr
      ·rename_i hwant
       split at hr
       ·rename_i kk hop
        split at hr
        ·rename_i f WT
         split at hr
         ·rename_i g2 caps hev
          split at hr
          ·cases hr
          ·rename_i hspec
           split at hr
           ·rename_i FC hfn2
            cases hb:(iq (kk.args.toList.map (BI c.tm)++caps).length FC.ntmps&&FC.body.isSome)<;>simp only[hb,cond_true,cond_false] at hr
            ·cases hr
            cases hr;simp only[aI] at hb;obtain ⟨body2,JW⟩:=fP.1 hb.2;have ih:=KF hC hF h;have hP2:=hC.fn g2 FC hfn2;cases hi with
            |reg p l id ops2 hc hk=>
             rw[hc] at hcode;cases hcode;rename_i k';have df:=BA (H:=H) (E:=E) st.den f;rw[hev] at df;obtain ⟨vs,ef,hvs⟩:=df;have hargs:=(Nz st.den kk.args.toList).append hvs;have ho':ops[i]?=ak o:=by simpa[opAt] using ho
             have hw':=Hw (ops:=ops) st.den o;rw[hwant] at hw';have hent:=hF.en g2 (.inr (by rw[hfn2];rfl));have hrun:(execOp a.eval o).run P w=.ok (.enter g2 (kk.args.map a.eval++vs)) w:=by
              simp only[execOp,hop,resolve,WT];simp[jL,ef,invoke,Ih hent]
             have hg:=stepG_op (P:=P) (b:=base g) (k:=k') (cs:=ms++cs) (w:=w) (rest:=rest) ho' hw';have henter:step P (lone ((base g).at a (.inRegion ops (i::rest)::k')) (ms++cs) w)=.next (lone (gQ P g2 (kk.args.map a.eval++vs) .normal) ((base g).at a (.inRegion ops (i::rest)::k')::(ms++cs)) w):=
              step_lone_go (by rw[hg];simp[gX,hrun,Frame.at])
             rw[Le hP2 JW] at henter;have hl:=hargs.length;have hlen:(kk.args.map a.eval++vs).size=(kk.args.toList.map (BI c.tm)++caps).length:=by
              rw[<-hl];simp
             have st2:St C (K0 H0 w0) H E w {c with tm:=(kk.args.toList.map (BI c.tm)++caps)++dU (FC.ntmps - (kk.args.toList.map (BI c.tm)++caps).length) .any} {tmps:=(kk.args.map a.eval++vs)++dY (FC.ntmps - (kk.args.map a.eval++vs).size) undef,defers:=[]}:=by
              refine ⟨?_,st.hp,st.BZ,st.free,st.gl,rfl⟩;have:((kk.args.map a.eval++vs)++dY (FC.ntmps - (kk.args.map a.eval++vs).size) undef).toList=(kk.args.toList.map a.eval++vs.toList)++dU (FC.ntmps - (kk.args.toList.map (BI c.tm)++caps).length) undef:=by
               rw[hlen];simp
              simp only[this];exact hargs.append (rY _ _ (by simp))
             have hit2:CO (Az FC) [.code []] [.code body2]:=by
              have:=iG (body:=Az FC) [] qX;have he:Ba (Az FC) []=body2:=by simp[Ba,Az,JW]
              rwa[he] at this
             have hs2:Gt C H E ({g,td:=.reg p (i::rest)::k,tm:=c.tm}::stk) ((base g).at a (.inRegion ops (i::rest)::k')::ms):=
              ⟨⟨fn,a,_,hfn,st.den,st.defers,.reg p (i::rest) _ ops hc hk,rfl⟩,hs⟩
             obtain ⟨a',w',v,s,H',todo,fn0,q1,q2,q3⟩:=ih H E w _ _ (_::ms) cs FC hfn2 st2 hit2 hs2 hx;exact ⟨a',w',v,s,H',todo,fn0,q1,.head henter q2,q3⟩
           ·cases hr
         ·cases hr
        ·cases hr
       ·cases hr
      ·cases hr
     ·cases hr
    ·cases hr
   ·cases hr
  ·have hK:=TW (K:=Rx H E w c.hp) hC hF (TY hC hF m)
   obtain ⟨sig,h1,h2⟩:=X6 hC hF hK (iJ h) st.re hi (base g) (ms++cs);cases sig with
   |go Gj c'=>
    obtain ⟨a',w',H',E',items',q1,q2,q3,q4⟩:=h2;obtain ⟨a2,w2,v,s,H2,todo,fn0,r1,r2,r3⟩:=KF hC hF h1 H' E' w' a' items' ms cs fn hfn (st.un q2) q4 (hs.le q3.IX q3.ML) (hx.keep st q2 q3);exact ⟨a2,w2,v,s,H2,todo,fn0,r1,q1.trans r2,r3⟩
   |halt Gj c'=>
    obtain ⟨a',w',H',E',items',q1,q2,q3,q4⟩:=h2;obtain ⟨a2,w2,v,s,H2,todo,fn0,r1,r2,r3⟩:=h1 H' E' w' a' items' ms cs fn hfn (st.un q2) q4 (hs.le q3.IX q3.ML) (hx.keep st q2 q3);exact ⟨a2,w2,v,s,H2,todo,fn0,r1,q1.trans r2,r3⟩
   |done sv c'=>
    obtain ⟨a',w',H',E',v,todo,q1,q2,q3,q4,q5⟩:=h2;cases stk with
    |nil=>
     cases ms with
     |cons _ _=>exact hs.elim |nil=>
      obtain ⟨s,e1,e2⟩:=h1;obtain ⟨H2,r⟩:=Qx (st.un q2) e1 q4;exact ⟨a',w',v,s,H2,todo,fn,hfn,q1,q2.defers,e2,r,q5⟩
    |cons f stk=>
     cases ms with
     |nil=>exact hs.elim |cons mf ms=>
      simp only at h1;split at h1
      ·rename_i r hr
       unfold Sm at hr;split at hr
       ·rename_i OW agt
        split at hr
        ·rename_i p i rest k htd
         split at hr
         ·rename_i rid ops dr hcode
          cases hr;obtain ⟨⟨fn3,a3,akm,g1,g2,g3,g4,g5⟩,hs'⟩:=hs.le q3.IX q3.ML;rw[agt] at g1;cases g1;rw[htd] at g4;cases g4 with
          |reg p l id ops2 hc hk=>
           rw[hc] at hcode;cases hcode;rename_i k';subst g5;have hleave:step P (lone {(base g).at a' todo with mode:=.returning} ((base f.g).at a3 (.inRegion ops (i::rest)::k')::(ms++cs)) w')=.next (lone ((base f.g).at (a3.put ((opAt ops.toList i).bind (·.dst)) v) (.inRegion ops rest::k')) (ms++cs) w'):=by
            rw[step_leave_returned (v:=v) ⟨rfl,q2.defers,rfl,fn,hC.fn g fn hfn,q5⟩,mG];simp[opAt]
           have st3:St C (K0 H0 w0) H' E' w' {c' with tm:=Q9 f.tm ((opAt ops.toList i).bind (·.dst)) sv} (a3.put ((opAt ops.toList i).bind (·.dst)) v):=
            ⟨JV (c:={c' with tm:=f.tm}) g2 _ q4,(st.un q2).hp,(st.un q2).BZ,q2.free,q2.gl,by rw[put_defers];exact g3⟩
           obtain ⟨a2,w2,v2,s,H2,abf,fn0,r1,r2,r3⟩:=KF hC hF h1 H' E' w' _ _ ms cs OW agt st3 (.reg p rest _ ops hc hk) hs' (hx.keep st q2 q3);exact ⟨a2,w2,v2,s,H2,abf,fn0,r1,(q1.trans (.one hleave)).trans r2,r3⟩
         ·cases hr
        ·cases hr
       ·cases hr
      ·exact h1.elim
end
structure N9 where
 g:Nat
 td:List It
 c:Core
 stk:List Fr
mutual
def coll:SV->SV->List (Nat×Rn)
 | .gs i,.gs j=>[(i,.id j)] | .gs i,.A8=>[(i,.nil)] | .ptr i _,.ptr j _=>[(i,.id j)] | .mp i,.mp j=>[(i,.id j)] | .fn _ l,.fn _ m=>ND l m | .agg l,.agg m=>ND l m | .AQ l,.AQ m=>ND l m | .C9 _ x,.C9 _ y=>coll x y |_,_=>[]
def ND:List SV->List SV->List (Nat×Rn)
 |x::l,y::m=>coll x y++ND l m |_,_=>[]
end
def anH:List (SV×SV)->List (SV×SV)->List (Nat×Rn)
 |(a,b)::l,(c,d)::m=>coll a c++coll b d++anH l m |_,_=>[]
def anI:Option SB->Option SB->List (Nat×Rn)
 |some (.box l _),ak (.box m _)=>ND l m |some (.row l _ _ _),ak (.row m _ _ _)=>ND l m |some (.map l),ak (.map m)=>anH l m |_,_=>[]
def anJ:List Fr->List Fr->List (Nat×Rn)
 |f::s,f'::s'=>ND f.tm f'.tm++anJ s s' |_,_=>[]
def infer(hp' hp:List (Nat×SB)):Nat->List (Nat×Rn)->List (Nat×Rn)->List (Nat×Rn)
 |0,_,acc=>acc |_,[],acc=>acc |n+1,(i,r)::t,acc=>match Ak acc i with
  |some _=>infer hp' hp n t acc |none=>match r with
   | .id j=>infer hp' hp n (anI (Ak hp' i) (Ak hp j)++t) ((i,r)::acc) | .nil=>infer hp' hp n t ((i,r)::acc)
def abg(hp:List (Nat×SB))(ρ:List (Nat×Rn)):List Fr->List Fr->Option (List BK)
 |[],[]=>ak [] |f::s,f'::s'=>Dh (f.g==f'.g&&Jm f.td f'.td) (E5 (qL hp ρ f.tm f'.tm) (abg hp ρ s s')) |_,_=>aK
inductive ED where
 |ret (s:Sh)
 |at_ (k:Nat) (l:List BK)
def Sr:List Fr->List Fr->Bool
 |[],[]=>aC |f::s,f'::s'=>f.g==f'.g&&Jm f.td f'.td&&Sr s s' |_,_=>ay
def N9.rn(t:N9)(c:Core)(stk:List Fr):List (Nat×Rn):=infer t.c.hp c.hp 4000 (ND t.c.tm c.tm++anJ t.stk stk) []
def WU(g:Nat)(td:List It)(c:Core)(stk:List Fr):Nat->List N9->Tree ED
 |_,[]=>.fail |k,t::r=>bif g==t.g&&Jm td t.td&&Sr stk t.stk then match E5 (qC (t.rn c stk) c t.c) (abg c.hp (t.rn c stk) stk t.stk) with
   |some l=>.leaf (.at_ k l) |none=>.fail
  else WU g td c stk (k+1) r
def anK(ts:List N9):abd->Tree ED
 | .fin v c=>match finish c v with
  |some s=>.leaf (.ret s) |none=>.fail
 | .stop g td c stk=>WU g td c stk 0 ts
def Bj(C:Ctx)(hold:Nat->Bool)(m n g:Nat)(td:List It)(c:Core)(stk:List Fr)(ts:List N9):Tree ED:=(Zg C hold m n g td c stk).bind (anK ts)
def Jo(P:Program)(C:Ctx)(K:Kx)(ts:List N9)(R:Hp->Prop)(φ:Sh->Prop):ED->Prop
 | .ret s=>φ s | .at_ k l=>dI l/\∃t,ts[k]?=ak t/\Bz P C K t.g t.td t.c t.stk R φ
section
variable{P:Program}{C:Ctx}{K:Kx}{H H' OQ H0:Mem}{E E' OT E1:Env}{w w' w'' w0:World}
def abh(hp:List (Nat×SB))(ρ:List (Nat×Rn)):List Fr->List Fr->Prop
 |[],[]=>True |f::s,f'::s'=>f.g=f'.g/\f.td=f'.td/\leL hp ρ f.tm f'.tm/\abh hp ρ s s' |_,_=>False
theorem abj{hp:List (Nat×SB)}{ρ:List (Nat×Rn)}:∀{s s':List Fr} {q:List BK},abg hp ρ s s'=ak q->dI q->abh hp ρ s s'
 |[],[],_,_,_=>trivial |f::s,f'::s',q,h,ha=>by
  simp only[abg] at h;obtain ⟨h1,h2⟩:=Bg h;obtain ⟨a,b,h3,h4,rfl⟩:=BN h2;simp only[aI,beq_iff_eq] at h1;exact ⟨h1.1,MX h1.2,OU _ h3 (eH ha).1,abj h4 (eH ha).2⟩
 |[],_::_,_,h,_=>by simp[abg] at h |_::_,[],_,h,_=>by simp[abg] at h
theorem Gt.weak{hp:List (Nat×SB)}{ρ:List (Nat×Rn)}(hh:AO K H E w hp):∀{s s':List Fr} {ms:List Frame},Gt C H E s ms->abh hp ρ s s'->Gt C H (F6 ρ E) s' ms
 |[],[],[],_,_=>trivial |f::s,f'::s',m::ms,⟨⟨fn,a,items,h1,h2,h3,h4,h5⟩,h6⟩,⟨e1,e2,e3,e4⟩=>
  ⟨⟨fn,a,items,by rw[<-e1];exact h1,Jb hh _ e3 h2,h3,by rw[<-e2];exact h4,by rw[<-e1];exact h5⟩,Gt.weak hh h6 e4⟩
 |[],[],_::_,h,_=>h.elim |_::_,_,[],h,_=>h.elim |[],_::_,_,_,h=>h.elim |_::_,[],_::_,_,h=>h.elim
theorem OV.weak{R:Hp->Prop}{ρ:List (Nat×Rn)}(h:OV R K H E w):OV R K H (F6 ρ E) w:=by
 obtain ⟨hh,h1,h2⟩:=h;refine ⟨hh,h1,fun b o e=>?_⟩;obtain ⟨a1,a2,a3,a4⟩:=h2 b o e;refine ⟨a1,a2,fun i=>?_,a4⟩;unfold bk F6;cases hr:Ak ρ i with
 |none=>simp |some r=>
  cases r with
  |id j=>exact a3 j |nil=>simp[AL]
theorem agu{hp:List (Nat×SB)}{ρ:List (Nat×Rn)}:∀{s s':List Fr} {g:Nat},abh hp ρ s s'->Ri g s'=Ri g s
 |[],[],_,_=>rfl |f::s,f'::s',_,⟨e1,_,_,e4⟩=>by simp only[Ri];rw[e1];exact agu e4 |[],_::_,_,h=>h.elim |_::_,[],_,h=>h.elim
theorem Zh{g:Nat}{td:List It}{c c':Core}{stk Jc:List Fr}{R:Hp->Prop}{φ:Sh->Prop}(ρ:List (Nat×Rn))(hle:leC ρ c c')(hs:abh c.hp ρ stk Jc)(h:Bz P C K g td c' Jc R φ):Bz P C K g td c stk R φ:=by
 intro H E w a items ms cs fn hfn st hi hst hx;have:=h H (F6 ρ E) w a items ms cs fn hfn (st.weak hle) hi (hst.weak st.hp hs) hx.weak;rw[agu hs] at this;exact this
theorem Vh{R:Hp->Prop}{φ:Sh->Prop}{ts:List N9}{g:Nat}{td:List It}{c:Core}{stk:List Fr}:∀{r:List N9} {k:Nat},(∀j,r[j]?=ts[k+j]?)->(WU g td c stk k r).All (Jo P C K ts R φ)->Bz P C K g td c stk R φ
 |[],_,_,h=>h.elim |t::r,k,hk,h=>by
  unfold WU at h;cases hb:(g==t.g&&Jm td t.td&&Sr stk t.stk)<;>simp only[hb,cond_true,cond_false] at h
  ·exact Vh (fun j=>by have:=hk (j+1);simp only[jR] at this;rw[this];congr 1;omega) h
  ·simp only[aI,beq_iff_eq] at hb
   obtain ⟨⟨h1,h2⟩,h3⟩:=hb;split at h
   ·rename_i l hl
    obtain ⟨a,b,q1,q2,rfl⟩:=BN hl;obtain ⟨hl,t',ht,hg⟩:=h;have:=hk 0;simp only[jS,jC] at this;rw[<-this] at ht;cases ht;have h2:=MX h2;subst h1 h2;exact Zh (t.rn c stk) (aiO q1 (eH hl).1) (abj q2 (eH hl).2) hg
   ·exact h.elim
theorem G5(hC:BG P C)(hF:BP P C){hold:Nat->Bool}{m n g:Nat}{td:List It}{c:Core}{stk:List Fr}{ts:List N9}{R:Hp->Prop}{φ:Sh->Prop}
  (h:(Bj C hold m n g td c stk ts).All (Jo P C (K0 H0 w0) ts R φ)):Bz P C (K0 H0 w0) g td c stk R φ:=by
 refine KF hC hF (hold:=hold) (m:=m) (n:=n) ((iJ h).mono fun o ho=>?_);cases o with
 |fin v c=>
  simp only[anK] at ho;split at ho
  ·rename_i s hs
   exact ⟨s,hs,ho⟩
  ·exact ho.elim
 |stop g td c stk=>exact Vh (k:=0) (fun j=>by simp) ho
theorem agv{g:Nat}{fn:Func}{p:List Nat}{k:List It}{x:Code}{c:Core}{stk:List Fr}{R:Hp->Prop}{φ:Sh->Prop}(hfn:C.fns.get g=ak fn)(hx:Ba (Az fn) p=.loop x)
  (h:Bz P C K g (.code (0::p)::.code p::k) c stk R φ):Bz P C K g (.code p::k) c stk R φ:=by
 intro H E w a items ms cs fn' hfn' st hi hs he;rw[hfn] at hfn';cases hfn';have h0:Ba (Az fn) (0::p)=x:=by simp[Ba,hx,child]
 cases hi with
 |code p hk=>
  have:=iG (0::p) (pJ p x hx hk);rw[h0] at this;rw[hx];obtain ⟨a2,w2,v,s,H',todo,fn0,r0,r1,r2⟩:=h H E w a _ ms cs fn hfn st this hs he;exact ⟨a2,w2,v,s,H',todo,fn0,r0,.head step_loop r1,r2⟩
 |loop p y hl hk=>
  rw[hx] at hl;cases hl;have:=iG (0::p) (pJ p x hx hk);rw[h0] at this;obtain ⟨a2,w2,v,s,H',todo,fn0,r0,r1,r2⟩:=h H E w a _ ms cs fn hfn st this hs he;exact ⟨a2,w2,v,s,H',todo,fn0,r0,.head step_inLoop r1,r2⟩
theorem WV:OV emp K H E w:=⟨fun _=>aK,trivial,fun _ _ h=>by cases h⟩
theorem JX(hC:BG P C){g:Nat}{fn:Func}{F:List Sh->Tree Sh}(hfn:C.fns.get g=ak fn)(hb:fn.body.isSome=aC)
  (h:∀(H:Mem) (w:World) (Bv:List Sh) (args:List Value) (φ:Sh->Prop),DX H Bv args->(F Bv).All φ->∃Ey:List Sh,DX H Ey args/\∃L,Bz P C (K0 H w) g [.code []] (Ap fn.ntmps Ey L) [] emp φ):AV P C.gls g F:=by
 intro H w Bv args φ hon hg hr hφ;obtain ⟨Ey,hr,L,hgo⟩:=h H w Bv args φ hr hφ;obtain ⟨body,hbody⟩:=fP.1 hb;have hP:=hC.fn g fn hfn;intro cs;let a:Act:={tmps:=args.toArray++dY (fn.ntmps - args.toArray.size) undef,defers:=[]}
 have hlen:=hr.length;have st:St C (K0 H w) H E0 w (Ap fn.ntmps Ey L) a:=by
  refine ⟨?_,⟨fun _ _ h=>by simp[Ap,Ak] at h,fun _ _ _ _ _ h=>by simp[Ap,Ak] at h⟩,⟨rfl,rfl,rfl,dn _,fun _ _ _=>rfl,hon,fun _ _ h=>h,fun _ h=>.inl h⟩,fun _ _ _=>rfl,hg,rfl⟩;have:a.tmps.toList=args++dU (fn.ntmps - Ey.length) undef:=by simp[a,hlen]
  rw[this];exact (Jv hr).append (rY _ _ (by simp))
 have hit:CO (Az fn) [.code []] [.code body]:=by
  have:=iG (body:=Az fn) [] qX;have he:Ba (Az fn) []=body:=by simp[Ba,Az,hbody]
  rwa[he] at this
 obtain ⟨a',w',v,s,H',todo,fn0,q0,q1,q2,q3,q4,q5⟩:=hgo H E0 w a [.code body] [] cs fn hfn st hit trivial WV;exact ⟨.returned v,w',_,⟨v,s,H',rfl,q3,q4⟩,by rw[Le hP hbody];exact q1,rfl,rfl,q2,rfl,fn,hP,by cases hfn.symm.trans q0;exact q5⟩
end
def WW:Code->Bool
 | .loop _=>aC |_=>ay
def aaj(fn:Func):List It->Option (List It)
 | .code p::k=>bif WW (Ba (Az fn) p) then ak (.code (0::p)::.code p::k) else aK |_=>aK
theorem GK{P:Program}{C:Ctx}{K:Kx}{g:Nat}{fn:Func}{td tb:List It}{c:Core}{stk:List Fr}{R:Hp->Prop}{φ:Sh->Prop}(hfn:C.fns.get g=ak fn)(hx:aaj fn td=ak tb)
  (h:Bz P C K g tb c stk R φ):Bz P C K g td c stk R φ:=by
 unfold aaj at hx;split at hx
 ·rename_i p k
  cases hb:WW (Ba (Az fn) p)<;>simp only[hb,cond_true,cond_false] at hx
  ·cases hx
  ·cases hx
   unfold WW at hb;split at hb
   ·rename_i x he
    exact agv hfn he h
   ·cases hb
 ·cases hx
def Gu(P:Program):List Field->Nat->List SV->Bool
 |[],_,[]=>aC
 |f::r,j,.int .i64 _::z=>f.name != "_" && f.offset==j&&(match P.underlying f.type with|some (.int .i64)=>aC|_=>ay)&&Gu P r (j+1) z
 |f::r,j,.bool _::z=>f.name != "_" && f.offset==j&&(match P.underlying f.type with|some .bool=>aC|_=>ay)&&Gu P r (j+1) z
 |_,_,_=>ay
def aeY(P:Program)(t:Nat)(z:List SV):Bool:=
 (match P.underlying t with|some (.struct fs)=>Gu P fs.toList 0 z|_=>ay) && !P.stoodInHeld t && !P.eqGuardType P.depth t
theorem adH{P:Program}{t:Nat}{k:IntKind}(hu:P.underlying t=ak (.int k))(xs:List Cq)(j:Nat)(n:Int)(hj:xs[j]?=ak (.i n))(w:World):
  (part t (xs.map kY).toArray j).run P w=.ok (.int .i64 n) w:=by
 have:(xs.map kY).toArray[j]?=ak (.int .i64 n):=by simp[hj,kY]
 simp[part,isAgg,run_underlying hu,this]
theorem abk{P:Program}{t:Nat}(hu:P.underlying t=ak .bool)(xs:List Cq)(j:Nat)(n:Bool)(hj:xs[j]?=ak (.b n))(w:World):
  (part t (xs.map kY).toArray j).run P w=.ok (.bool n) w:=by
 have:(xs.map kY).toArray[j]?=ak (.bool n):=by simp[hj,kY]
 simp[part,isAgg,run_underlying hu,this]
theorem abl{l:List Cq}{k:IntKind}{n:Int}{z:List SV}(h:Dl l (.int k n::z)=aC):∃a r,l=.i a::r/\Dl r z=aC:=by
 unfold Dl at h;split at h
 ·cases ‹SV.int k n::z=[]›
 ·rename_i e;cases e;exact ⟨_,_,rfl,h⟩
 ·rename_i e;cases e
 ·cases h
theorem Zi{l:List Cq}{n:Bool}{z:List SV}(h:Dl l (.bool n::z)=aC):∃a r,l=.b a::r/\Dl r z=aC:=by
 unfold Dl at h;split at h
 ·cases ‹SV.bool n::z=[]›
 ·rename_i e;cases e
 ·rename_i e;cases e;exact ⟨_,_,rfl,h⟩
 ·cases h
theorem abm{l:List Cq}(h:Dl l []=aC):l=[]:=by
 cases l with
 |nil=>rfl |cons a l=>cases a<;>simp[Dl] at h
theorem Ub{α:Type}{l:List α}{j:Nat}{a:α}{r:List α}(h:l.drop j=a::r):l[j]?=ak a/\l.drop (j+1)=r:=by
 have h1:l[j]?=ak a:=by
  have:=congrArg (fun x=>x[0]?) h;simpa using this
 refine ⟨h1,?_⟩;have:=congrArg List.tail h;rw[List.tail_drop] at this;exact this
theorem QA{P:Program}(d:Nat)(w:World)(xs ys:List Cq):∀(fs:List Field) (j:Nat) (z:List SV),Gu P fs j z=aC->Dl (xs.drop j) z=aC->Dl (ys.drop j) z=aC->
  (pK (d+1) (xs.map kY).toArray (ys.map kY).toArray fs).run P w=.ok (decide (xs.drop j=ys.drop j)) w
 |[],j,z,h,h1,h2=>by
  cases z with
  |cons a z=>simp[Gu] at h |nil=>rw[abm h1,abm h2];simp[pK]
 |f::fs,j,z,h,h1,h2=>by
  cases z with
  |nil=>simp[Gu] at h |cons a0 z=>
  cases a0;case int k n=>
   cases k;case i64=>
    unfold Gu at h;simp only[aI,bne_iff_ne,ne_eq,beq_iff_eq] at h;obtain ⟨⟨⟨a1,a2⟩,a3⟩,a4⟩:=h;have hu:P.underlying f.type=ak (.int .i64):=by
     split at a3
     ·assumption
     ·cases a3
    obtain ⟨a,r1,q1,s1⟩:=abl h1;obtain ⟨b,r2,q2,s2⟩:=abl h2;obtain ⟨g1,t1⟩:=Ub q1;obtain ⟨g2,t2⟩:=Ub q2;have p1:=adH hu xs j _ g1 w;have p2:=adH hu ys j _ g2 w;have q:=run_equalIn_int (P:=P) w d f.type .i64 .i64 a b hu;have ih:=QA d w xs ys fs (j+1) z a4 (by rw[t1];exact s1) (by rw[t2];exact s2);have hn:f.name≠ "_" :=by simpa using a1
    simp only[pK,hn,ne_eq,not_false_eq_true,if_true,a2,gK,p1,p2,q,gy,zD];rw[q1,q2];rw[t1,t2] at ih;by_cases hb:a=b
    ·subst hb
     simp only[beq_self_eq_true,xu,nM,if_false];rw[ih];simp
    ·have hb':(a==b)=ay:=by simpa using hb
     simp only[hb',wS,if_true,pI];simp[hb]
   all_goals simp[Gu] at h
  case bool n=>
   unfold Gu at h;simp only[aI,bne_iff_ne,ne_eq,beq_iff_eq] at h;obtain ⟨⟨⟨a1,a2⟩,a3⟩,a4⟩:=h;have hu:P.underlying f.type=ak .bool:=by
    split at a3
    ·assumption
    ·cases a3
   obtain ⟨a,r1,q1,s1⟩:=Zi h1;obtain ⟨b,r2,q2,s2⟩:=Zi h2;obtain ⟨g1,t1⟩:=Ub q1;obtain ⟨g2,t2⟩:=Ub q2;have p1:=abk hu xs j _ g1 w;have p2:=abk hu ys j _ g2 w;have q:=run_equalIn_bool' (P:=P) w d f.type a b hu;have ih:=QA d w xs ys fs (j+1) z a4 (by rw[t1];exact s1) (by rw[t2];exact s2);have hn:f.name≠ "_" :=by simpa using a1
   simp only[pK,hn,ne_eq,not_false_eq_true,if_true,a2,gK,p1,p2,q,gy,zD];rw[q1,q2];rw[t1,t2] at ih;by_cases hb:a=b
   ·subst hb
    simp only[beq_self_eq_true,xu,nM,if_false];rw[ih];simp
   ·have hb':(a==b)=ay:=by simpa using hb
    simp only[hb',wS,if_true,pI];simp[hb]
  all_goals simp[Gu] at h
theorem X9{P:Program}{t:Nat}{z:List SV}(h:aeY P t z=aC)(xs ys:List Cq)(w:World)(h1:Dl xs z=aC)(h2:Dl ys z=aC)(x y:Operand):
  (do eqGuard .eql t x y (.agg (xs.map kY).toArray) (.agg (ys.map kY).toArray);binOp .eql t (.agg (xs.map kY).toArray) (.agg (ys.map kY).toArray):Sem Value).run P w=.ok (.bool (decide (xs=ys))) w/\
  (do eqGuard .neq t x y (.agg (xs.map kY).toArray) (.agg (ys.map kY).toArray);binOp .neq t (.agg (xs.map kY).toArray) (.agg (ys.map kY).toArray):Sem Value).run P w=.ok (.bool (!decide (xs=ys))) w:=by
 unfold aeY at h;simp only[aI,Bool.not_eq_true'] at h;obtain ⟨⟨a1,a2⟩,a3⟩:=h;split at a1
 ·rename_i fs hu
  have hf:P.fieldsOf t=fs:=by simp[Program.fieldsOf,hu]
  have he:=run_equalIn_struct (P:=P) w 9999 t (xs.map kY).toArray (ys.map kY).toArray (by rw[hf];exact hu) a2;rw[hf,QA 9998 w xs ys fs.toList 0 z a1 (by rw[ji];exact h1) (by rw[ji];exact h2)] at he;simp only[ji] at he;have g1:=run_eqGuard_agg (P:=P) w .eql t x y (xs.map kY).toArray (ys.map kY).toArray a3;have g2:=run_eqGuard_agg (P:=P) w .neq t x y (xs.map kY).toArray (ys.map kY).toArray a3;have b1:=run_eql_struct (P:=P) w t (xs.map kY).toArray (ys.map kY).toArray;have b2:=run_neq_struct (P:=P) w t (xs.map kY).toArray (ys.map kY).toArray;rw[he] at b1 b2;constructor
  ·rw[gK,g1,gy,b1,gy]
  ·rw[gK,g2,gy,b2,gy]
 ·cases a1
def agw(P:Program):List Nat->Bool
 |[]=>aC |T::r=>(match P.info? T with|some inf=>inf.comparable|none=>ay)&&(match P.underlying T with|some (.pointer e)=>(match P.info? e with|some ie=>ie.size != 0|none=>ay) |_=>ay)&&agw P r
theorem WX{P:Program}:∀{l:List Nat},agw P l=aC->∀T,l.contains T=aC->∃inf e ie,P.info? T=ak inf/\inf.comparable=aC/\P.underlying T=ak (.pointer e)/\P.info? e=ak ie/\ie.size≠0
 |[],_,T,h=>by simp at h |T'::r,h,T,hT=>by
  simp only[agw,aI] at h;obtain ⟨⟨h1,h2⟩,h3⟩:=h;simp only[tN,nI,beq_iff_eq] at hT;rcases hT with rfl|hT
  ·split at h1
   ·rename_i inf hi
    split at h2
    ·rename_i e he
     split at h2
     ·rename_i ie hie
      exact ⟨inf,e,ie,hi,h1,he,hie,by simpa using h2⟩
     ·cases h2
    ·cases h2
   ·cases h1
  ·exact WX h3 T hT
def WY(P:Program)(tys:BT J9):List Nat->Bool
 |[]=>aC |t::r=>(match tys.get t with|some i=>aeY P t i.zero|none=>aC)&&WY P tys r
theorem QB{P:Program}{tys:BT J9}:∀{l:List Nat},WY P tys l=aC->∀t i,l.contains t=aC->tys.get t=ak i->aeY P t i.zero=aC
 |[],_,t,_,h,_=>by simp at h |t'::r,h,t,i,ht,hi=>by
  simp only[WY,aI] at h;simp only[tN,nI,beq_iff_eq] at ht;rcases ht with rfl|ht
  ·have:=h.1;rw[hi] at this;exact this
  ·exact QB h.2 t i ht hi
section
variable{P:Program}{C:Ctx}{H H':Mem}{E E':Env}{w w':World}
def LQ(E:Env)(hp:List (Nat×SB)):Nat->Prop:=fun b=>∃id sb,Ak hp id=ak sb/\Bd E id sb=ak b
theorem aeZ{K:Kx}{hp:List (Nat×SB)}(p:Nat->Bool)(h:AO K H E w hp):AO K H E w (dropKey p hp):=by
 have key:∀{i:Nat} {sb:SB},Ak (dropKey p hp) i=ak sb->Ak hp i=ak sb:=fun {i sb} hl=>by
  rw[KY] at hl;cases hp':p i<;>simp only[hp',cond_true,cond_false] at hl
  ·exact hl
  ·cases hl
 exact ⟨fun id sb hl=>h.ent id sb (key hl),fun id id' sb sb' b l1 l2 o1 o2=>h.Gq id id' sb sb' b (key l1) (key l2) o1 o2⟩
end
inductive azd where
 |fin (v:SV) (hp:List (Nat×SB))
 |stop (td:List It) (c:Core)
section
variable{P:Program}{C:Ctx}{K:Kx}{H H':Mem}{E E' E0:Env}{w w':World}
end
def qF(hp:List (Nat×SB))(ρ:List (Nat×Rn)):List (Int×Bool×SV)->List (Int×Bool×SV)->Option (List BK)
 |[],[]=>ak [] |(n,p,x)::l,(n',p',x')::l'=>Dh (p==p') (E5 (ak [.int n n']) (E5 (bif p' then qS hp ρ x x' else ak []) (qF hp ρ l l'))) |_,_=>aK
def qB2(hp:List (Nat×SB))(ρ:List (Nat×Rn))(id':Nat):SB->Option (List BK)
 | .fm k' M' fs' us' tg'=>match Ak ρ id' with
  |some (.id id)=>match Ak hp id with
   |some (.fm k M fs us _)=>Dh (k==k'&&tg'.isNone) (E5 (ak [.mp M M']) (E5 (qF hp ρ fs fs') (qF hp ρ us us'))) |_=>aK
  |_=>aK
 | .Hf e' st' n' g' more'=>match Ak ρ id' with
  |some (.id id)=>match Ak hp id with
   |some (.Hf e st n g more)=>Dh (e==e'&&st==st'&&more.length==more'.length&&FP more') (E5 (ak [.nat n n',.get n g g']) (qL hp ρ more more')) |_=>aK
  |_=>aK
 |sb=>qB hp ρ id' sb
def qH2(hp:List (Nat×SB))(ρ:List (Nat×Rn)):List (Nat×SB)->Option (List BK)
 |[]=>ak [] |(id',sb)::l=>E5 (qB2 hp ρ id' sb) (qH2 hp ρ l)
def aak:List (Int×Bool×SV)->List (Int×Bool×SV)->List (Nat×Rn)
 |(_,aC,x)::l,(_,aC,y)::m=>coll x y++aak l m |_::l,_::m=>aak l m |_,_=>[]
def ari:Option SB->Option SB->List (Nat×Rn)
 |some (.fm _ _ fs us _),ak (.fm _ _ gs vs _)=>aak fs gs++aak us vs |some (.Hf _ _ _ _ l),ak (.Hf _ _ _ _ m)=>ND l m |a,b=>anI a b
def aal(hp' hp:List (Nat×SB)):Nat->List (Nat×Rn)->List (Nat×Rn)->List (Nat×Rn)
 |0,_,acc=>acc |_,[],acc=>acc |n+1,(i,r)::t,acc=>match Ak acc i with
  |some _=>aal hp' hp n t acc |none=>match r with
   | .id j=>aal hp' hp n (ari (Ak hp' i) (Ak hp j)++t) ((i,r)::acc) | .nil=>aal hp' hp n t ((i,r)::acc)
structure Ry where
 hp:List (Nat×SB)
 keep:List Nat
def Ry.rn(t:Ry)(hp:List (Nat×SB)):List (Nat×Rn):=aal t.hp hp 4000 (t.keep.map fun i=>(i,.id i)) []
def akn(hp:List (Nat×SB))(t:Ry):Option (List BK):=Dh (KD (KE (t.rn hp))&&t.keep.all fun i=>adG (Ak (t.rn hp) i) i) (qH2 hp (t.rn hp) t.hp)
def ako(v:SV)(hp:List (Nat×SB)):Nat->List Ry->Tree (SV×Nat×List BK)
 |_,[]=>.fail |k,t::r=>match akn hp t with
  |some l=>.leaf (v,k,l) |none=>ako v hp (k+1) r
def toEnd(ts:List Ry):Out->Tree (SV×Nat×List BK)
 | .done v c=>ako v c.hp 0 ts | .stop _ _ _=>.fail
def Gv(ts:List Ry)(φ:SV->Nat->Prop):SV×Nat×List BK->Prop
 |(v,k,l)=>dI l/\φ v k
@[irreducible] def ES (ψ:SV×Nat×List BK->Prop) (t:Tree (SV×Nat×List BK)):Prop:=t.All ψ
theorem CQ(ψ:SV×Nat×List BK->Prop)(t:Tree (SV×Nat×List BK)):ES ψ t=t.All ψ:=by unfold ES;rfl
section
variable{P:Program}{C:Ctx}{K:Kx}{H H':Mem}{E E':Env}{w w':World}{hp:List (Nat×SB)}{ρ:List (Nat×Rn)}
theorem ae0(hh:AO K H E w hp):∀{l l':List (Int×Bool×SV)} {q:List BK} {r:List (Int×Option Value)},qF hp ρ l l'=ak q->dI q->Gz H E l r->Gz H (F6 ρ E) l' r
 |[],[],_,[],_,_,_=>trivial |(n,p,x)::l,(n',p',x')::l',q,(k,o)::r,hq,ha,⟨h1,h2,h3⟩=>by
  simp only[qF] at hq;obtain ⟨hp',hq⟩:=Bg hq;obtain ⟨a,b,e1,e2,rfl⟩:=BN hq;obtain ⟨c,d,e3,e4,rfl⟩:=BN e2;cases e1;have hpp:p=p':=by simpa using hp'
  subst hpp;obtain ⟨hn,ha⟩:=ha;have hn:n=n':=hn;subst hn;have ha2:=eH (show dI (c++d) from ha);refine ⟨h1,?_,ae0 hh e4 ha2.2 h3⟩;cases p with
  |true=>
   cases o with
   |none=>exact h2 |some v=>exact ⟨Sj hh _ (abb _ e3 ha2.1) h2.1,h2.2⟩
  |false=>
   cases o with
   |none=>exact h2 |some v=>exact h2
 |[],_::_,_,_,h,_,_=>by simp[qF] at h |_::_,[],_,_,h,_,_=>by simp[qF] at h |_::_,_::_,_,[],_,_,h=>h.elim |[],[],_,_::_,_,_,h=>h.elim
theorem ae1(hh:AO K H E w hp){id':Nat}{sb:SB}{q:List BK}(hq:qB2 hp ρ id' sb=ak q)(ha:dI q):
  GI K H (F6 ρ E) w id' sb/\∀b,Bd (F6 ρ E) id' sb=ak b->∃id s0,Ak ρ id'=ak (.id id)/\Ak hp id=ak s0/\Bd E id s0=ak b:=by
 unfold qB2 at hq;split at hq
 ·rename_i k' M' fs' us' tg'
  split at hq
  ·rename_i id hr
   split at hq
   ·rename_i k M fs us tg hl
    obtain ⟨hk,hq⟩:=Bg hq;obtain ⟨a,b,e1,e2,rfl⟩:=BN hq;obtain ⟨c,d,e3,e4,rfl⟩:=BN e2;cases e1;simp only[aI,beq_iff_eq,Option.isNone_iff_eq_none] at hk;obtain ⟨rfl,rfl⟩:=hk;obtain ⟨hM,ha⟩:=ha;have hM:M=M':=hM;subst hM;have ha2:=eH (show dI (c++d) from ha);obtain ⟨b,ms,clk,fv,uv,he,h1,h2,h3,h4,h5,h6,h7⟩:=hh.ent _ _ hl;refine ⟨⟨b,ms,clk,fv,uv,by rw[DN hr];exact he,h1,ae0 hh e3 ha2.1 h2,ae0 hh e4 ha2.2 h3,h4,h5,trivial,h7⟩,fun b' hb=>⟨id,_,hr,hl,?_⟩⟩;simp only[Bd,DN hr] at hb ⊢;exact hb
   ·cases hq
  ·cases hq
 ·rename_i e' st' n' g' more'
  split at hq
  ·rename_i id hr
   split at hq
   ·rename_i e st n g more hl
    obtain ⟨hk,hq⟩:=Bg hq;obtain ⟨a,b,e1,e2,rfl⟩:=BN hq;cases e1;simp only[aI,beq_iff_eq] at hk;obtain ⟨⟨⟨rfl,rfl⟩,hlen⟩,hone⟩:=hk;obtain ⟨hn,hg,ha⟩:=ha;have hn:n=n':=hn;subst hn;have hg:∀i,i<n->g i=g' i:=hg;obtain ⟨v,xs,ys,he,h1,h2,h3,h4,h5,h6⟩:=hh.ent _ _ hl;refine ⟨⟨v,xs,ys,by rw[DN hr];exact he,by rw[<-hlen];exact h1,Sl h2 hg,Jb hh _ (OU _ e2 ha) h3,by rw[<-hlen];exact h4,hone,h6⟩,fun b' hb=>⟨id,_,hr,hl,?_⟩⟩;simp only[Bd,DN hr] at hb ⊢;exact hb
   ·cases hq
  ·cases hq
 ·exact WQ hh (anD hq ha)
theorem aam:∀{l:List (Nat×SB)} {q:List BK} {i:Nat} {sb:SB},qH2 hp ρ l=ak q->dI q->Ak l i=ak sb->∃q',qB2 hp ρ i sb=ak q'/\dI q'
 |[],_,_,_,_,_,h=>by simp[Ak] at h |(j,x)::l,q,i,sb,hq,ha,h=>by
  simp only[qH2] at hq;obtain ⟨a,b,e1,e2,rfl⟩:=BN hq;simp only[Ak] at h;cases hj:(j==i)<;>simp only[hj,cond_true,cond_false] at h
  ·exact aam e2 (eH ha).2 h
  ·cases h
   obtain rfl:j=i:=by simpa using hj
   exact ⟨a,e1,(eH ha).1⟩
theorem anL(hh:AO K H E w hp){t:Ry}{q:List BK}(hq:akn hp t=ak q)(ha:dI q):∃E',AO K H E' w t.hp/\∀i∈t.keep,E' i=E i:=by
 unfold akn at hq;obtain ⟨h1,h2⟩:=Bg hq;simp only[aI,dF] at h1;refine ⟨F6 (t.rn hp) E,⟨fun id sb hl=>?_,fun id id' sb sb' b l1 l2 o1 o2=>?_⟩,fun i hi=>DN (WS (h1.2 i hi))⟩
 ·obtain ⟨q',e1,e2⟩:=aam h2 ha hl
  exact (ae1 hh e1 e2).1
 ·obtain ⟨q1,e1,e2⟩:=aam h2 ha l1
  obtain ⟨q2,e3,e4⟩:=aam h2 ha l2;obtain ⟨i1,s1,a1,a2,a3⟩:=(ae1 hh e1 e2).2 b o1;obtain ⟨i2,s2,b1,b2,b3⟩:=(ae1 hh e3 e4).2 b o2;have:=hh.Gq _ _ _ _ _ a2 b2 a3 b3;subst this;exact aeW h1.1 a1 b1
theorem agx{v:SV}{φ:SV->Nat->Prop}{ts:List Ry}:∀{r:List Ry} {k:Nat},(∀j,r[j]?=ts[k+j]?)->(ako v hp k r).All (Gv ts φ)->∃j t q,ts[j]?=ak t/\akn hp t=ak q/\dI q/\φ v j
 |[],_,_,h=>h.elim |t::r,k,hk,h=>by
  unfold ako at h;split at h
  ·rename_i l hl
   have:=hk 0;simp only[jS,jC] at this;exact ⟨k,t,l,this.symm,hl,h.1,h.2⟩
  ·exact agx (fun j=>by have:=hk (j+1);simp only[jR] at this;rw[this];congr 1;omega) h
theorem aiQ(hC:BG P C)(hF:BP P C){n g:Nat}{fn:Func}{c:Core}{args:Array Value}{ts:List Ry}{φ:SV->Nat->Prop}(hfn:C.fns.get g=ak fn)(hb:fn.body.isSome=aC)
  (hd:AA H E c.tm (args++dY (fn.ntmps - args.size) undef).toList) (hh:AO ⟨w,LQ E c.hp,H⟩ H E w c.hp) (hon:H.on w) (hfree:Free E c) (hg:Dj C.gls H)
  (h:ES (Gv ts φ) ((run C n aC g [.code []] c).bind (toEnd ts))) :
  Calls P g args w fun e w'=>∃v sv k t H' E1 E',e=.returned v/\φ sv k/\ts[k]?=ak t/\Den H' E1 sv v/\AO ⟨w,LQ E c.hp,H⟩ H' E' w' t.hp/\Eh ⟨w,LQ E c.hp,H⟩ H' w'/\H.le H'/\∀i∈t.keep,∀u,E i=ak u->E' i=ak u:=by
 rw[CQ] at h;intro cs;obtain ⟨body,hbody⟩:=fP.1 hb;have hP:=hC.fn g fn hfn;let b:Frame:={(default:Frame) with fn:=g,kind:=.normal}
 let a:Act:={tmps:=args++dY (fn.ntmps - args.size) undef,defers:=[]}
 have henter:gQ P g args .normal=b.at a [.code body]:=by
  simp[gQ,Frame.at,hP,hbody,b,a]
 have st:St C ⟨w,LQ E c.hp,H⟩ H E w c a:=
  ⟨hd,hh,⟨rfl,rfl,rfl,dn _,fun _ _ _=>rfl,hon,fun _ _ h=>h,fun _ h=>.inl h⟩,hfree,hg,rfl⟩
 have hit:CO (Az fn) [.code []] [.code body]:=by
  have:=iG (body:=Az fn) [] qX;have he:Ba (Az fn) []=body:=by simp[Ba,Az,hbody]
  rwa[he] at this
 obtain ⟨out,h1,h2⟩:=TY hC hF n aC g [.code []] c H E w a fn [.code body] _ hfn (iJ h) st hit b cs;cases out with
 |stop g' Gj c'=>exact h1.elim |done sv c'=>
  obtain ⟨a',w',H',E',v,todo,q1,q2,q3,q4,q5⟩:=h2;obtain ⟨k,t,q,r1,r2,r3,r4⟩:=agx (ts:=ts) (k:=0) (fun j=>by simp) h1;obtain ⟨E2,r5,r6⟩:=anL q2.hp r2 r3;exact ⟨.returned v,w',_,⟨v,sv,k,t,H',E',E2,rfl,r4,r1,q4,r5,q2.BZ,q3.IX,fun i hi u hu=>by rw[r6 i hi];exact q3.ML i u hu⟩,by rw[henter];exact q1,rfl,rfl,q2.defers,rfl,fn,hP,q5⟩
end
def akp(fn:Func)(td:List It)(c:Core):Option (Nat×List SV×Option Nat×List It):=
 match td with
 | .reg p (i::r)::k=>match Ba (Az fn) p with
  | .region _ ops _=>match opAt ops.toList i with
   |some o=>match Og ops.toList c.tm o with
    | .yes=>match o.op with
     | .call kk=>match kk.callee with
      | .value f=>match BI c.tm f with
       | .fn g cs=>ak (g,kk.args.toList.map (BI c.tm)++cs,o.dst,.reg p r::k) |_=>aK
      |_=>aK
     |_=>aK
    |_=>aK
   |none=>aK
  |_=>aK
 |_=>aK
def Hp.at(h:Hp)(H:Mem)(w:World):Prop:=∀b o,h b=ak o->w.heap[b]?=ak o/\H b=aK
mutual
def H9:SV->Bool
 | .ptr _ _=>ay | .gs _=>ay | .gp _ _ _ _=>ay | .mp _=>ay | .ev _=>ay | .vw _ _=>ay | .fn _ l=>LU l | .agg l=>LU l | .AQ l=>LU l | .C9 _ x=>H9 x |_=>aC
def LU:List SV->Bool
 |[]=>aC |x::l=>H9 x&&LU l
end
def ae2:List Fr->Bool
 |[]=>aC |f::s=>LU f.tm&&ae2 s
def MB:Env:=fun _=>aK
mutual
theorem MZ{H:Mem}{E E':Env}:∀{x:SV} {v:Value},H9 x=aC->Den H E x v->Den H E' x v
 | .any,_,_,_=>trivial | .val _,_,_,h=>h | .int _ _,_,_,h=>h | .sym _ _,_,_,h=>h | .bool _,_,_,h=>h | .test _,_,_,h=>h | .str _,_,_,h=>h | .ptr _ _,_,h,_=>by simp[H9] at h | .gs _,_,h,_=>by simp[H9] at h | .gp _ _ _ _,_,h,_=>by simp[H9] at h | .EZ,_,_,h=>h | .A8,_,_,h=>h | .Gy,_,_,h=>h | .DT,_,_,h=>h | .FY,_,_,h=>h | .fn _ l,_,hn,⟨vs,h1,h2⟩=>⟨vs,h1,KG (by simpa[H9] using hn) h2⟩ | .agg l,_,hn,⟨vs,h1,h2⟩=>⟨vs,h1,KG (by simpa[H9] using hn) h2⟩ | .AQ l,_,hn,⟨vs,h1,h2⟩=>⟨vs,h1,KG (by simpa[H9] using hn) h2⟩ | .C9 _ x,_,hn,⟨v,h1,h2⟩=>⟨v,h1,MZ (by simpa[H9] using hn) h2⟩ | .mp _,_,h,_=>by simp[H9] at h | .sh _,_,_,h=>h | .GX _ _ _ _ _,_,_,h=>h | .glob _,_,_,h=>h | .ev _,_,h,_=>by simp[H9] at h | .vw _ _,_,h,_=>by simp[H9] at h
theorem KG{H:Mem}{E E':Env}:∀{l:List SV} {vs:List Value},LU l=aC->AA H E l vs->AA H E' l vs
 |[],[],_,_=>trivial |_::_,_::_,hn,⟨h1,h2⟩=>by
  simp only[LU,aI] at hn;exact ⟨MZ hn.1 h1,KG hn.2 h2⟩
 |[],_::_,_,h=>h.elim |_::_,[],_,h=>h.elim
end
theorem adI{C:Ctx}{H:Mem}{E E':Env}:∀{s:List Fr} {ms:List Frame},ae2 s=aC->Gt C H E s ms->Gt C H E' s ms
 |[],[],_,_=>trivial |f::s,m::ms,hn,⟨⟨fn,a,items,h1,h2,h3⟩,h4⟩=>by
  simp only[ae2,aI] at hn;exact ⟨⟨fn,a,items,h1,KG hn.1 h2,h3⟩,adI hn.2 h4⟩
 |[],_::_,_,h=>h.elim |_::_,[],_,h=>h.elim
theorem PL{K:Kx}{H:Mem}{E:Env}{w:World}:AO K H E w []:=⟨fun _ _ hl=>by simp[Ak] at hl,fun _ _ _ _ _ hl=>by simp[Ak] at hl⟩
section
variable{P:Program}{C:Ctx}{H H' H0:Mem}{E E':Env}{w w' w0:World}
def akq(P:Program)(gls:List (Nat×Sh))(g:Nat)(args:List SV)(R:Hp->Prop)(sv:SV)(R':Hp->Prop):Prop:=
 ∀(H:Mem) (E:Env) (w:World) (vs:List Value) (h:Hp),AA H E args vs->H.on w->Dj gls H->R h->h.at H w->
  Calls P g vs.toArray w fun en w'=>∃v H' h',en=.returned v/\Den H' E sv v/\R' h'/\h'.at H' w'/\H.le H'/\Eh ⟨w,fun b=>h b≠aK,H⟩ H' w'/\∀b,h' b≠aK->w.heap.size<=b\/h b≠aK
theorem Zj{K:Kx}{g g2:Nat}{fn:Func}{td Gj:List It}{c:Core}{stk:List Fr}{R R':Hp->Prop}{φ:Sh->Prop}{args:List SV}{sv:SV}{dst:Option Nat}(hfn:C.fns.get g=ak fn)
  (hp:akp fn td c=ak (g2,args,dst,Gj)) (hen:Enters P g2) (hn:c.hp=[]/\LU c.tm=aC/\ae2 stk=aC) (hcall:akq P C.gls g2 args R sv R') (hgo:Bz P C K g Gj {c with tm:=Q9 c.tm dst sv} stk R' φ):Bz P C K g td c stk R φ:=by
 intro H E1 w a items ms cs fn' hfn' st hi hs hx;rw[hfn] at hfn';cases hfn';let E:Env:=MB
 have st:St C K H E w c a:=⟨KG hn.2.1 st.den,by rw[hn.1];exact PL,st.BZ,fun _ _ _=>rfl,st.gl,st.defers⟩;have hs:Gt C H E stk ms:=adI hn.2.2 hs;have hx:OV R K H E w:=let ⟨h,h1,h2⟩:=hx;⟨h,h1,fun b o e=>⟨(h2 b o e).1,(h2 b o e).2.1,fun i hi=>by simp[E,MB,bk] at hi,(h2 b o e).2.2.2⟩⟩;unfold akp at hp;split at hp;rotate_left
 ·cases hp
 rename_i p i rest k;split at hp;rotate_left
 ·cases hp
 rename_i rid ops dr hcode;split at hp;rotate_left
 ·cases hp
 rename_i o ho;split at hp;rotate_left
 ·cases hp
 rename_i hwant;split at hp;rotate_left
 ·cases hp
 rename_i kk hop;split at hp;rotate_left
 ·cases hp
 rename_i f WT;split at hp;rotate_left
 ·cases hp
 rename_i g3 caps hev;cases hp;cases hi with
 |reg p l id ops2 hc hk=>
  rw[hc] at hcode;cases hcode;rename_i k';have df:=BA (H:=H) (E:=E) st.den f;rw[hev] at df;obtain ⟨vs,ef,hvs⟩:=df;have hargs:=(Nz st.den kk.args.toList).append hvs;have ho':ops[i]?=ak o:=by simpa[opAt] using ho
  have hw':=Hw (ops:=ops) st.den o;rw[hwant] at hw';have hrun:(execOp a.eval o).run P w=.ok (.enter g2 (kk.args.map a.eval++vs)) w:=by
   simp only[execOp,hop,resolve,WT];simp[jL,ef,invoke,Ih hen]
  have hg:=stepG_op (P:=P) (b:=base g) (k:=k') (cs:=ms++cs) (w:=w) (rest:=rest) ho' hw';have henter:step P (lone ((base g).at a (.inRegion ops (i::rest)::k')) (ms++cs) w)=.next (lone (gQ P g2 (kk.args.map a.eval++vs) .normal) ((base g).at a (.inRegion ops (i::rest)::k')::(ms++cs)) w):=
   step_lone_go (by rw[hg];simp[gX,hrun,Frame.at])
  obtain ⟨h,hR,hb⟩:=hx;have hcl:=hcall H E w _ h hargs st.BZ.on st.gl hR fun b o e=>⟨(hb b o e).1,(hb b o e).2.1⟩;have avP:(kk.args.toList.map a.eval++vs.toList).toArray=kk.args.map a.eval++vs:=by
   apply Array.toList_inj.1;simp
  rw[avP] at hcl;obtain ⟨en,w',F,⟨v,H',h',rfl,dv,hR',hat',hH,WZ,ate⟩,q1,q2,q3⟩:=hcl ((base g).at a (.inRegion ops (i::rest)::k')::(ms++cs));have hleave:step P (lone F ((base g).at a (.inRegion ops (i::rest)::k')::(ms++cs)) w')=.next (lone ((base g).at (a.put o.dst v) (.inRegion ops rest::k')) (ms++cs) w'):=by
   rw[step_leave_returned q3,mG];simp[ho']
  have hno:∀{i:Nat} {b:Nat},bk E i=ak b->h b=aK:=fun {i b} hi=>by
   cases hx:h b with
   |none=>rfl |some o=>exact ((hb b o hx).2.2.1 i hi).elim
  have hun:∀{b:Nat},H b=aK->b<w.heap.size->h b=aK->H' b=aK:=fun {b} h1 h2 h3=>by
   cases hx:H' b with
   |none=>rfl |some o=>
    rcases WZ.fresh b (by rw[hx];simp) with q|q|q
    ·exact (q h1).elim
    ·have q:w.heap.size<=b:=q;omega
    ·exact (q h3).elim
  have Fq:∀{b:Nat},h b≠aK->K.w0.heap.size<=b\/K.own b:=fun {b} hb'=>by
   cases hx:h b with
   |none=>exact (hb' hx).elim |some o=>exact (hb b o hx).2.2.2
  have hhp:AO K H' E w' c.hp:=⟨fun id sb hl=>by
   have hent:=st.hp.ent id sb hl;exact hent.kept hH (fun _ _ e=>e) (fun b ho=>WZ.kept b (hent.lt ho).1 (by have:=hno (GL ho);simp[this])) fun b ho=>hun (hent.lt ho).2.1 (hent.lt ho).1 (hno (GL ho)),st.hp.Gq⟩
  have hW:Eh K H' w':=⟨WZ.os.trans st.BZ.os,WZ.tape.trans st.BZ.tape,WZ.output.trans st.BZ.output,iM st.BZ.size WZ.size,fun b hb1 hn=>by
   rw[WZ.kept b (jU hb1 st.BZ.size) fun hq=>by rcases Fq hq with q|q;omega;exact hn q]
   exact st.BZ.kept b hb1 hn,WZ.on,fun b o e=>hH b o (st.BZ.le b o e),fun b hb1=>by
    rcases WZ.fresh b hb1 with q|q|q
    ·exact st.BZ.fresh b q
    ·exact .inr (.inl (iM st.BZ.size q))
    ·exact .inr (Fq q)⟩
  have st3:St C K H' E w' {c with tm:=Q9 c.tm o.dst sv} (a.put o.dst v):=
   ⟨JV (c:=c) (st.den.le hH fun _ _ e=>e) _ dv,hhp,hW,st.free,st.gl.le hH,by rw[put_defers];exact st.defers⟩
  have hx3:OV R' K H' E w':=by
   refine ⟨h',hR',fun b o e=>⟨(hat' b o e).1,(hat' b o e).2,fun i hi=>?_,?_⟩⟩
   ·simp[E,MB,bk] at hi
   ·rcases ate b (by rw[e];simp) with q|q
    ·exact .inl (iM st.BZ.size q)
    ·exact Fq q
  obtain ⟨a2,w2,v2,s,H2,abf,fn0,r1,r2,r3⟩:=hgo H' E w' _ _ ms cs fn hfn st3 (.reg p rest _ ops hc hk) (hs.le hH fun _ _ e=>e) hx3;exact ⟨a2,w2,v2,s,H2,abf,fn0,r1,(Steps.head henter (q1.trans (.one hleave))).trans r2,r3⟩
def abn(i:Nat)(u:Value)(x:SV):SV:=match x with
 | .ptr j 0=>bif j==i then .val u else .any |_=>bif H9 x then x else .any
theorem aiR{E':Env}{i:Nat}{b:Nat}(he:E i=ak (.pointer (ak ⟨b,0,aK⟩))){x:SV}{v:Value}(h:Den H E x v):Den H E' (abn i (.pointer (ak ⟨b,0,aK⟩)) x) v:=by
 unfold abn;split
 ·rename_i j
  cases hj:(j==i)<;>simp only[cond_true,cond_false]
  ·trivial
  ·obtain ⟨b',h1,h2⟩:=h
   obtain rfl:j=i:=by simpa using hj
   rw[he] at h1;simp[AL] at h1;subst h1;exact ⟨h2,rfl⟩
 ·cases hn:H9 x<;>simp only[cond_true,cond_false]
  ·trivial
  ·exact MZ hn h
theorem Sv{E':Env}{i:Nat}{b:Nat}(he:E i=ak (.pointer (ak ⟨b,0,aK⟩))):∀{l:List SV} {vs:List Value},AA H E l vs->AA H E' (l.map (abn i (.pointer (ak ⟨b,0,aK⟩)))) vs
 |[],[],_=>trivial |_::_,_::_,⟨h1,h2⟩=>⟨aiR he h1,Sv he h2⟩ |[],_::_,h=>h.elim |_::_,[],h=>h.elim
def W9(i:Nat)(u:Value):List Fr->List Fr
 |[]=>[] |f::s=>{f with tm:=f.tm.map (abn i u)}::W9 i u s
theorem abp{E':Env}{i:Nat}{b:Nat}(he:E i=ak (.pointer (ak ⟨b,0,aK⟩))):∀{s:List Fr} {ms:List Frame},Gt C H E s ms->Gt C H E' (W9 i (.pointer (ak ⟨b,0,aK⟩)) s) ms
 |[],[],_=>trivial |_::_,_::_,⟨⟨fn,a,items,h1,h2,h3⟩,h4⟩=>⟨⟨fn,a,items,h1,Sv he h2,h3⟩,abp he h4⟩ |[],_::_,h=>h.elim |_::_,[],h=>h.elim
theorem Zk{i:Nat}{u:Value}:∀{s:List Fr} {g:Nat},Ri g (W9 i u s)=Ri g s
 |[],_=>rfl |f::s,_=>by simp only[W9,Ri];exact Zk
def Xa(E:Env)(w:World)(hp:List (Nat×SB)):Hp->Prop:=fun h=>(∀b o,h b=ak o->w.heap[b]?=ak o)/\∀b,(∃id sb,Ak hp id=ak sb/\Bd E id sb=ak b)↔h b≠aK
theorem aiS{K:Kx}{hp:List (Nat×SB)}(hh:AO K H E w hp):∃h,Xa E w hp h:=by
 classical
 refine ⟨fun b=>if ∃id sb,Ak hp id=ak sb/\Bd E id sb=ak b then w.heap[b]? else aK,fun b o e=>?_,fun b=>⟨fun hq=>?_,fun hq=>?_⟩⟩
 ·dsimp only at e
  split at e
  ·exact e
  ·cases e
 ·have:=hq
  obtain ⟨id,sb,h1,h2⟩:=hq;have hlt:=((hh.ent _ _ h1).lt h2).1;simp only[if_pos this];rw[Array.getElem?_eq_getElem hlt];simp
 ·dsimp only at hq
  split at hq
  ·assumption
  ·simp at hq
theorem Oo{K:Kx}{g i0:Nat}{td:List It}{c:Core}{stk:List Fr}{R:Hp->Prop}{R':Nat->Hp->Prop}{φ:Sh->Prop}(q:Nat->Bool)
  (hR:∀H E w h,H.on w->AO K H E w (dropKey q c.hp)->Xa E w (dropKey q c.hp) h->∃b,E i0=ak (.pointer (ak ⟨b,0,aK⟩))/\R' b h)
  (hgo:∀b,Bz P C K g td {tm:=c.tm.map (abn i0 (.pointer (ak ⟨b,0,aK⟩))),hp:=[],nx:=0,lim:=c.lim,tc:=[]} (W9 i0 (.pointer (ak ⟨b,0,aK⟩)) stk) (R' b) φ):Bz P C K g td c stk R φ:=by
 intro H E w a items ms cs fn' hfn' st hi hs hx;have hd:=aeZ q st.hp;obtain ⟨h,hh⟩:=aiS hd;obtain ⟨b,he,hR'⟩:=hR H E w h st.BZ.on hd hh;have:=hgo b H MB w a items ms cs fn' hfn' ⟨Sv he st.den,PL,st.BZ,fun _ _ _=>rfl,st.gl,st.defers⟩ hi (abp he hs) ⟨h,hR',fun b' o e=>by
  obtain ⟨id,sb,h1,h2⟩:=(hh.2 b').2 (by rw[e];simp);have:=((hd.ent _ _ h1).lt h2).2;exact ⟨hh.1 b' o e,this.1,fun i hi=>by simp[MB,bk] at hi,this.2⟩⟩
 rw[Zk] at this;exact this
theorem agy{x y:SV}:∀{l:List SV} {vs:List Value} {i:Nat},l[i]?=ak x->(∀v,Den H E x v->Den H E y v)->AA H E l vs->AA H E (l.set i y) vs
 |[],_,_,h,_,_=>by simp at h |_::_,[],_,_,_,h=>h.elim |_::_,_::_,0,h,hf,⟨h1,h2⟩=>by
  simp at h;subst h;exact ⟨hf _ h1,h2⟩
 |_::_,_::_,i+1,h,hf,⟨h1,h2⟩=>⟨h1,agy (by simpa using h) hf h2⟩
def Mem.with(H:Mem)(h:Hp):Mem:=fun b=>match h b with|some o=>ak o|none=>H b
theorem agz{K:Kx}{g:Nat}{td:List It}{c:Core}{stk:List Fr}{R:Hp->Prop}{φ:Sh->Prop}{u:Value}{X:Type}{y:X->SV}(hR:∀H E h w,R h->H.on w->h.at H w->∃x,Den (H.with h) E (y x) u)
  {i:Nat} (hi:c.tm[i]?=ak (.val u)) (hgo:∀x,Bz P C K g td {c with tm:=c.tm.set i (y x)} stk emp φ):Bz P C K g td c stk R φ:=by
 intro H E w a items ms cs fn' hfn' st hit hs ⟨h,hR',hb⟩;have hat:h.at H w:=fun b o e=>⟨(hb b o e).1,(hb b o e).2.1⟩;have hle:H.le (H.with h):=fun b o e=>by
  unfold Mem.with;cases hx:h b with
  |none=>exact e |some o'=>rw[(hat b o' hx).2] at e;cases e
 have hw:Eh K (H.with h) w:=⟨st.BZ.os,st.BZ.tape,st.BZ.output,st.BZ.size,st.BZ.kept,fun b o e=>by
  unfold Mem.with at e;cases hx:h b with
  |none=>rw[hx] at e;exact st.BZ.on b o e |some o'=>rw[hx] at e;cases e;exact (hat b _ hx).1,fun b o e=>hle b o (st.BZ.le b o e),fun b hb1=>by
  unfold Mem.with at hb1;cases hx:h b with
  |none=>rw[hx] at hb1;exact st.BZ.fresh b hb1 |some o'=>exact .inr (hb b o' hx).2.2.2⟩
 have hhp:AO K (H.with h) E w c.hp:=⟨fun id sb hl=>(st.hp.ent id sb hl).kept hle (fun _ _ e=>e) (fun _ _=>rfl) fun b ho=>by
  unfold Mem.with;cases hx:h b with
  |none=>exact ((st.hp.ent id sb hl).lt ho).2.1 |some o=>exact ((hb b o hx).2.2.1 id (GL ho)).elim,st.hp.Gq⟩
 obtain ⟨x,hx⟩:=hR H E h w hR' st.BZ.on hat;exact hgo x _ E w a items ms cs fn' hfn' ⟨agy hi (fun v hv=>by obtain ⟨rfl,_⟩:=hv;exact hx) (st.den.le hle fun _ _ e=>e),hhp,hw,st.free,st.gl.le hle,st.defers⟩ hit (hs.le hle fun _ _ e=>e) WV
inductive Fe3 where
 |ret (s:Sh)
 |raw (g:Nat) (td:List It) (c:Core) (stk:List Fr)
def anM:abd->Tree Fe3
 | .fin v c=>match finish c v with
  |some s=>.leaf (.ret s) |none=>.fail
 | .stop g td c stk=>.leaf (.raw g td c stk)
def anN(C:Ctx)(hold:Nat->Bool)(m n g:Nat)(td:List It)(c:Core)(stk:List Fr):Tree Fe3:=(Zg C hold m n g td c stk).bind anM
def atg(P:Program)(C:Ctx)(K:Kx)(R:Hp->Prop)(φ:Sh->Prop):Fe3->Prop
 | .ret s=>φ s | .raw g td c stk=>Bz P C K g td c stk R φ
@[irreducible] def ae3 (ψ:Fe3->Prop) (t:Tree Fe3):Prop:=t.All ψ
theorem Vj(ψ:Fe3->Prop)(t:Tree Fe3):ae3 ψ t=t.All ψ:=by unfold ae3;rfl
theorem Zl(hC:BG P C)(hF:BP P C){hold:Nat->Bool}{m n g:Nat}{td:List It}{c:Core}{stk:List Fr}{R:Hp->Prop}{φ:Sh->Prop}
  (h:ae3 (atg P C (K0 H0 w0) R φ) (anN C hold m n g td c stk)):Bz P C (K0 H0 w0) g td c stk R φ:=by
 rw[Vj] at h;refine KF hC hF (hold:=hold) (m:=m) (n:=n) ((iJ h).mono fun o ho=>?_);cases o with
 |fin v c=>
  simp only[anM] at ho;split at ho
  ·rename_i s hs
   exact ⟨s,hs,ho⟩
  ·exact ho.elim
 |stop g td c stk=>exact ho
end
def akr:List (Nat×SB)->List Nat
 |[]=>[] |(_,.Hf _ _ _ _ more)::l=>JL more++akr l |_::l=>akr l
def Sz(A:Prim)(hp:List (Nat×SB)):SB->SB
 | .Hf e st n g more=>match Iw hp more with
  |some l=>.own e st (A.addN n (more.length / st)) (A.snoc g n (Bh (chunks st (more.length / st) l))) |none=>.Hf e st n g more
 |sb=>sb
def Xb(A:Prim)(hp:List (Nat×SB)):List (Nat×SB)->List (Nat×SB)
 |[]=>[] |(i,sb)::l=>(i,Sz A hp sb)::Xb A hp l
def settle(A:Prim)(hp:List (Nat×SB)):Option (List (Nat×SB)):=(freeze hp (akr hp)).map fun hp=>Xb A hp hp
section
variable{P:Program}{C:Ctx}{K:Kx}{H H' H0:Mem}{E E':Env}{w w' w0:World}
theorem QC{A:Prim}{hp:List (Nat×SB)}{i:Nat}:∀{l:List (Nat×SB)},Ak (Xb A hp l) i=(Ak l i).map (Sz A hp)
 |[]=>rfl |(j,sb)::l=>by
  simp only[Xb,Ak];cases h:j==i<;>simp only[cond_true,cond_false,Option.map_some]
  exact QC
theorem SA{hp:List (Nat×SB)}(hh:AO K H E w hp){i:Nat}{sb:SB}(h:GI K H E w i sb):GI K H E w i (Sz Ai hp sb)/\Bd E i (Sz Ai hp sb)=Bd E i sb:=by
 unfold Sz;split
 ·rename_i e st n g more
  split
  ·rename_i l hl
   obtain ⟨v,xs,ys,he,h1,h2,h3,h4,h5,h6⟩:=h;refine ⟨⟨v,xs++ys,he,h1,?_,h6⟩,by simp[Bd]⟩;have hlen:=h3.length;have hm:=Nat.div_add_mod more.length st;rw[h4,jC,Nat.mul_comm] at hm;exact aaN h2 (JQ (show ys.length=more.length / st*st by rw[hm];exact hlen) (Ep hh hl h3) (Fv h5 h3))
  ·exact ⟨h,rfl⟩
 ·exact ⟨h,rfl⟩
theorem aiT{hp hp':List (Nat×SB)}(h:settle Ai hp=ak hp')(hh:AO K H E w hp)(hw:Eh K H w):∃H',H.le H'/\AO K H' E w hp'/\Eh K H' w:=by
 unfold settle at h;cases hf:freeze hp (akr hp) with
 |none=>rw[hf] at h;cases h |some hp1=>
  rw[hf] at h;cases h;obtain ⟨H',h1,h2,h3,_⟩:=Nw hf hh hw;refine ⟨H',h1,⟨fun id sb hl=>?_,fun id id' sb sb' b l1 l2 o1 o2=>?_⟩,h3⟩
  ·rw[QC] at hl
   cases hx:Ak hp1 id with
   |none=>rw[hx] at hl;cases hl |some s0=>
    rw[hx] at hl;cases hl;exact (SA h2 (h2.ent _ _ hx)).1
  ·rw[QC] at l1 l2
   cases hx:Ak hp1 id with
   |none=>rw[hx] at l1;cases l1 |some s0=>
    cases hy:Ak hp1 id' with
    |none=>rw[hy] at l2;cases l2 |some s1=>
     rw[hx] at l1;rw[hy] at l2;cases l1;cases l2;rw[(SA h2 (h2.ent _ _ hx)).2] at o1;rw[(SA h2 (h2.ent _ _ hy)).2] at o2;exact h2.Gq _ _ _ _ _ hx hy o1 o2
theorem ac5{g:Nat}{td:List It}{c:Core}{stk:List Fr}{φ:Sh->Prop}{hp':List (Nat×SB)}(h:settle Ai c.hp=ak hp')(hgo:Bz P C K g td {c with hp:=hp'} stk emp φ):Bz P C K g td c stk emp φ:=by
 intro H E w a items ms cs fn hfn st hi hs hx;obtain ⟨H',h1,h2,h3⟩:=aiT h st.hp st.BZ;exact hgo H' E w a items ms cs fn hfn ⟨st.den.le h1 fun _ _ e=>e,h2,h3,st.free,st.gl.le h1,st.defers⟩ hi (hs.le h1 fun _ _ e=>e) WV
def aiU(A:Prim)(ts:List N9):abd->Tree ED
 | .fin v c=>match finish c v with
  |some s=>.leaf (.ret s) |none=>.fail
 | .stop g td c stk=>match settle A c.hp with
  |some hp=>WU g td {c with hp:=hp} stk 0 ts
  |none=>.fail
def asw(C:Ctx)(hold:Nat->Bool)(m n g:Nat)(td:List It)(c:Core)(stk:List Fr)(ts:List N9):Tree ED:=(Zg C hold m n g td c stk).bind (aiU C.A ts)
theorem agB(hC:BG P C)(hF:BP P C){hold:Nat->Bool}{m n g:Nat}{td:List It}{c:Core}{stk:List Fr}{ts:List N9}{φ:Sh->Prop}
  (h:(asw C hold m n g td c stk ts).All (Jo P C (K0 H0 w0) ts emp φ)):Bz P C (K0 H0 w0) g td c stk emp φ:=by
 refine KF hC hF (hold:=hold) (m:=m) (n:=n) ((iJ h).mono fun o ho=>?_);cases o with
 |fin v c=>
  simp only[aiU] at ho;split at ho
  ·rename_i s hs
   exact ⟨s,hs,ho⟩
  ·exact ho.elim
 |stop g td c stk=>
  simp only[aiU,hC.A] at ho;split at ho
  ·rename_i hp hs
   exact ac5 hs (Vh (k:=0) (fun j=>by simp) ho)
  ·exact ho.elim
end
def Xc(g:Nat)(td:List It)(c:Core)(stk:List Fr):Nat->List N9->Tree ED
 |_,[]=>.fail |k,t::r=>bif g==t.g&&Jm td t.td&&Sr stk t.stk then match E5 (qC (t.rn c stk) c t.c) (abg c.hp (t.rn c stk) stk t.stk) with
   |some l=>.leaf (.at_ k l) |none=>Xc g td c stk (k+1) r
  else Xc g td c stk (k+1) r
def anO(ts:List N9):abd->Tree ED
 | .fin v c=>match finish c v with
  |some s=>.leaf (.ret s) |none=>.fail
 | .stop g td c stk=>Xc g td c stk 0 ts
section
variable{P:Program}{C:Ctx}{K:Kx}{H0:Mem}{w0:World}
theorem Vk{R:Hp->Prop}{φ:Sh->Prop}{ts:List N9}{g:Nat}{td:List It}{c:Core}{stk:List Fr}:∀{r:List N9} {k:Nat},(∀j,r[j]?=ts[k+j]?)->(Xc g td c stk k r).All (Jo P C K ts R φ)->Bz P C K g td c stk R φ
 |[],_,_,h=>h.elim |t::r,k,hk,h=>by
  have hr:∀j,r[j]?=ts[k+1+j]?:=fun j=>by have:=hk (j+1);simp only[jR] at this;rw[this];congr 1;omega
  unfold Xc at h;cases hb:(g==t.g&&Jm td t.td&&Sr stk t.stk)<;>simp only[hb,cond_true,cond_false] at h
  ·exact Vk hr h
  ·simp only[aI,beq_iff_eq] at hb
   obtain ⟨⟨h1,h2⟩,h3⟩:=hb;split at h
   ·rename_i l hl
    obtain ⟨a,b,q1,q2,rfl⟩:=BN hl;obtain ⟨hl,t',ht,hg⟩:=h;have:=hk 0;simp only[jS,jC] at this;rw[<-this] at ht;cases ht;have h2:=MX h2;subst h1 h2;exact Zh (t.rn c stk) (aiO q1 (eH hl).1) (abj q2 (eH hl).2) hg
   ·exact Vk hr h
end
def adJ(C:Ctx)(pause:Nat->List It->Bool)(hold:Nat->Bool)(m:Nat):Nat->Nat->List It->Core->List Fr->Tree abd
 |0,g,td,c,stk=>.leaf (.stop g td c stk) |n+1,g,td,c,stk=>match C.fns.get g with
  |none=>.fail |some fn=>bif pause g td||holdB hold fn td c then .leaf (.stop g td c stk) else match Qz C fn td c with
   |some r=>adJ C pause hold m n r.1 [.code []] {c with tm:=r.2.2++dU (r.2.1.ntmps - r.2.2.length) .any} ({g,td,tm:=c.tm}::stk)
   |none=>(RQ C (MR C (run C m ay)) aC g fn td c).bind fun s=>match s with
    | .go td c=>adJ C pause hold m n g td c stk | .halt td c=>.leaf (.stop g td c stk) | .done v c=>match stk with
     |[]=>.leaf (.fin v c) |f::stk=>match Sm C f v c with
      |some r=>adJ C pause hold m n f.g r.1 r.2 stk |none=>.fail
section
variable{P:Program}{C:Ctx}{K:Kx}{H H' OQ H0:Mem}{E E' OT E1:Env}{w w' w'' w0:World}
theorem Oq(hC:BG P C)(hF:BP P C){pause:Nat->List It->Bool}{hold:Nat->Bool}{m:Nat}{R:Hp->Prop}{φ:Sh->Prop}:∀{n g:Nat} {td:List It} {c:Core} {stk:List Fr},(adJ C pause hold m n g td c stk).All (akl P C (K0 H0 w0) R φ)->Bz P C (K0 H0 w0) g td c stk R φ
 |0,g,td,c,stk,h=>h |n+1,g,td,c,stk,h=>by
  intro H E w a items ms cs fn hfn st hi hs hx;simp only[adJ,hfn] at h;cases aiP:(pause g td||holdB hold fn td c)<;>simp only[aiP,cond_true,cond_false] at h
  rotate_left
  ·exact h H E w a items ms cs fn hfn st hi hs hx
  split at h
  ·
   rename_i r hr;unfold Qz at hr;split at hr
   ·rename_i p i rest k
    split at hr
    ·rename_i rid ops dr hcode
     split at hr
     ·rename_i o ho
      split at hr
      ·rename_i hwant
       split at hr
       ·rename_i kk hop
        split at hr
        ·rename_i f WT
         split at hr
         ·rename_i g2 caps hev
          split at hr
          ·cases hr
          ·rename_i hspec
           split at hr
           ·rename_i FC hfn2
            cases hb:(iq (kk.args.toList.map (BI c.tm)++caps).length FC.ntmps&&FC.body.isSome)<;>simp only[hb,cond_true,cond_false] at hr
            ·cases hr
            cases hr;simp only[aI] at hb;obtain ⟨body2,JW⟩:=fP.1 hb.2;have ih:=Oq hC hF h;have hP2:=hC.fn g2 FC hfn2;cases hi with
            |reg p l id ops2 hc hk=>
             rw[hc] at hcode;cases hcode;rename_i k';have df:=BA (H:=H) (E:=E) st.den f;rw[hev] at df;obtain ⟨vs,ef,hvs⟩:=df;have hargs:=(Nz st.den kk.args.toList).append hvs;have ho':ops[i]?=ak o:=by simpa[opAt] using ho
             have hw':=Hw (ops:=ops) st.den o;rw[hwant] at hw';have hent:=hF.en g2 (.inr (by rw[hfn2];rfl));have hrun:(execOp a.eval o).run P w=.ok (.enter g2 (kk.args.map a.eval++vs)) w:=by
              simp only[execOp,hop,resolve,WT];simp[jL,ef,invoke,Ih hent]
             have hg:=stepG_op (P:=P) (b:=base g) (k:=k') (cs:=ms++cs) (w:=w) (rest:=rest) ho' hw';have henter:step P (lone ((base g).at a (.inRegion ops (i::rest)::k')) (ms++cs) w)=.next (lone (gQ P g2 (kk.args.map a.eval++vs) .normal) ((base g).at a (.inRegion ops (i::rest)::k')::(ms++cs)) w):=
              step_lone_go (by rw[hg];simp[gX,hrun,Frame.at])
             rw[Le hP2 JW] at henter;have hl:=hargs.length;have hlen:(kk.args.map a.eval++vs).size=(kk.args.toList.map (BI c.tm)++caps).length:=by
              rw[<-hl];simp
             have st2:St C (K0 H0 w0) H E w {c with tm:=(kk.args.toList.map (BI c.tm)++caps)++dU (FC.ntmps - (kk.args.toList.map (BI c.tm)++caps).length) .any} {tmps:=(kk.args.map a.eval++vs)++dY (FC.ntmps - (kk.args.map a.eval++vs).size) undef,defers:=[]}:=by
              refine ⟨?_,st.hp,st.BZ,st.free,st.gl,rfl⟩;have:((kk.args.map a.eval++vs)++dY (FC.ntmps - (kk.args.map a.eval++vs).size) undef).toList=(kk.args.toList.map a.eval++vs.toList)++dU (FC.ntmps - (kk.args.toList.map (BI c.tm)++caps).length) undef:=by
               rw[hlen];simp
              simp only[this];exact hargs.append (rY _ _ (by simp))
             have hit2:CO (Az FC) [.code []] [.code body2]:=by
              have:=iG (body:=Az FC) [] qX;have he:Ba (Az FC) []=body2:=by simp[Ba,Az,JW]
              rwa[he] at this
             have hs2:Gt C H E ({g,td:=.reg p (i::rest)::k,tm:=c.tm}::stk) ((base g).at a (.inRegion ops (i::rest)::k')::ms):=
              ⟨⟨fn,a,_,hfn,st.den,st.defers,.reg p (i::rest) _ ops hc hk,rfl⟩,hs⟩
             obtain ⟨a',w',v,s,H',todo,fn0,q1,q2,q3⟩:=ih H E w _ _ (_::ms) cs FC hfn2 st2 hit2 hs2 hx;exact ⟨a',w',v,s,H',todo,fn0,q1,.head henter q2,q3⟩
           ·cases hr
         ·cases hr
        ·cases hr
       ·cases hr
      ·cases hr
     ·cases hr
    ·cases hr
   ·cases hr
  ·have hK:=TW (K:=Rx H E w c.hp) hC hF (TY hC hF m)
   obtain ⟨sig,h1,h2⟩:=X6 hC hF hK (iJ h) st.re hi (base g) (ms++cs);cases sig with
   |go Gj c'=>
    obtain ⟨a',w',H',E',items',q1,q2,q3,q4⟩:=h2;obtain ⟨a2,w2,v,s,H2,todo,fn0,r1,r2,r3⟩:=Oq hC hF h1 H' E' w' a' items' ms cs fn hfn (st.un q2) q4 (hs.le q3.IX q3.ML) (hx.keep st q2 q3);exact ⟨a2,w2,v,s,H2,todo,fn0,r1,q1.trans r2,r3⟩
   |halt Gj c'=>
    obtain ⟨a',w',H',E',items',q1,q2,q3,q4⟩:=h2;obtain ⟨a2,w2,v,s,H2,todo,fn0,r1,r2,r3⟩:=h1 H' E' w' a' items' ms cs fn hfn (st.un q2) q4 (hs.le q3.IX q3.ML) (hx.keep st q2 q3);exact ⟨a2,w2,v,s,H2,todo,fn0,r1,q1.trans r2,r3⟩
   |done sv c'=>
    obtain ⟨a',w',H',E',v,todo,q1,q2,q3,q4,q5⟩:=h2;cases stk with
    |nil=>
     cases ms with
     |cons _ _=>exact hs.elim |nil=>
      obtain ⟨s,e1,e2⟩:=h1;obtain ⟨H2,r⟩:=Qx (st.un q2) e1 q4;exact ⟨a',w',v,s,H2,todo,fn,hfn,q1,q2.defers,e2,r,q5⟩
    |cons f stk=>
     cases ms with
     |nil=>exact hs.elim |cons mf ms=>
      simp only at h1;split at h1
      ·rename_i r hr
       unfold Sm at hr;split at hr
       ·rename_i OW agt
        split at hr
        ·rename_i p i rest k htd
         split at hr
         ·rename_i rid ops dr hcode
          cases hr;obtain ⟨⟨fn3,a3,akm,g1,g2,g3,g4,g5⟩,hs'⟩:=hs.le q3.IX q3.ML;rw[agt] at g1;cases g1;rw[htd] at g4;cases g4 with
          |reg p l id ops2 hc hk=>
           rw[hc] at hcode;cases hcode;rename_i k';subst g5;have hleave:step P (lone {(base g).at a' todo with mode:=.returning} ((base f.g).at a3 (.inRegion ops (i::rest)::k')::(ms++cs)) w')=.next (lone ((base f.g).at (a3.put ((opAt ops.toList i).bind (·.dst)) v) (.inRegion ops rest::k')) (ms++cs) w'):=by
            rw[step_leave_returned (v:=v) ⟨rfl,q2.defers,rfl,fn,hC.fn g fn hfn,q5⟩,mG];simp[opAt]
           have st3:St C (K0 H0 w0) H' E' w' {c' with tm:=Q9 f.tm ((opAt ops.toList i).bind (·.dst)) sv} (a3.put ((opAt ops.toList i).bind (·.dst)) v):=
            ⟨JV (c:={c' with tm:=f.tm}) g2 _ q4,(st.un q2).hp,(st.un q2).BZ,q2.free,q2.gl,by rw[put_defers];exact g3⟩
           obtain ⟨a2,w2,v2,s,H2,abf,fn0,r1,r2,r3⟩:=Oq hC hF h1 H' E' w' _ _ ms cs OW agt st3 (.reg p rest _ ops hc hk) hs' (hx.keep st q2 q3);exact ⟨a2,w2,v2,s,H2,abf,fn0,r1,(q1.trans (.one hleave)).trans r2,r3⟩
         ·cases hr
        ·cases hr
       ·cases hr
      ·exact h1.elim
def asx(C:Ctx)(pause:Nat->List It->Bool)(m n g:Nat)(td:List It)(c:Core)(stk:List Fr)(ts:List N9):Tree ED:=(adJ C pause (fun _=>ay) m n g td c stk).bind (anO ts)
theorem agC(hC:BG P C)(hF:BP P C){pause:Nat->List It->Bool}{m n g:Nat}{td:List It}{c:Core}{stk:List Fr}{ts:List N9}{φ:Sh->Prop}{R:Hp->Prop}
  (h:(asx C pause m n g td c stk ts).All (Jo P C (K0 H0 w0) ts R φ)):Bz P C (K0 H0 w0) g td c stk R φ:=by
 refine Oq hC hF (pause:=pause) (hold:=fun _=>ay) (m:=m) (n:=n) ((iJ h).mono fun o ho=>?_);cases o with
 |fin v c=>
  simp only[anO] at ho;split at ho
  ·rename_i s hs
   exact ⟨s,hs,ho⟩
  ·exact ho.elim
 |stop g td c stk=>exact Vk (k:=0) (fun j=>by simp) ho
end
def CJ(b:Frame)(a:Act)(todo:List Item):Frame:=
 {fn:=b.fn,tmps:=a.tmps,todo,defers:=a.defers++b.defers,mode:=.run,kind:=b.kind,roundOf:=b.roundOf}
def SC(b:Frame)(a:Act):Act:={a with defers:=a.defers++b.defers}
theorem Dz(b:Frame)(a:Act)(todo:List Item):CJ b a todo=b.atR (SC b a) todo:=rfl
theorem QD(b:Frame)(a:Act):(SC b a).eval=a.eval:=funext fun x=>by cases x<;>rfl
theorem adK(b:Frame)(a:Act)(d:Option Nat)(v:Value):(SC b a).put d v=SC b (a.put d v):=by cases d<;>rfl
def bq(g:Nat)(r:Option Nat)(ds:List Deferred):Frame:={(default:Frame) with fn:=g,kind:=.normal,roundOf:=r,defers:=ds}
theorem Ya(g:Nat)(a:Act)(todo:List Item):CJ (bq g aK []) a todo=(base g).at a todo:=by simp[CJ,Frame.at,bq,base]
theorem SE(b:Frame)(a:Act)(ops:Array Oper)(i:Nat)(rest:List Nat)(k:List Item)(v:Value):
  (CJ b a (.inRegion ops (i::rest)::k)).finish v=CJ b (a.put ((ops[i]?).bind (·.dst)) v) (.inRegion ops rest::k):=by
 rw[Dz,Frame.finish_atR,adK,<-Dz]
section moves
variable{P:Program}{b:Frame}{a:Act}{k:List Item}{cs:List Frame}{w:World}{ops:Array Oper}
theorem anP:step P (lone (CJ b a (.code .skip::k)) cs w)=.next (lone (CJ b a k) cs w):=by rw[Dz,Dz];exact stepR_skip
theorem agD{id:Nat}:step P (lone (CJ b a (.inBlock id::k)) cs w)=.next (lone (CJ b a k) cs w):=by rw[Dz,Dz];exact stepR_inBlock
theorem arj{x y:Code}:step P (lone (CJ b a (.code (.seq x y)::k)) cs w)=.next (lone (CJ b a (.code x::.code y::k)) cs w):=by rw[Dz,Dz];exact stepR_seq
theorem anQ{c:Operand}{x y:Code}{t:Bool}(h:a.eval c=.bool t):step P (lone (CJ b a (.code (.cond c x y)::k)) cs w)=.next (lone (CJ b a (.code (if t then x else y)::k)) cs w):=by
 rw[Dz,Dz];exact stepR_cond (by rw[QD];exact h)
theorem alL{id:Nat}{c:Code}:step P (lone (CJ b a (.code (.block id c)::k)) cs w)=.next (lone (CJ b a (.code c::.inBlock id::k)) cs w):=by rw[Dz,Dz];exact stepR_block
theorem agE{c:Code}:step P (lone (CJ b a (.code (.loop c)::k)) cs w)=.next (lone (CJ b a (.code c::.inLoop c::k)) cs w):=by rw[Dz,Dz];exact stepR_loop
theorem abq{c:Code}:step P (lone (CJ b a (.inLoop c::k)) cs w)=.next (lone (CJ b a (.code c::.inLoop c::k)) cs w):=by rw[Dz,Dz];exact stepR_inLoop
theorem anR{id:Nat}{k':List Item}(h:exitTo id k=ak k'):step P (lone (CJ b a (.code (.exit id)::k)) cs w)=.next (lone (CJ b a k') cs w):=by rw[Dz,Dz];exact stepR_exit h
theorem ark(hb:b.roundOf=aK):step P (lone (CJ b a (.code .ret::k)) cs w)=.next (lone {CJ b a (.code .ret::k) with mode:=.returning} cs w):=by rw[Dz];exact stepR_ret hb
theorem arl(hb:b.roundOf=aK):step P (lone (CJ b a []) cs w)=.next (lone {CJ b a [] with mode:=.returning} cs w):=by rw[Dz];exact stepR_end hb
theorem aiV{id:Nat}:step P (lone (CJ b a (.code (.region id ops ay)::k)) cs w)=.next (lone (CJ b a (.inRegion ops (aZ ops.size)::k)) cs w):=by rw[Dz,Dz];exact stepR_region
theorem SH:step P (lone (CJ b a (.inRegion ops []::k)) cs w)=.next (lone (CJ b a k) cs w):=by rw[Dz,Dz];exact stepR_region_end
theorem ZT{id:Nat}:step P (lone (CJ b a (.code (.region id ops aC)::k)) cs w) =
   .next (lone (CJ b a (.inRegion ops (oK (P.follows .mixedOrders) ops (w.tape w.drawn (.order b.fn id)))::k)) cs {w with drawn:=w.drawn+1}):=by rw[Dz,Dz];exact stepR_region_draw
end moves
def aiW:Op->Bool
 | .defer _=>ay |_=>aC
def Ej:Code->Bool
 | .seq a b=>Ej a&&Ej b | .cond _ a b=>Ej a&&Ej b | .block _ b=>Ej b | .loop b=>Ej b | .rangeFunc _ _ a b=>Ej a&&Ej b | .region _ ops _=>ops.toList.all fun o=>aiW o.op |_=>aC
theorem abr{c:Code}(h:Ej c=aC)(i:Nat):Ej (child c i)=aC:=by
 unfold child;split<;>simp_all [Ej]
theorem SI{c:Code}(h:Ej c=aC):∀p:List Nat,Ej (Ba c p)=aC
 |[]=>h |i::p=>abr (SI h p) i
theorem Xd{id:Nat}{ops:Array Oper}{dr:Bool}(h:Ej (.region id ops dr)=aC){i:Nat}{o:Oper}(ho:ops[i]?=ak o):∀c,o.op≠.defer c:=by
 intro c hc;simp only[Ej] at h;have hm:o∈ops.toList:=by
  rw[<-Array.getElem?_toList] at ho;exact List.mem_of_getElem? ho
 have:=dF.1 h o hm;rw[hc] at this;cases this
section
variable{P:Program}{C:Ctx}{K:Kx}{H H' OQ:Mem}{E E' OT:Env}{w w' w'':World}
theorem agF{ops:Array Oper}{i:Nat}{rest:List Nat}{Q:Exit->Act->World->Prop}{next:Act->World->Prop}{a:Act}(hnd:∀o,ops[i]?=ak o->∀c,o.op≠.defer c)(hQ:∀e a w,Q e a w->e=.normal)
  (h:wpOp P ops Q i next a w) (b:Frame) (k:List Item) (cs:List Frame) :
  ∃a' w',next a' w'/\Steps P (lone (CJ b a (.inRegion ops (i::rest)::k)) cs w) (lone (CJ b a' (.inRegion ops rest::k)) cs w'):=by
 unfold wpOp at h;cases ho:ops[i]? with
 |none=>
  simp only[ho] at h;have hs:=stepR_op_skip (P:=P) (b:=b) (a:=SC b a) (k:=k) (cs:=cs) (w:=w) (ops:=ops) (i:=i) (rest:=rest) (by simp[ho]);simp only[ho,Option.bind_none,Act.put] at hs;exact ⟨a,w,h,.one hs⟩
 |some o=>
  simp only[ho] at h;by_cases hw:Region.wanted o (yielded ops a.tmps)=aC
  ·simp only[hw,if_true] at h
   rcases h with h|⟨_,_,_,hq⟩
   case inr=>cases hQ _ _ _ hq
   simp only[Oper.wp] at h;have hg:=stepGR_op (P:=P) (b:=b) (a:=SC b a) (k:=k) (cs:=cs) (w:=w) (rest:=rest) ho hw;rw[Oper.semAt_eq _ _ _ (hnd o ho),QD,<-Dz] at hg;have hfin:∀v,(CJ b a (.inRegion ops (i::rest)::k)).finish v=CJ b (a.put o.dst v) (.inRegion ops rest::k):=by
    intro v;rw[SE,ho];rfl
   generalize hr:(execOp a.eval o).run P w=r at h;cases r with
   |ok n w'=>
    cases n<;>simp only[xq] at h
    case value v=>
     refine ⟨_,_,h,.one (step_lone_go ?_)⟩;rw[hg,<-hfin];simp[gX,hr]
    case skip=>
     refine ⟨_,_,h,.one (step_lone_go ?_)⟩;rw[hg,<-hfin];simp[gX,hr]
    case defer d=>
     refine ⟨_,_,h,.one (step_lone_go ?_)⟩;have:({CJ b a (.inRegion ops (i::rest)::k) with defers:=d::(a.defers++b.defers)}:Frame).finish undef =
       CJ b ({a with defers:=d::a.defers}.put o.dst undef) (.inRegion ops rest::k):=by
      have:=SE b {a with defers:=d::a.defers} ops i rest k undef
      rw[ho] at this;exact this
     rw[hg];simp only[gX,Sem.runT_eq,hr,GStep.bare_after];exact congrArg (fun fr=>GStep.go {frame:=fr,callers:=cs,status:=.running,dying:=aK} w') this
    case enter f args=>
     obtain ⟨e,w'',fr,hR,hsteps,_,hleave⟩:=h (CJ b a (.inRegion ops (i::rest)::k)::cs);have henter:step P (lone (CJ b a (.inRegion ops (i::rest)::k)) cs w) =
       .next (lone (gQ P f args .normal) (CJ b a (.inRegion ops (i::rest)::k)::cs) w'):=
      step_lone_go (by rw[hg];simp[gX,hr,CJ])
     cases e with
     |returned v=>
      refine ⟨_,_,hR,.head henter (hsteps.trans (.one ?_))⟩;rw[<-hfin];exact step_leave_returned hleave
     |panicked chain=>cases hQ _ _ _ hR |outgrown=>obtain ⟨_,_,hq⟩:=hR;cases hQ _ _ _ hq
    case row row args=>
     obtain ⟨v,w'',hR,hsteps⟩:=h (CJ b a (.inRegion ops (i::rest)::k)) cs;have henter:step P (lone (CJ b a (.inRegion ops (i::rest)::k)) cs w) =
       .next (lone (Frame.ofRow P row args .normal) (CJ b a (.inRegion ops (i::rest)::k)::cs) w'):=
      step_lone_go (by rw[hg];simp[gX,hr,CJ])
     refine ⟨_,_,hR,.head henter ?_⟩;rw[<-hfin];exact hsteps
    all_goals first|exact h.elim|cases hQ _ _ _ h
   |halt x w'=>
    cases x<;>simp only[xq] at h
    all_goals first|exact h.elim|cases hQ _ _ _ h
  ·simp only[hw,if_false,nM] at h
   have hs:=stepR_op_skip (P:=P) (b:=b) (a:=SC b a) (k:=k) (cs:=cs) (w:=w) (ops:=ops) (i:=i) (rest:=rest)
    (by simp[ho];simpa[SC] using hw)
   simp only[ho,Option.bind_some] at hs;rw[adK] at hs;exact ⟨_,_,h,.one hs⟩
theorem agG{ops:Array Oper}{Q:Exit->Act->World->Prop}(hnd:∀(i:Nat) (o:Oper),ops[i]?=ak o->∀c,o.op≠.defer c)(hQ:∀e a w,Q e a w->e=.normal)(b:Frame)(k:List Item)(cs:List Frame):∀(l:List Nat) (a:Act) (w:World),wpOps P ops Q l a w->
  ∃a' w',Q .normal a' w'/\Steps P (lone (CJ b a (.inRegion ops l::k)) cs w) (lone (CJ b a' k) cs w')
 |[],a,w,h=>⟨a,w,h,.one SH⟩ |i::l,a,w,h=>by
  rw[wpOps_cons] at h;obtain ⟨a1,w1,h1,h2⟩:=agF (hnd i) hQ h b k cs;obtain ⟨a2,w2,h3,h4⟩:=agG hnd hQ b k cs l a1 w1 h1;exact ⟨a2,w2,h3,h2.trans h4⟩
theorem arn{call:Nat->List SV->Core->Tree (SV×Core)}(hC:BG P C)(hF:BP P C)(hK:H8 P C K call){c:Core}{a:Act}{φ:Core->Prop}{ops:Array Oper}{id:Nat}(hnd:∀(i:Nat) (o:Oper),ops[i]?=ak o->∀c,o.op≠.defer c)
  (st:St C K H E w c a) {g:Nat} (h:(drawn C call g ops c).All φ) (b:Frame) (k:List Item) (cs:List Frame) :
  ∃c' a' H' E' w',φ c'/\St C K H' E' w' c' a'/\Mv K H E w c H' E' w' c'/\Steps P (lone (CJ b a (.code (.region id ops aC)::k)) cs w) (lone (CJ b a' k) cs w'):=by
 have h1:=aa1 hC hF hK st h;have hm:=hC.mixed;have hs:∀t,wpOps P ops _ (oK (P.follows .mixedOrders) ops t) a {w with drawn:=w.drawn+1}:=fun t=>by
  simp only[oK,hm,Bool.true_or,if_true];exact wpAny_sound ops.size t _ a _ h1
 obtain ⟨a',w',⟨_,c',H',E',e1,e2,e3⟩,e4⟩:=agG hnd (fun _ _ _ h=>h.1) b k cs _ a _ (hs (w.tape w.drawn (.order b.fn id)));exact ⟨c',a',H',E',w',e1,e2,e3,.head ZT e4⟩
theorem ae4{fn:Func}{c:Core}{φ:Out->Prop}(h:(result C fn c).All φ):∃sv,result C fn c=.leaf (.done sv c)/\φ (.done sv c):=by
 unfold result at h ⊢;split
 ·rename_i sv hs;rw[hs] at h;exact ⟨sv,rfl,h⟩
 ·rename_i l hne hs
  split at h
  ·rename_i sv hs2;rw[hs] at hs2;cases hs2;exact (hne sv rfl).elim
  ·rename_i l2 hne2 hs2;rw[hs] at hs2;cases hs2;exact ⟨_,rfl,h⟩
  ·exact h.elim
 ·rename_i hs;rw[hs] at h;exact h.elim
def anS(P:Program)(C:Ctx)(fn:Func)(H:Mem)(E:Env)(sv:SV)(c:Core)(a:Act):Prop:=
 ∀(K:Kx) (w:World),St C K H E w c a->∃v,Den H E sv v/\(results fn a.tmps).run P w=.ok v w
theorem alM(hC:BG P C){fn:Func}{c:Core}{a:Act}{sv:SV}(h:result C fn c=.leaf (.done sv c)):anS P C fn H E sv c a:=fun K w st=>by
 obtain ⟨sv',v,h1,h2,h3⟩:=aa2 (φ:=fun o=>o=.done sv c) hC st (by rw[h];exact rfl);cases h1;exact ⟨v,h2,h3⟩
def anT(P:Program)(C:Ctx)(K:Kx)(fn:Func)(H:Mem)(E:Env)(w:World)(c:Core)(m:Machine)(b:Frame)(cs:List Frame):Sig->Prop
 | .done sv c'=>∃(a':Act) (w':World) (H':Mem) (E':Env) (todo:List Item),Steps P m (lone {CJ b a' todo with mode:=.returning} cs w')/\St C K H' E' w' c' a'/\Mv K H E w c H' E' w' c'/\anS P C fn H' E' sv c' a'
 | .go Gj c'=>∃(a':Act) (w':World) (H':Mem) (E':Env) (items':List Item),Steps P m (lone (CJ b a' items') cs w')/\St C K H' E' w' c' a'/\Mv K H E w c H' E' w' c'/\CO (Az fn) Gj items' | .halt Gj c'=>∃(a':Act) (w':World) (H':Mem) (E':Env) (items':List Item),Steps P m (lone (CJ b a' items') cs w')/\St C K H' E' w' c' a'/\Mv K H E w c H' E' w' c'/\CO (Az fn) Gj items'
def endsB(fn:Func):List It->Bool
 |[]=>aC | .code p::_=>match Ba (Az fn) p with
  | .ret=>aC |_=>ay
 |_=>ay
theorem alN(hC:BG P C)(hF:BP P C){call:Nat->List SV->Core->Tree (SV×Core)}(hK:H8 P C K call){top:Bool}{g:Nat}{fn:Func}{td:List It}{c:Core}{a:Act}{items:List Item}{φ:Sig->Prop}(hnd:Ej (Az fn)=aC)
  (h:(RQ C call top g fn td c).All φ) (st:St C K H E w c a) (hi:CO (Az fn) td items) (b:Frame) (cs:List Frame) (hr:b.roundOf=aK\/endsB fn td=ay) :
  ∃sig,φ sig/\anT P C K fn H E w c (lone (CJ b a items) cs w) b cs sig:=by
 have LJ:Mv K H E w c H E w c:=Ja st rfl rfl rfl rfl;have go:∀{Gj:List It} {c':Core} {H':Mem} {E':Env} {w':World} {a':Act} {items':List Item},φ (.go Gj c')->St C K H' E' w' c' a'->Mv K H E w c H' E' w' c'->CO (Az fn) Gj items'->
   Steps P (lone (CJ b a items) cs w) (lone (CJ b a' items') cs w')->∃sig,φ sig/\anT P C K fn H E w c (lone (CJ b a items) cs w) b cs sig:=fun h1 h2 h3 h4 h5=>⟨_,h1,_,_,_,_,_,h5,h2,h3,h4⟩
 have fin:∀(todo:List Item),((result C fn c).bind aeF).All φ->step P (lone (CJ b a items) cs w)=.next (lone {CJ b a todo with mode:=.returning} cs w)->∃sig,φ sig/\anT P C K fn H E w c (lone (CJ b a items) cs w) b cs sig:=fun todo hr hs=>by
  obtain ⟨sv,h1,h2⟩:=ae4 (iJ hr);exact ⟨_,h2,a,w,H,E,todo,.one hs,st,LJ,alM hC h1⟩
 unfold RQ at h;split at h
 ·cases hi
  have hb:b.roundOf=aK:=by
   rcases hr with hr|hr
   ·exact hr
   ·cases hr
  exact fin _ h (arl hb)
 ·cases hi with
  |inBlock id hk=>exact go h st LJ hk (.one agD)
 ·exact h.elim
 ·cases hi with
  |reg p l id ops hc hk=>exact go h (st.Ns g) (Ja st rfl rfl rfl rfl) hk (.one SH)
 ·rename_i p i r k
  cases hi with
  |reg p l id ops hc hk=>
   have hd:Ej (.region id ops ay)=aC:=by rw[<-hc];exact SI hnd p
   rw[hc] at h;simp only at h;obtain ⟨a',w',h1,h2⟩:=agF (fun o ho=>Xd hd ho) (fun _ _ _ h=>h.elim) (U9 hC hF hK st (iJ h) (fun a' w'=>∃c' H' E',φ (.go (.reg p r::k) c')/\St C K H' E' w' c' a'/\Mv K H E w c H' E' w' c') (fun _ _ _=>False)
    fun c' a' H' E' w' e1 e2 e3 _=>⟨c',H',E',e1,e2,e3⟩) b _ cs
   obtain ⟨c',H',E',e1,e2,e3⟩:=h1;exact go e1 e2 e3 (.reg p r id ops hc hk) h2
 ·rename_i p k
  have hloop:∀{x:Code},Ba (Az fn) p=x->(∀y,x≠.loop y)->∃k',items=.code x::k'/\CO (Az fn) k k':=fun {x} hx hne=>by
   cases hi with
   |code p hk=>exact ⟨_,by rw[hx],hk⟩ |loop p y hl hk=>exact (hne y (hx.symm.trans hl)).elim
  split at h
  ·rename_i hx
   obtain ⟨k',rfl,hk⟩:=hloop hx (by simp);exact go h st LJ hk (.one anP)
  ·rename_i hx
   obtain ⟨k',rfl,hk⟩:=hloop hx (by simp);have hb:b.roundOf=aK:=by
    rcases hr with hr|hr
    ·exact hr
    ·simp[endsB,hx] at hr
   exact fin _ h (ark hb)
  ·rename_i x y hx
   obtain ⟨k',rfl,hk⟩:=hloop hx (by simp);have h0:Ba (Az fn) (0::p)=x:=by simp[Ba,hx,child]
   have h1:Ba (Az fn) (1::p)=y:=by simp[Ba,hx,child]
   have:=iG (0::p) (iG (1::p) hk);rw[h0,h1] at this;exact go h st LJ this (.one arj)
  ·rename_i id x hx
   obtain ⟨k',rfl,hk⟩:=hloop hx (by simp);have h0:Ba (Az fn) (0::p)=x:=by simp[Ba,hx,child]
   have:=iG (0::p) (CO.inBlock id hk);rw[h0] at this;exact go h st LJ this (.one alL)
  ·rename_i x hx
   have h0:Ba (Az fn) (0::p)=x:=by simp[Ba,hx,child]
   cases hst:C.MQ g p<;>simp only[hst,cond_true,cond_false] at h
   ·cases hi with
    |code p hk=>
     have:=iG (0::p) (pJ p x hx hk);rw[h0] at this;rw[hx] at go ⊢;exact go h st LJ this (.one agE)
    |loop p y hl hk=>
     rw[hx] at hl;cases hl;have:=iG (0::p) (pJ p x hx hk);rw[h0] at this;exact go h st LJ this (.one abq)
   ·exact ⟨_,h,a,w,H,E,items,.refl _ _,st,LJ,hi⟩
  ·rename_i id hx
   obtain ⟨k',rfl,hk⟩:=hloop hx (by simp);split at h
   ·rename_i k2 he
    obtain ⟨k3,h1,h2⟩:=agj hk he;exact go h st LJ h2 (.one (anR h1))
   ·exact h.elim
  ·rename_i x y z hx
   obtain ⟨k',rfl,hk⟩:=hloop hx (by simp);have h0:=iG (0::p) hk;have h1:=iG (1::p) hk;have e0:Ba (Az fn) (0::p)=y:=by simp[Ba,hx,child]
   have e1:Ba (Az fn) (1::p)=z:=by simp[Ba,hx,child]
   rw[e0] at h0;rw[e1] at h1;have dx:=BA (H:=H) (E:=E) st.den x;have cnd:∀t:Bool,a.eval x=.bool t->step P (lone (CJ b a (.code (.cond x y z)::k')) cs w)=.next (lone (CJ b a (.code (if t then y else z)::k')) cs w):=fun t ht=>anQ ht
   split at h
   ·rename_i hv
    rw[hv] at dx;exact go h st LJ h0 (.one (cnd aC dx))
   ·rename_i hv
    rw[hv] at dx;exact go h st LJ h1 (.one (cnd ay dx))
   ·rename_i t hv
    rw[hv] at dx;have st':∀v,t=v->St C K H E w (c.put (V8 x) (.bool v)) a:=fun v hv2=>by
     subst hv2;cases x with
     |tmp d=>exact st.know hv |const u=>exact ⟨st.den,st.hp,st.BZ,st.free,st.gl,st.defers⟩ |global u=>exact ⟨st.den,st.hp,st.BZ,st.free,st.gl,st.defers⟩ |func u=>exact ⟨st.den,st.hp,st.BZ,st.free,st.gl,st.defers⟩
    have mv':∀v:Bool,Mv K H E w c H E w (c.put (V8 x) (.bool v)):=fun v=>Ja st rfl rfl rfl rfl
    cases t with
    |true=>exact go (h.1 rfl) (st' aC rfl) (mv' aC) h0 (.one (cnd aC dx)) |false=>exact go (h.2 rfl) (st' ay rfl) (mv' ay) h1 (.one (cnd ay dx))
   ·exact h.elim
  ·rename_i id ops dr hx
   obtain ⟨k',rfl,hk⟩:=hloop hx (by simp);have hd:Ej (.region id ops dr)=aC:=by rw[<-hx];exact SI hnd p
   cases dr with
   |false=>
    simp only[cond_false] at h;exact go h st LJ (.reg p (aZ ops.size) id ops hx hk) (.one aiV)
   |true=>
    simp only[cond_true] at h;have key:∀(f:Core->Tree Sig),((drawn C call g ops c).bind f).All φ->∃c' a' H' E' w',(f c').All φ/\St C K H' E' w' c' a'/\Mv K H E w c H' E' w' c'/\Steps P (lone (CJ b a (.code (.region id ops aC)::k')) cs w) (lone (CJ b a' k') cs w'):=fun f hf=>
     arn (id:=id) hC hF hK (fun i o ho=>Xd hd ho) st (iJ hf) b k' cs
    cases hl:(top && !(drawn C call g ops c).lone)<;>simp only[hl,cond_true,cond_false] at h
    ·obtain ⟨c',a',H',E',w',h1,h2,h3,h4⟩:=key _ h
     exact go h1 h2 h3 hk h4
    ·obtain ⟨c',a',H',E',w',h1,h2,h3,h4⟩:=key _ h
     exact ⟨_,h1,a',w',H',E',k',h4,h2,h3,hk⟩
  ·exact h.elim
end
inductive OX where
 |ready|busy|done (q:List Nat)
structure Fw where
 g:Nat
 r:Option (Nat×Nat)
 td:List It
 tm:List SV
 lp:Option (Nat×List Nat×OX)
def KH:OX->LoopState
 | .ready=>.ready | .busy=>.busy | .done _=>.done
def Gl(body:Code):OX->Option Code
 | .done q=>ak (Ba body q) |_=>aK
def marks(rs:List Nat):List Deferred:=rs.map fun r=>{target:=.collected r,args:=#[]}
def Ut(r:Option (Nat×Nat)):Option Nat:=r.map (·.1)
def Rz(f:Fw):List Nat:=match f.lp with
 |some (l,_,_)=>[l] |none=>[]
def agH(fn:Func)(g:Nat)(tmps:Array Value)(p:List Nat)(s:OX)(o:Obj):Prop:=
 ∃x ps ca cb df,Ba (Az fn) p=.rangeFunc x ps ca cb/\o=.loop {state:=KH s,pending:=Gl (Az fn) s,fn:=g,tmps,params:=ps,assign:=ca,body:=cb,defers:=df}
def Zm(C:Ctx)(H:Mem)(E:Env)(h:Hp)(f:Fw)(mf:Frame)(rs:List Nat):Prop:=
 ∃fn a items,C.fns.get f.g=ak fn/\AA H E f.tm a.tmps.toList/\a.defers=[]/\CO (Az fn) f.td items/\(∀x∈rs,h x=ak (.deferred (ak [])))/\
  match f.lp with
  |none=>mf=CJ (bq f.g (Ut f.r) (marks rs)) a items |some (l,p,s)=>mf=CJ (bq f.g (Ut f.r) (marks rs)) a (.inRangeFunc l::items)/\∃o,h l=ak o/\agH fn f.g a.tmps p s o
def FZ(C:Ctx)(H:Mem)(E:Env)(h:Hp):List Fw->List Frame->List Nat->Prop
 |[],[],B=>B=[] |f::s,mf::ms,B=>∃rs B',B=rs++Rz f++B'/\Zm C H E h f mf rs/\FZ C H E h s ms B' |_,_,_=>False
def IB(h:Hp)(K:Kx)(H:Mem)(E:Env)(w:World)(hp:List (Nat×SB)):Prop:=
 ∀b o,h b=ak o->w.heap[b]?=ak o/\H b=aK/\(∀id sb,Ak hp id=ak sb->Bd E id sb≠ak b)/\(K.w0.heap.size<=b\/K.own b)
def Rj(g:Nat):List Fw->Nat
 |[]=>g |f::s=>Rj f.g s
def agI(P:Program)(C:Ctx)(K:Kx)(bot:Nat)(φ:Sh->Prop)(m:Machine)(cs:List Frame):Prop:=
 ∃(a':Act) (w':World) (v:Value) (s:Sh) (H':Mem) (todo:List Item) (fn0:Func),C.fns.get bot=ak fn0/\Steps P m (lone {(base bot).at a' todo with mode:=.returning} cs w')/\
   a'.defers=[]/\φ s/\Ew K.H0 K.w0 s v H' w'/\(results fn0 a'.tmps).run P w'=.ok v w'
theorem agI.of{P:Program}{C:Ctx}{K:Kx}{bot:Nat}{φ:Sh->Prop}{m m':Machine}{cs:List Frame}(h1:Steps P m m')(h2:agI P C K bot φ m' cs):agI P C K bot φ m cs:=by
 obtain ⟨a',w',v,s,H',todo,fn0,q1,q2,q3⟩:=h2;exact ⟨a',w',v,s,H',todo,fn0,q1,h1.trans q2,q3⟩
def F8(P:Program)(C:Ctx)(K:Kx)(g:Nat)(r:Option (Nat×Nat))(td:List It)(c:Core)(stk:List Fw)(φ:Sh->Prop):Prop:=
 ∀(H:Mem) (E:Env) (w:World) (a:Act) (items:List Item) (rs B:List Nat) (ms cs:List Frame) (fn:Func) (h:Hp),C.fns.get g=ak fn->St C K H E w c a->CO (Az fn) td items->
  (∀x∈rs,h x=ak (.deferred (ak [])))->FZ C H E h stk ms B->(rs++B).Nodup->IB h K H E w c.hp->
  agI P C K (Rj g stk) φ (lone (CJ (bq g (Ut r) (marks rs)) a items) (ms++cs) w) cs
section
variable{P:Program}{C:Ctx}{K:Kx}{H H' OQ H0:Mem}{E E' OT E1:Env}{w w' w'' w0:World}{h:Hp}
theorem Zm.le(hH:H.le H')(hE:E.le E'){f:Fw}{mf:Frame}{rs:List Nat}(x:Zm C H E h f mf rs):Zm C H' E' h f mf rs:=by
 obtain ⟨fn,a,items,h1,h2,h3⟩:=x;exact ⟨fn,a,items,h1,h2.le hH hE,h3⟩
theorem FZ.le(hH:H.le H')(hE:E.le E'):∀{s:List Fw} {ms:List Frame} {B:List Nat},FZ C H E h s ms B->FZ C H' E' h s ms B
 |[],[],_,x=>x |_::_,_::_,_,⟨rs,B',h1,h2,h3⟩=>⟨rs,B',h1,h2.le hH hE,FZ.le hH hE h3⟩ |[],_::_,_,x=>x.elim |_::_,[],_,x=>x.elim
theorem IB.keep{c c':Core}{a a':Act}(hx:IB h K H E w c.hp)(st:St C K H E w c a)(st':St C (Rx H E w c.hp) H' E' w' c' a'):IB h K H' E' w' c'.hp:=by
 intro b o e;obtain ⟨h1,h2,h3,h4⟩:=hx b o e;have hlt:=(bH.1 h1).1;have hno:¬(Rx H E w c.hp).own b:=fun ⟨id,sb,q1,q⟩=>h3 id sb q1 q;refine ⟨by rw[st'.BZ.kept b hlt hno];exact h1,?_,fun id sb hl ho=>?_,h4⟩
 ·cases hx:H' b with
  |none=>rfl |some o'=>
   rcases st'.BZ.fresh b (by rw[hx];simp) with q|q|q
   ·exact (q h2).elim
   ·have q:w.heap.size<=b:=q;omega
   ·exact (hno q).elim
 ·obtain ⟨_,_,q⟩:=(st'.hp.ent id sb hl).lt ho
  rcases q with q|q
  ·have q:w.heap.size<=b:=q;omega
  ·exact hno q
theorem IB.weak{ρ:List (Nat×Rn)}{c c':Core}{a:Act}(hx:IB h K H E w c.hp)(st:St C K H E w c a)(hle:leC ρ c c'):IB h K H (F6 ρ E) w c'.hp:=by
 intro b o e;obtain ⟨h1,h2,h3,h4⟩:=hx b o e;refine ⟨h1,h2,fun id sb hl ho=>?_,h4⟩;obtain ⟨id0,s0,_,q1,q2⟩:=(WQ st.hp (WR hle.2.1 hl)).2 b ho;exact h3 id0 s0 q1 q2
def IY(h:Hp)(b:Nat)(o:Obj):Hp:=fun x=>if x=b then ak o else h x
theorem NG{b:Nat}{o:Obj}:IY h b o b=ak o:=by simp[IY]
theorem E8{b x:Nat}{o:Obj}(hne:x≠b):IY h b o x=h x:=by simp[IY,hne]
theorem St.putObj{c:Core}{a:Act}(st:St C K H E w c a){b:Nat}{o o':Obj}(hx:IB h K H E w c.hp)(hb:h b=ak o):St C K H E (w.putObj b o') c a:=by
 obtain ⟨h1,h2,h3,h4⟩:=hx b o hb;refine ⟨st.den,⟨fun id sb hl=>(st.hp.ent id sb hl).kept (fun _ _ e=>e) (fun _ _ e=>e) (fun b' hb'=>?_) fun b' hb'=>((st.hp.ent id sb hl).lt hb').2.1,st.hp.Gq⟩,?_,st.free,st.gl,st.defers⟩
 ·exact jH (fun e=>h3 id sb hl (e ▸ hb'))
 ·refine ⟨st.BZ.os,st.BZ.tape,st.BZ.output,by rw[World.putObj_size];exact st.BZ.size,fun b' hlt hno=>?_,fun b' o2 hb'=>?_,st.BZ.le,st.BZ.fresh⟩
  ·rw[jH]
   ·exact st.BZ.kept b' hlt hno
   ·intro e
    subst e;rcases h4 with q|q
    ·omega
    ·exact hno q
  ·rw[jH]
   ·exact st.BZ.on b' o2 hb'
   ·intro e;rw[e,h2] at hb';cases hb'
theorem IB.put{hp:List (Nat×SB)}{b:Nat}{o o':Obj}(hx:IB h K H E w hp)(hb:h b=ak o):IB (IY h b o') K H E (w.putObj b o') hp:=by
 intro x o2 e;by_cases hxb:x=b
 ·subst hxb
  rw[NG] at e;cases e;obtain ⟨h1,h2⟩:=hx x o hb;exact ⟨World.putObj_heap_same (bH.1 h1).1,h2⟩
 ·rw[E8 hxb] at e
  obtain ⟨h1,h2⟩:=hx x o2 e;exact ⟨by rw[jH hxb];exact h1,h2⟩
theorem heap_alloc_old(w:World)(o:Obj)(x:Nat)(h:x<w.heap.size):(w.alloc o).heap[x]?=w.heap[x]?:=by
 show (w.heap.push o)[x]?=_;simp[Array.getElem?_push,Nat.ne_of_lt h]
theorem St.Yb{c:Core}{a:Act}(st:St C K H E w c a)(o:Obj):St C K H E (w.alloc o) c a:=
 ⟨st.den,⟨fun id sb hl=>(st.hp.ent id sb hl).kept (fun _ _ e=>e) (fun _ _ e=>e) (fun b hb=>heap_alloc_old w o b ((st.hp.ent id sb hl).lt hb).1) fun _ hb=>((st.hp.ent id sb hl).lt hb).2.1,st.hp.Gq⟩,
  st.BZ.alloc o,st.free,st.gl,st.defers⟩
theorem IB.alloc{c:Core}{a:Act}(hx:IB h K H E w c.hp)(st:St C K H E w c a)(o:Obj):IB (IY h w.heap.size o) K H E (w.alloc o) c.hp:=by
 intro x o2 e;by_cases hxb:x=w.heap.size
 ·subst hxb
  rw[NG] at e;cases e;refine ⟨World.alloc_heap_new w o,?_,fun id sb hl ho=>?_,.inl st.BZ.size⟩
  ·cases hH:H w.heap.size with
   |none=>rfl |some o'=>have:=(bH.1 (st.BZ.on _ _ hH)).1;omega
  ·have:=((st.hp.ent id sb hl).lt ho).1;omega
 ·rw[E8 hxb] at e
  obtain ⟨h1,h2⟩:=hx x o2 e;exact ⟨by rw[heap_alloc_old w o x (bH.1 h1).1];exact h1,h2⟩
theorem Zm.put{f:Fw}{mf:Frame}{rs:List Nat}(x:Zm C H E h f mf rs){b:Nat}{o:Obj}(h1:b ∉ rs)(h2:b ∉ Rz f):Zm C H E (IY h b o) f mf rs:=by
 obtain ⟨fn,a,items,q1,q2,q3,q4,q5,q6⟩:=x;refine ⟨fn,a,items,q1,q2,q3,q4,fun y hy=>by rw[E8 (fun e=>h1 (by rw[<-e];exact hy))];exact q5 y hy,?_⟩;unfold Rz at h2;split at q6
 ·exact q6
 ·rename_i l p s hl
  rw[hl] at h2;obtain ⟨q7,o',q8,q9⟩:=q6;exact ⟨q7,o',by rw[E8 (fun e=>h2 (by simp[e]))];exact q8,q9⟩
theorem FZ.put{b:Nat}{o:Obj}:∀{s:List Fw} {ms:List Frame} {B:List Nat},FZ C H E h s ms B->b ∉ B->FZ C H E (IY h b o) s ms B
 |[],[],_,x,_=>x |f::_,_::_,B,⟨rs,B',h1,h2,h3⟩,hb=>by
  subst h1;simp only[bI,not_or] at hb;exact ⟨rs,B',rfl,h2.put hb.1.1 hb.1.2,FZ.put h3 hb.2⟩
 |[],_::_,_,x,_=>x.elim |_::_,[],_,x,_=>x.elim
theorem FZ.len:∀{s:List Fw} {ms:List Frame} {B:List Nat},FZ C H E h s ms B->s.length=ms.length
 |[],[],_,_=>rfl |_::_,_::_,_,⟨_,_,_,_,h3⟩=>by simp[FZ.len h3] |[],_::_,_,x=>x.elim |_::_,[],_,x=>x.elim
theorem FZ.has:∀{s:List Fw} {ms:List Frame} {B:List Nat},FZ C H E h s ms B->∀x∈B,∃o,h x=ak o
 |[],[],_,e,x,hx=>by have e:_=[]:=e;subst e;cases hx |f::_,_::_,B,⟨rs,B',h1,h2,h3⟩,x,hx=>by
  subst h1;obtain ⟨fn,a,items,q1,q2,q3,q4,q5,q6⟩:=h2;simp only[bI] at hx;rcases hx with (hx|hx) |hx
  ·exact ⟨_,q5 x hx⟩
  ·unfold Rz at hx
   split at q6
   ·rename_i hl;rw[hl] at hx;cases hx
   ·rename_i l p s hl
    rw[hl] at hx;obtain ⟨_,o,q8,_⟩:=q6;have:x=l:=by simpa using hx
    exact ⟨o,this ▸ q8⟩
  ·exact FZ.has h3 x hx
 |[],_::_,_,e,_,_=>e.elim |_::_,[],_,e,_,_=>e.elim
theorem collects{c:Core}{a:Act}:∀{rs:List Nat} {B:List Nat} {h:Hp} {w:World} {s:List Fw} {ms:List Frame} (g:Nat) (todo:List Item) (cs:List Frame),St C K H E w c a->IB h K H E w c.hp->(∀x∈rs,h x=ak (.deferred (ak [])))->FZ C H E h s ms B->(rs++B).Nodup->
  ∃w' h',Steps P (lone {CJ (bq g aK (marks rs)) a todo with mode:=.returning} cs w) (lone {(base g).at a todo with mode:=.returning} cs w')/\St C K H E w' c a/\IB h' K H E w' c.hp/\FZ C H E h' s ms B
 |[],B,h,w,s,ms,g,todo,cs,st,hx,_,hs,_=>⟨w,h,by rw[<-Ya];exact .refl _ _,st,hx,hs⟩ |r::rs,B,h,w,s,ms,g,todo,cs,st,hx,hm,hs,hnd=>by
  have h0:=hm r (List.mem_cons_self ..);have hw:=(hx r _ h0).1;simp only[List.cons_append,List.nodup_cons,bI,not_or] at hnd;have hstep:step P (lone {CJ (bq g aK (marks (r::rs))) a todo with mode:=.returning} cs w)=.next (lone {CJ (bq g aK (marks rs)) a todo with mode:=.returning} cs (w.putObj r (.deferred aK))):=by
   have:=step_collected (P:=P) (fr:={CJ (bq g aK (marks (r::rs))) a todo with mode:=.returning}) (cs:=cs) (w:=w) (d:={target:=.collected r,args:=#[]}) (r:=r) (ds:=marks rs) (calls:=[]) (by simp)
    (by simp[CJ,bq,marks,st.defers]) rfl (run_takeDeferred hw)
   rw[this];simp[CJ,bq,marks,st.defers]
  obtain ⟨w',h',q1,q2,q3,q4⟩:=collects g todo cs (st.putObj (o':=.deferred aK) hx h0) (hx.put (o':=.deferred aK) h0) (fun x hxm=>by
   rw[E8 (fun e=>hnd.1.1 (by rw[<-e];exact hxm))];exact hm x (List.mem_cons_of_mem _ hxm)) (hs.put hnd.1.2) hnd.2
  exact ⟨w',h',.head hstep q1,q2,q3,q4⟩
end
end Go.Sx
