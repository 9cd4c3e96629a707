/- Own work. -/
import Derived.Test.YthehnhaoiijkhaaGreatDoorZ05
import Derived.Laws.StructEq
import Derived.RangeFuncIn
import Derived.RangeFuncRecord
open Int (ofNat)
open Array renaming getElem?_eq_some_iff->bF,replicate->dY
open Bool renaming false->ak,true->aC,and_eq_true->aI,not_true->wP,false_eq_true->nH,not_false->wE,or_eq_true->nC
open Go.Deferred renaming ofValue->jG
open Go.Frame renaming enter->gJ,finish_at->lW
open Go.Op renaming eqFields->o9
open Go.Oper renaming upon->wO
open Go.Region renaming schedule->ou
open Go.Result renaming andThen_ok->fZ
open Go.Sem renaming run_bind->gI,run_ite->zh,run_pure->oZ
open Go.Sx.Cq renaming v->kP
open Go.Sx.Ag renaming any->rH
open Go.Sx.Bj renaming all->dG,D5->eP
open Go.Sx.BX renaming code->iy,nil->qG,loop->o7
open Go.Sx.Tree renaming DI->iE
open Go.World renaming putObj_heap_other->jD
open Go.stepG renaming apply->gW
open List renaming replicate->dS,getElem?_cons_succ->jK,getElem?_cons_zero->jL,drop_zero->jd,contains_cons->sN,all_eq_true->dO,range->aX,mem_append->bK
open Nat renaming blt->gq,ble->gX,le_refl->dn,le_trans->iH,lt_of_lt_of_le->lC,add_zero->jw
open Option renaming some->ay,none->aK,map_eq_some_iff->cu,isSome_iff_exists->dZ
namespace Go.Sx
def adk(r:Option Rn)(id:Nat):Bool:=match r with|some (.id i)=>i==id|_=>ak
def aaM(r:Option Rn):Bool:=match r with|some .nil=>aC|_=>ak
mutual
def qS(hp:List (Nat×SB))(ρ:List (Nat×Rn)):SV->SV->Option (List Bj)
 |_,.any=>ay [] |x,.sym k m=>match x with
  | .int k' n=>CO (k'==k) (ay [.int n m]) | .sym k' n=>CO (k'==k) (ay [.int n m]) |_=>aK
 |x,.test b=>match x with
  | .bool b'=>ay [.bool b' b] | .test b'=>ay [.bool b' b] |_=>aK
 |x,.gs id'=>match x with
  | .gs id=>CO (adk (zY ρ id') id) (ay []) | .Aw=>CO (aaM (zY ρ id')) (ay []) |_=>aK
 |x,.ptr id' off'=>match x with
  | .ptr id off=>CO (adk (zY ρ id') id&&off==off') (ay []) |_=>aK
 |x,.mp id'=>match x with
  | .mp id=>CO (adk (zY ρ id') id) (ay []) |_=>aK
 |x,.fn f' l'=>match x with
  | .fn f l=>CO (f==f') (qL hp ρ l l') |_=>aK
 |x,.agg l'=>match x with
  | .agg l=>qL hp ρ l l' |_=>aK
 |x,.Ak l'=>match x with
  | .Ak l=>qL hp ρ l l' |_=>aK
 |x,.CS t' y=>match x with
  | .CS t z=>CO (t==t') (qS hp ρ z y) |_=>aK
 |x,.sh s=>(DR hp x).map fun s'=>[.sh s' s] |x,.Gq st' n' g' i' off'=>match x with
  | .Gq st n g i off=>CO (st==st'&&off==off') (ay [.nat n n',.Lp g g',.nat i i']) |x=>CO (off'==0) ((DR hp x).map fun s=>[.sh s (.pt (g' i')),.nat (g' i').length st',.bool (gq i' n') aC])
 |x,.int k' n'=>match x with
  | .int k n=>CO (k==k') (ay [.int n n']) | .sym k n=>CO (k==k') (ay [.int n n']) |_=>aK
 |x,.bool b'=>match x with
  | .bool b=>CO (b==b') (ay []) | .test b=>ay [.bool b b'] |_=>aK
 | .EL,.EL=>ay [] | .Aw,.Aw=>ay [] | .F9,.F9=>ay [] | .DN,.DN=>ay [] | .Fp,.Fp=>ay [] | .glob g,.glob g'=>CO (g==g') (ay []) | .str l,.str l'=>ay [.str l l'] | .val v,.val v'=>ay [.val v v'] |_,_=>aK
def qL(hp:List (Nat×SB))(ρ:List (Nat×Rn)):List SV->List SV->Option (List Bj)
 |[],[]=>ay [] |x::l,y::l'=>EM (qS hp ρ x y) (qL hp ρ l l') |_,_=>aK
end
def qM(hp:List (Nat×SB))(ρ:List (Nat×Rn)):List (SV×SV)->List (SV×SV)->Option (List Bj)
 |[],[]=>ay [] |(a,b)::l,(a',b')::l'=>EM (qS hp ρ a a') (EM (qS hp ρ b b') (qM hp ρ l l')) |_,_=>aK
def qB(hp:List (Nat×SB))(ρ:List (Nat×Rn))(id':Nat):SB->Option (List Bj)
 | .box cells' e'=>match zY ρ id' with
  |some (.id id)=>match zY hp id with
   |some (.box cells e)=>CO (e==e') (qL hp ρ cells cells') |_=>aK
  |_=>aK
 | .row cells' e' st' n'=>match zY ρ id' with
  |some (.id id)=>match zY hp id with
   |some (.row cells e st n)=>CO (e==e'&&st==st'&&n==n') (qL hp ρ cells cells') |_=>aK
  |_=>aK
 | .own e' st' n' g'=>match zY ρ id' with
  |some (.id id)=>match V5 hp id with
   |some (e,st,n,g)=>CO (e==e'&&st==st') (ay [.nat n n',.get n g g']) |_=>aK
  |some .nil=>ay [.nat n' 0] |none=>aK
 | .map es'=>match zY ρ id' with
  |some (.id id)=>match zY hp id with
   |some (.map es)=>qM hp ρ es es' |_=>aK
  |_=>aK
 | .fz _ _ _=>aK | .QS _=>aK | .GH _ _ _ _ _=>aK | .fm _ _ _ _ _=>aK | .pm vt' M' us'=>match us',zY ρ id' with
  |[],ay (.id id)=>match zY hp id with
   |some (.pm vt M us)=>match aaK M us with
    |some N=>CO (vt==vt') (ay [.mg N M']) |none=>aK
   |_=>aK
  |_,_=>aK
 | .buf e' l'=>match zY ρ id' with
  |some (.id id)=>match zY hp id with
   |some (.buf e l)=>CO (e==e') (ay [.str l l']) |_=>aK
  |_=>aK
def qH(hp:List (Nat×SB))(ρ:List (Nat×Rn)):List (Nat×SB)->Option (List Bj)
 |[]=>ay [] |(id',sb)::l=>EM (qB hp ρ id' sb) (qH hp ρ l)
def qC(ρ:List (Nat×Rn))(c c':Core):Option (List Bj):=CO (am5 c'.nx ρ) (EM (qL c.hp ρ c.tm c'.tm) (qH c.hp ρ c'.hp))
section
variable{hp:List (Nat×SB)}{ρ:List (Nat×Rn)}
theorem V9{r:Option Rn}{id:Nat}(h:adk r id=aC):r=ay (.id id):=by
 unfold adk at h;split at h
 ·simp only[beq_iff_eq] at h;subst h;rfl
 ·cases h
theorem af9{r:Option Rn}(h:aaM r=aC):r=ay .nil:=by
 unfold aaM at h;split at h
 ·rfl
 ·cases h
mutual
theorem aaN:∀{x:SV} (y:SV) {l:List Bj},qS hp ρ x y=ay l->dG l->EI hp ρ x y
 |x,.any,l,h,ha=>by cases x<;>trivial |x,.sym k m,l,h,ha=>by
  cases x<;>simp only[qS] at h
  all_goals first
   |(cases h;done)
   |(obtain ⟨h1,h2⟩:=AP h;cases h2;simp only[beq_iff_eq] at h1;subst h1;simp only[EI];exact ⟨trivial,ha.1⟩)
 |x,.test b,l,h,ha=>by
  cases x<;>simp only[qS] at h
  all_goals first
   |(cases h;done)
   |(cases h;simp only[EI];exact ha.1)
 |x,.gs id',l,h,ha=>by
  cases x<;>simp only[qS] at h
  all_goals first
   |(cases h;done)
   |(obtain ⟨h1,h2⟩:=AP h;simp only[EI];exact V9 h1)
   |(obtain ⟨h1,h2⟩:=AP h;simp only[EI];exact af9 h1)
 |x,.ptr id' off',l,h,ha=>by
  cases x<;>simp only[qS] at h
  all_goals first
   |(cases h;done)
   |(obtain ⟨h1,h2⟩:=AP h;simp only[aI,beq_iff_eq] at h1;simp only[EI];exact ⟨V9 h1.1,h1.2⟩)
 |x,.mp id',l,h,ha=>by
  cases x<;>simp only[qS] at h
  all_goals first
   |(cases h;done)
   |(obtain ⟨h1,h2⟩:=AP h;simp only[EI];exact V9 h1)
 |x,.fn f' l',l,h,ha=>by
  cases x<;>simp only[qS] at h
  all_goals first
   |(cases h;done)
   |(obtain ⟨h1,h2⟩:=AP h;simp only[beq_iff_eq] at h1;simp only[EI];exact ⟨h1,Oq l' h2 ha⟩)
 |x,.agg l',l,h,ha=>by
  cases x<;>simp only[qS] at h
  all_goals first
   |(cases h;done)
   |(simp only[EI];exact Oq l' h ha)
 |x,.Ak l',l,h,ha=>by
  cases x<;>simp only[qS] at h
  all_goals first
   |(cases h;done)
   |(simp only[EI];exact Oq l' h ha)
 |x,.CS t' y,l,h,ha=>by
  cases x<;>simp only[qS] at h
  all_goals first
   |(cases h;done)
   |(obtain ⟨h1,h2⟩:=AP h;simp only[beq_iff_eq] at h1;simp only[EI];exact ⟨h1,aaN y h2 ha⟩)
 |x,.sh s,l,h,ha=>by
  have h0:∃s',DR hp x=ay s'/\s'=s:=by
   cases x<;>simp only[qS,cu] at h
   all_goals
    obtain ⟨s',h1,rfl⟩:=h;exact ⟨s',h1,ha.1⟩
  obtain ⟨s',h1,rfl⟩:=h0;cases x<;>simp only[EI]<;>exact .inl h1
 |x,.int k n,l,h,ha=>by
  cases x<;>simp only[qS] at h
  all_goals first
   |(cases h;done)
   |(obtain ⟨h1,h2⟩:=AP h;cases h2;simp only[beq_iff_eq] at h1;simp only[EI];exact ⟨h1,ha.1⟩)
 |x,.bool b,l,h,ha=>by
  cases x<;>simp only[qS] at h
  all_goals first
   |(cases h;done)
   |(obtain ⟨h1,h2⟩:=AP h;simp only[beq_iff_eq] at h1;simp only[EI];exact h1)
   |(cases h;simp only[EI];exact ha.1)
 |x,.EL,l,h,ha=>by cases x<;>simp only[qS] at h<;>first|(cases h;done) |(simp only[EI])
 |x,.Aw,l,h,ha=>by cases x<;>simp only[qS] at h<;>first|(cases h;done) |(simp only[EI])
 |x,.F9,l,h,ha=>by cases x<;>simp only[qS] at h<;>first|(cases h;done) |(simp only[EI])
 |x,.DN,l,h,ha=>by cases x<;>simp only[qS] at h<;>first|(cases h;done) |(simp only[EI])
 |x,.Fp,l,h,ha=>by cases x<;>simp only[qS] at h<;>first|(cases h;done) |(simp only[EI])
 |x,.glob g,l,h,ha=>by
  cases x<;>simp only[qS] at h
  all_goals first
   |(cases h;done)
   |(obtain ⟨h1,h2⟩:=AP h;simp only[beq_iff_eq] at h1;simp only[EI];exact h1)
 |x,.str s,l,h,ha=>by
  cases x<;>simp only[qS] at h
  all_goals first
   |(cases h;done)
   |(cases h;simp only[EI];exact ha.1)
 |x,.val s,l,h,ha=>by
  cases x<;>simp only[qS] at h
  all_goals first
   |(cases h;done)
   |(cases h;simp only[EI];exact ha.1)
 |x,.Gq st n g i off,l,h,ha=>by
  have key:∀(q:Option Sh),CO (off==0) (q.map fun s=>[Bj.sh s (.pt (g i)),.nat (g i).length st,.bool (gq i n) aC])=ay l->q=ay (.pt (g i))/\off=0/\(g i).length=st/\i<n:=fun q h=>by
   obtain ⟨h1,h2⟩:=AP h;simp only[cu] at h2;obtain ⟨s,h3,rfl⟩:=h2;have e1:s=.pt (g i):=ha.1;exact ⟨by rw[h3,e1],by simpa using h1,ha.2.1,ER ha.2.2.1⟩
  cases x<;>simp only[qS] at h
  case Gq=>obtain ⟨h1,h2⟩:=AP h;cases h2;simp only[aI,beq_iff_eq] at h1;simp only[EI];exact ⟨h1.1,ha.1,ha.2.1,ha.2.2.1,h1.2⟩
  all_goals
   simp only[EI];exact key _ h
 |x,.gp id st i off,l,h,ha=>by cases x<;>simp only[qS] at h<;>cases h |x,.ev id,l,h,ha=>by cases x<;>simp only[qS] at h<;>cases h |x,.vw id n,l,h,ha=>by cases x<;>simp only[qS] at h<;>cases h
theorem Oq:∀{l:List SV} (l':List SV) {q:List Bj},qL hp ρ l l'=ay q->dG q->leL hp ρ l l'
 |[],[],_,_,_=>trivial |x::l,y::l',q,h,ha=>by
  simp only[qL] at h;obtain ⟨a,b,h1,h2,rfl⟩:=Bq h;exact ⟨aaN y h1 (eP ha).1,Oq l' h2 (eP ha).2⟩
 |[],_::_,_,h,_=>by simp[qL] at h |_::_,[],_,h,_=>by simp[qL] at h
end
theorem am9:∀{l l':List (SV×SV)} {q:List Bj},qM hp ρ l l'=ay q->dG q->leM hp ρ l l'
 |[],[],_,_,_=>trivial |(a,b)::l,(a',b')::l',q,h,ha=>by
  simp only[qM] at h;obtain ⟨q1,q2,h1,h2,rfl⟩:=Bq h;obtain ⟨q3,q4,h3,h4,rfl⟩:=Bq h2;obtain ⟨a1,a2⟩:=eP ha;obtain ⟨a3,a4⟩:=eP a2;exact ⟨aaN a' h1 a1,aaN b' h3 a3,am9 h4 a4⟩
 |[],_::_,_,h,_=>by simp[qM] at h |_::_,[],_,h,_=>by simp[qM] at h
theorem ana{id':Nat}{sb:SB}{q:List Bj}(h:qB hp ρ id' sb=ay q)(ha:dG q):leB hp ρ id' sb:=by
 cases sb with
 |box cells' e'=>
  simp only[qB] at h;simp only[leB];split at h
  ·rename_i id hr
   simp only[hr];split at h
   ·rename_i cells e hl
    simp only[hl];obtain ⟨h1,h2⟩:=AP h;exact ⟨by simpa using h1,Oq _ h2 ha⟩
   ·cases h
  ·cases h
 |row cells' e' st' n'=>
  simp only[qB] at h;simp only[leB];split at h
  ·rename_i id hr
   simp only[hr];split at h
   ·rename_i cells e st n hl
    simp only[hl];obtain ⟨h1,h2⟩:=AP h;simp only[aI,beq_iff_eq] at h1;exact ⟨h1.1.1,h1.1.2,h1.2,Oq _ h2 ha⟩
   ·cases h
  ·cases h
 |own e' st' n' g'=>
  simp only[qB] at h;simp only[leB];split at h
  ·rename_i id hr
   simp only[hr];split at h
   ·rename_i e st n g hl
    simp only[hl];obtain ⟨h1,h2⟩:=AP h;cases h2;simp only[aI,beq_iff_eq] at h1;exact ⟨h1.1,h1.2,ha.1,ha.2.1⟩
   ·cases h
  ·rename_i hr
   simp only[hr];cases h;exact ha.1
  ·cases h
 |map es'=>
  simp only[qB] at h;simp only[leB];split at h
  ·rename_i id hr
   simp only[hr];split at h
   ·rename_i es hl
    simp only[hl];exact am9 h ha
   ·cases h
  ·cases h
 |fz st n g=>simp[qB] at h |QS l=>simp[qB] at h |GH e st n g m=>simp[qB] at h |fm k M fs us t=>simp[qB] at h |pm vt' M' us'=>
  simp only[qB] at h;split at h
  ·rename_i id hr
   split at h
   ·rename_i vt M us hl
    split at h
    ·rename_i N h1
     obtain ⟨h2,h3⟩:=AP h;cases h3;simp only[leB,hr,hl];have e:N=M':=ha.1;rw[e] at h1;exact ⟨trivial,by simpa using h2,h1⟩
    ·cases h
   ·cases h
  ·cases h
 |buf e' l'=>
  simp only[qB] at h;split at h
  ·rename_i id hr
   split at h
   ·rename_i e l hl
    obtain ⟨h1,h2⟩:=AP h;cases h2;simp only[leB,hr,hl];exact ⟨by simpa using h1,ha.1⟩
   ·cases h
  ·cases h
theorem anb:∀{l:List (Nat×SB)} {q:List Bj},qH hp ρ l=ay q->dG q->leH hp ρ l
 |[],_,_,_=>trivial |(id',sb)::l,q,h,ha=>by
  simp only[qH] at h;obtain ⟨a,b,h1,h2,rfl⟩:=Bq h;exact ⟨ana h1 (eP ha).1,anb h2 (eP ha).2⟩
theorem aiu{c c':Core}{q:List Bj}(h:qC ρ c c'=ay q)(ha:dG q):leC ρ c c':=by
 unfold qC at h;obtain ⟨h1,h2⟩:=AP h;obtain ⟨a,b,h3,h4,rfl⟩:=Bq h2;exact ⟨Oq _ h3 (eP ha).1,anb h4 (eP ha).2,h1⟩
end
inductive Fe where
 |ret (s:Sh)
 |at_ (l:List Bj)
def anc:It->It->Bool
 | .code p,.code q=>p==q | .inBlock i,.inBlock j=>i==j | .reg p l,.reg q m=>p==q&&l==m | .Xz,.Xz=>aC |_,_=>ak
def I5:List It->List It->Bool
 |[],[]=>aC |x::l,y::m=>anc x y&&I5 l m |_,_=>ak
theorem ane{x y:It}(h:anc x y=aC):x=y:=by
 cases x<;>cases y<;>simp[anc] at h<;>simp_all
theorem Me:∀{l m:List It},I5 l m=aC->l=m
 |[],[],_=>rfl |x::l,y::m,h=>by
  simp only[I5,aI] at h;rw[ane h.1,Me h.2]
 |[],_::_,h=>by simp[I5] at h |_::_,[],h=>by simp[I5] at h
structure Fr where
 g:Nat
 td:List It
 tm:List SV
inductive aaO where
 |fin (v:SV) (c:Core)
 |stop (g:Nat) (td:List It) (c:Core) (stk:List Fr)
def Qb(C:Ctx)(fn:Func)(td:List It)(c:Core):Option (Nat×Func×List SV):=
 match td with
 | .reg p (i::_)::_=>match AA (Af fn) p with
  | .region _ ops _=>match opAt ops.toList i with
   |some o=>match NJ ops.toList c.tm o with
    | .yes=>match o.op with
     | .call k=>match k.callee with
      | .value f=>match Bg c.tm f with
       | .fn g cs=>match C.spec g with
        |some _=>aK |none=>match C.fns.get g with
         |some fn'=>bif gX (k.args.toList.map (Bg c.tm)++cs).length fn'.ntmps&&fn'.body.isSome then ay (g,fn',k.args.toList.map (Bg c.tm)++cs) else aK |none=>aK
       |_=>aK
      |_=>aK
     |_=>aK
    |_=>aK
   |none=>aK
  |_=>aK
 |_=>aK
def holdB(hold:Nat->Bool)(fn:Func)(td:List It)(c:Core):Bool:=
 match td with
 | .reg p (i::_)::_=>match AA (Af fn) p with
  | .region _ ops _=>match opAt ops.toList i with
   |some o=>match o.op with
    | .call k=>match k.callee with
     | .value f=>match Bg c.tm f with
      | .fn g _=>hold g |_=>ak
     |_=>ak
    |_=>ak
   |none=>ak
  |_=>ak
 |_=>ak
def Ru(C:Ctx)(f:Fr)(v:SV)(c:Core):Option (List It×Core):=
 match C.fns.get f.g with
 |some fn=>match f.td with
  | .reg p (i::r)::k=>match AA (Af fn) p with
   | .region _ ops _=>ay (.reg p r::k,{c with tm:=QH f.tm ((opAt ops.toList i).bind (·.dst)) v})
   |_=>aK
  |_=>aK
 |none=>aK
def YU(C:Ctx)(hold:Nat->Bool)(m:Nat):Nat->Nat->List It->Core->List Fr->Tree aaO
 |0,g,td,c,stk=>.leaf (.stop g td c stk) |n+1,g,td,c,stk=>match C.fns.get g with
  |none=>.fail |some fn=>bif holdB hold fn td c then .leaf (.stop g td c stk) else match Qb C fn td c with
   |some r=>YU C hold m n r.1 [.code []] {c with tm:=r.2.2++dS (r.2.1.ntmps - r.2.2.length) .any} ({g,td,tm:=c.tm}::stk)
   |none=>(Q8 C (L8 C (run C m ak)) aC g fn td c).bind fun s=>match s with
    | .go td c=>YU C hold m n g td c stk | .halt td c=>.leaf (.stop g td c stk) | .done v c=>match stk with
     |[]=>.leaf (.fin v c) |f::stk=>match Ru C f v c with
      |some r=>YU C hold m n f.g r.1 r.2 stk |none=>.fail
def base(g:Nat):Frame:={(default:Frame) with fn:=g,kind:=.normal}
def FX(C:Ctx)(H:Mem)(E:Env):List Fr->List Frame->Prop
 |[],[]=>True |f::s,mf::ms=>(∃fn a items,C.fns.get f.g=ay fn/\Ag H E f.tm a.tmps.toList/\a.defers=[]/\BX (Af fn) f.td items/\mf=(base f.g).at a items)/\FX C H E s ms |_,_=>False
abbrev Hp:=Nat->Option Obj
def Ot(R:Hp->Prop)(K:Kx)(H:Mem)(E:Env)(w:World):Prop:=
 ∃h:Hp,R h/\∀b o,h b=ay o->w.heap[b]?=ay o/\H b=aK/\(∀i,bk E i≠ay b)/\(K.w0.heap.size<=b\/K.own b)
def emp:Hp->Prop:=fun _=>True
def QJ(g:Nat):List Fr->Nat
 |[]=>g |f::s=>QJ f.g s
def Bd(P:Program)(C:Ctx)(K:Kx)(g:Nat)(td:List It)(c:Core)(stk:List Fr)(R:Hp->Prop)(φ:Sh->Prop):Prop:=
 ∀(H:Mem) (E:Env) (w:World) (a:Act) (items:List Item) (ms cs:List Frame) (fn:Func),C.fns.get g=ay fn->St C K H E w c a->BX (Af fn) td items->FX C H E stk ms->Ot R K H E w->
  ∃(a':Act) (w':World) (v:Value) (s:Sh) (H':Mem) (todo:List Item) (fn0:Func),C.fns.get (QJ g stk)=ay fn0/\Steps P (lone ((base g).at a items) (ms++cs) w) (lone {(base (QJ g stk)).at a' todo with mode:=.returning} cs w')/\
   a'.defers=[]/\φ s/\Eu K.H0 K.w0 s v H' w'/\(results fn0 a'.tmps).run P w'=.ok v w'
section
variable{P:Program}{C:Ctx}{K:Kx}{H H' Om H0:Mem}{E E' Oo E1:Env}{w w' w'' w0:World}
theorem FX.le(hH:H.le H')(hE:E.le E'):∀{s:List Fr} {ms:List Frame},FX C H E s ms->FX C H' E' s ms
 |[],[],_=>trivial |_::_,_::_,⟨⟨fn,a,items,h1,h2,h3⟩,h4⟩=>⟨⟨fn,a,items,h1,h2.le hH hE,h3⟩,FX.le hH hE h4⟩ |[],_::_,h=>h.elim |_::_,[],h=>h.elim
def QT(H:Mem)(E:Env)(w:World)(hp:List (Nat×SB)):Kx:=⟨w,fun b=>∃id sb,zY hp id=ay sb/\AL E id sb=ay b,H⟩
theorem Gi.QT{K1 K2:Kx}{id:Nat}{sb:SB}(h:Gi K1 H E w id sb)(hm:∀b,AL E id sb=ay b->Mine K1 H b->Mine K2 H b):Gi K2 H E w id sb:=by
 cases sb with
 |box cells elem=>obtain ⟨b,cs,he,h1,h2,h3⟩:=h;exact ⟨b,cs,he,h1,h2,hm b (by simp[AL,he,Ai]) h3⟩ |row cells elem st n=>obtain ⟨v,xs,he,h1,h2,h3⟩:=h;exact ⟨v,xs,he,h1,h2,fun b hb=>hm b (by simp[AL,he,hb]) (h3 b hb)⟩ |own elem st n g=>obtain ⟨v,xs,he,h1,h2,h3⟩:=h;exact ⟨v,xs,he,h1,h2,fun b hb=>hm b (by simp[AL,he,hb]) (h3 b hb)⟩ |fz st n g=>exact h |map es=>obtain ⟨b,ms,clk,he,h1,h2,h3⟩:=h;exact ⟨b,ms,clk,he,h1,h2,hm b (by simp[AL,he,Ai]) h3⟩ |QS l=>exact h |GH elem st n g more=>obtain ⟨v,xs,ys,he,h1,h2,h3,h4,h5,h6⟩:=h;exact ⟨v,xs,ys,he,h1,h2,h3,h4,h5,fun b hb=>hm b (by simp[AL,he,hb]) (h6 b hb)⟩ |fm k M fs us tag=>obtain ⟨b,ms,clk,fv,uv,he,h1,h2,h3,h4,h5,h6,h7⟩:=h;exact ⟨b,ms,clk,fv,uv,he,h1,h2,h3,h4,h5,h6,hm b (by simp[AL,he,Ai]) h7⟩ |pm vt M us=>obtain ⟨b,ms,clk,uv,he,h1,h2,h3,h4,h5,h7⟩:=h;exact ⟨b,ms,clk,uv,he,h1,h2,h3,h4,h5,hm b (by simp[AL,he,Ai]) h7⟩ |buf e l=>obtain ⟨v,he,h1,h3⟩:=h;exact ⟨v,he,h1,fun b hb=>hm b (by simp[AL,he,hb]) (h3 b hb)⟩
theorem aga{hp:List (Nat×SB)}(hh:Aj K H E w hp)(hw:DZ K H w):Aj (QT H E w hp) H E w hp/\DZ (QT H E w hp) H w:=
 ⟨⟨fun id sb hl=>(hh.ent id sb hl).QT fun _ hb hm=>⟨hm.1,.inr ⟨id,sb,hl,hb⟩⟩,hh.FU⟩,
  ⟨rfl,rfl,rfl,dn _,fun _ _ _=>rfl,hw.on,fun _ _ h=>h,fun _ h=>.inl h⟩⟩
theorem aaP{hp:List (Nat×SB)}(hh:Aj K H E w hp)(hw:DZ K H w){b:Nat}(h:w.heap.size<=b\/(QT H E w hp).own b):K.w0.heap.size<=b\/K.own b:=by
 rcases h with h|⟨id,sb,h1,h2⟩
 ·exact .inl (iH hw.size h)
 ·exact ((hh.ent _ _ h1).lt h2).2.2
theorem agb{hp hp':List (Nat×SB)}(hh:Aj K H E w hp)(hw:DZ K H w)(hh':Aj (QT H E w hp) H' E' w' hp')(hw':DZ (QT H E w hp) H' w'):Aj K H' E' w' hp'/\DZ K H' w':=by
 refine ⟨⟨fun id sb hl=>(hh'.ent id sb hl).QT fun b hb hm=>⟨hm.1,aaP hh hw hm.2⟩,hh'.FU⟩,⟨hw'.os.trans hw.os,hw'.tape.trans hw.tape,hw'.output.trans hw.output,iH hw.size hw'.size,fun b hb hn=>?_,hw'.on,fun b o h=>hw'.le b o (hw.le b o h),fun b hb=>?_⟩⟩
 ·rw[hw'.kept b (by have:=hw.size;exact lC hb this) fun ho=>?_]
  ·exact hw.kept b hb hn
  ·rcases aaP hh hw (.inr ho) with h|h
   ·omega
   ·exact hn h
 ·rcases hw'.fresh b hb with h|h
  ·exact hw.fresh b h
  ·exact .inr (aaP hh hw h)
theorem St.re{c:Core}{a:Act}(st:St C K H E w c a):St C (QT H E w c.hp) H E w c a:=
 ⟨st.den,(aga st.hp st.BJ).1,(aga st.hp st.BJ).2,st.free,st.gl,st.defers⟩
theorem St.un{c c':Core}{a a':Act}(st:St C K H E w c a)(st':St C (QT H E w c.hp) H' E' w' c' a'):St C K H' E' w' c' a':=
 ⟨st'.den,(agb st.hp st.BJ st'.hp st'.BJ).1,(agb st.hp st.BJ st'.hp st'.BJ).2,st'.free,st'.gl,st'.defers⟩
theorem Ot.keep{R:Hp->Prop}{c c':Core}{a a':Act}(h:Ot R K H E w)(st:St C K H E w c a)(st':St C (QT H E w c.hp) H' E' w' c' a')(mv:Mv (QT H E w c.hp) H E w c H' E' w' c'):Ot R K H' E' w':=by
 obtain ⟨hh,hr,hb⟩:=h;refine ⟨hh,hr,fun b o e=>?_⟩;obtain ⟨h1,h2,h3,h4⟩:=hb b o e;have hlt:=(bF.1 h1).1;have hno:¬(QT H E w c.hp).own b:=fun ⟨id,sb,_,q⟩=>h3 id (Gl q);refine ⟨by rw[st'.BJ.kept b hlt hno];exact h1,?_,fun i hi=>?_,h4⟩
 ·cases hx:H' b with
  |none=>rfl |some o'=>
   rcases st'.BJ.fresh b (by rw[hx];simp) with q|q|q
   ·exact (q h2).elim
   ·have q:w.heap.size<=b:=q;omega
   ·exact (hno q).elim
 ·cases he:E i with
  |none=>
   rcases mv.NQ i b he hi with q|⟨id,_,q⟩
   ·omega
   ·exact h3 id q
  |some v=>
   have:bk E' i=bk E i:=by simp[bk,he,mv.LV _ _ he]
   rw[this] at hi;exact h3 i hi
def aj1(P:Program)(C:Ctx)(K:Kx)(R:Hp->Prop)(φ:Sh->Prop):aaO->Prop
 | .fin v c=>∃s,finish c v=ay s/\φ s | .stop g td c stk=>Bd P C K g td c stk R φ
theorem KJ{g:Nat}{fn:Func}{body:Code}(hP:P.funcs[g]?=ay fn)(hb:fn.body=ay body)(args:Array Value):
  gJ P g args .normal=(base g).at {tmps:=args++dY (fn.ntmps - args.size) undef,defers:=[]} [.code body]:=by
 simp[gJ,Frame.at,hP,hb,base]
theorem J5(hC:Ba P C)(hF:BA P C){hold:Nat->Bool}{m:Nat}{R:Hp->Prop}{φ:Sh->Prop}:∀{n g:Nat} {td:List It} {c:Core} {stk:List Fr},(YU C hold m n g td c stk).All (aj1 P C (K0 H0 w0) R φ)->Bd P C (K0 H0 w0) g td c stk R φ
 |0,g,td,c,stk,h=>h |n+1,g,td,c,stk,h=>by
  intro H E w a items ms cs fn hfn st hi hs hx;simp only[YU,hfn] at h;cases aiv:holdB hold fn td c<;>simp only[aiv,cond_true,cond_false] at h
  rotate_left
  ·exact h H E w a items ms cs fn hfn st hi hs hx
  split at h
  ·
   rename_i r hr;unfold Qb at hr;split at hr
   ·rename_i p i rest k
    split at hr
    ·rename_i rid ops dr hcode
     split at hr
     ·rename_i o ho
      split at hr
      ·rename_i hwant
       split at hr
       ·rename_i kk hop
        split at hr
        ·rename_i f Wh
         split at hr
         ·rename_i g2 caps hev
          split at hr
          ·cases hr
          ·rename_i hspec
           split at hr
           ·rename_i EY hfn2
            cases hb:(gX (kk.args.toList.map (Bg c.tm)++caps).length EY.ntmps&&EY.body.isSome)<;>simp only[hb,cond_true,cond_false] at hr
            ·cases hr
            cases hr;simp only[aI] at hb;obtain ⟨body2,Jy⟩:=dZ.1 hb.2;have ih:=J5 hC hF h;have hP2:=hC.fn g2 EY hfn2;cases hi with
            |reg p l id ops2 hc hk=>
             rw[hc] at hcode;cases hcode;rename_i k';have df:=AX (H:=H) (E:=E) st.den f;rw[hev] at df;obtain ⟨vs,ef,hvs⟩:=df;have hargs:=(Na st.den kk.args.toList).append hvs;have ho':ops[i]?=ay o:=by simpa[opAt] using ho
             have hw':=GX (ops:=ops) st.den o;rw[hwant] at hw';have hent:=hF.en g2 (.inr (by rw[hfn2];rfl));have hrun:(execOp a.eval o).run P w=.ok (.enter g2 (kk.args.map a.eval++vs)) w:=by
              simp only[execOp,hop,resolve,Wh];simp[jG,ef,invoke,Hw hent]
             have hg:=stepG_op (P:=P) (b:=base g) (k:=k') (cs:=ms++cs) (w:=w) (rest:=rest) ho' hw';have henter:step P (lone ((base g).at a (.inRegion ops (i::rest)::k')) (ms++cs) w)=.next (lone (gJ P g2 (kk.args.map a.eval++vs) .normal) ((base g).at a (.inRegion ops (i::rest)::k')::(ms++cs)) w):=
              step_lone_go (by rw[hg];simp[gW,hrun,Frame.at])
             rw[KJ hP2 Jy] at henter;have hl:=hargs.length;have hlen:(kk.args.map a.eval++vs).size=(kk.args.toList.map (Bg c.tm)++caps).length:=by
              rw[<-hl];simp
             have st2:St C (K0 H0 w0) H E w {c with tm:=(kk.args.toList.map (Bg c.tm)++caps)++dS (EY.ntmps - (kk.args.toList.map (Bg c.tm)++caps).length) .any} {tmps:=(kk.args.map a.eval++vs)++dY (EY.ntmps - (kk.args.map a.eval++vs).size) undef,defers:=[]}:=by
              refine ⟨?_,st.hp,st.BJ,st.free,st.gl,rfl⟩;have:((kk.args.map a.eval++vs)++dY (EY.ntmps - (kk.args.map a.eval++vs).size) undef).toList=(kk.args.toList.map a.eval++vs.toList)++dS (EY.ntmps - (kk.args.toList.map (Bg c.tm)++caps).length) undef:=by
               rw[hlen];simp
              simp only[this];exact hargs.append (rH _ _ (by simp))
             have hit2:BX (Af EY) [.code []] [.code body2]:=by
              have:=iy (body:=Af EY) [] qG;have he:AA (Af EY) []=body2:=by simp[AA,Af,Jy]
              rwa[he] at this
             have hs2:FX C H E ({g,td:=.reg p (i::rest)::k,tm:=c.tm}::stk) ((base g).at a (.inRegion ops (i::rest)::k')::ms):=
              ⟨⟨fn,a,_,hfn,st.den,st.defers,.reg p (i::rest) _ ops hc hk,rfl⟩,hs⟩
             obtain ⟨a',w',v,s,H',todo,fn0,q1,q2,q3⟩:=ih H E w _ _ (_::ms) cs EY hfn2 st2 hit2 hs2 hx;exact ⟨a',w',v,s,H',todo,fn0,q1,.head henter q2,q3⟩
           ·cases hr
         ·cases hr
        ·cases hr
       ·cases hr
      ·cases hr
     ·cases hr
    ·cases hr
   ·cases hr
  ·have hK:=Tq (K:=QT H E w c.hp) hC hF (Tt hC hF m)
   obtain ⟨sig,h1,h2⟩:=XK hC hF hK (iE h) st.re hi (base g) (ms++cs);cases sig with
   |go FW c'=>
    obtain ⟨a',w',H',E',items',q1,q2,q3,q4⟩:=h2;obtain ⟨a2,w2,v,s,H2,todo,fn0,r1,r2,r3⟩:=J5 hC hF h1 H' E' w' a' items' ms cs fn hfn (st.un q2) q4 (hs.le q3.Iz q3.LV) (hx.keep st q2 q3);exact ⟨a2,w2,v,s,H2,todo,fn0,r1,q1.trans r2,r3⟩
   |halt FW c'=>
    obtain ⟨a',w',H',E',items',q1,q2,q3,q4⟩:=h2;obtain ⟨a2,w2,v,s,H2,todo,fn0,r1,r2,r3⟩:=h1 H' E' w' a' items' ms cs fn hfn (st.un q2) q4 (hs.le q3.Iz q3.LV) (hx.keep st q2 q3);exact ⟨a2,w2,v,s,H2,todo,fn0,r1,q1.trans r2,r3⟩
   |done sv c'=>
    obtain ⟨a',w',H',E',v,todo,q1,q2,q3,q4,q5⟩:=h2;cases stk with
    |nil=>
     cases ms with
     |cons _ _=>exact hs.elim |nil=>
      obtain ⟨s,e1,e2⟩:=h1;obtain ⟨H2,r⟩:=P9 (st.un q2) e1 q4;exact ⟨a',w',v,s,H2,todo,fn,hfn,q1,q2.defers,e2,r,q5⟩
    |cons f stk=>
     cases ms with
     |nil=>exact hs.elim |cons mf ms=>
      simp only at h1;split at h1
      ·rename_i r hr
       unfold Ru at hr;split at hr
       ·rename_i Ou agc
        split at hr
        ·rename_i p i rest k htd
         split at hr
         ·rename_i rid ops dr hcode
          cases hr;obtain ⟨⟨fn3,a3,aj2,g1,g2,g3,g4,g5⟩,hs'⟩:=hs.le q3.Iz q3.LV;rw[agc] at g1;cases g1;rw[htd] at g4;cases g4 with
          |reg p l id ops2 hc hk=>
           rw[hc] at hcode;cases hcode;rename_i k';subst g5;have hleave:step P (lone {(base g).at a' todo with mode:=.returning} ((base f.g).at a3 (.inRegion ops (i::rest)::k')::(ms++cs)) w')=.next (lone ((base f.g).at (a3.put ((opAt ops.toList i).bind (·.dst)) v) (.inRegion ops rest::k')) (ms++cs) w'):=by
            rw[step_leave_returned (v:=v) ⟨rfl,q2.defers,rfl,fn,hC.fn g fn hfn,q5⟩,lW];simp[opAt]
           have st3:St C (K0 H0 w0) H' E' w' {c' with tm:=QH f.tm ((opAt ops.toList i).bind (·.dst)) sv} (a3.put ((opAt ops.toList i).bind (·.dst)) v):=
            ⟨Jw (c:={c' with tm:=f.tm}) g2 _ q4,(st.un q2).hp,(st.un q2).BJ,q2.free,q2.gl,by rw[put_defers];exact g3⟩
           obtain ⟨a2,w2,v2,s,H2,aaQ,fn0,r1,r2,r3⟩:=J5 hC hF h1 H' E' w' _ _ ms cs Ou agc st3 (.reg p rest _ ops hc hk) hs' (hx.keep st q2 q3);exact ⟨a2,w2,v2,s,H2,aaQ,fn0,r1,(q1.trans (.one hleave)).trans r2,r3⟩
         ·cases hr
        ·cases hr
       ·cases hr
      ·exact h1.elim
end
structure ND where
 g:Nat
 td:List It
 c:Core
 stk:List Fr
mutual
def coll:SV->SV->List (Nat×Rn)
 | .gs i,.gs j=>[(i,.id j)] | .gs i,.Aw=>[(i,.nil)] | .ptr i _,.ptr j _=>[(i,.id j)] | .mp i,.mp j=>[(i,.id j)] | .fn _ l,.fn _ m=>Nc l m | .agg l,.agg m=>Nc l m | .Ak l,.Ak m=>Nc l m | .CS _ x,.CS _ y=>coll x y |_,_=>[]
def Nc:List SV->List SV->List (Nat×Rn)
 |x::l,y::m=>coll x y++Nc l m |_,_=>[]
end
def anf:List (SV×SV)->List (SV×SV)->List (Nat×Rn)
 |(a,b)::l,(c,d)::m=>coll a c++coll b d++anf l m |_,_=>[]
def ang:Option SB->Option SB->List (Nat×Rn)
 |some (.box l _),ay (.box m _)=>Nc l m |some (.row l _ _ _),ay (.row m _ _ _)=>Nc l m |some (.map l),ay (.map m)=>anf l m |_,_=>[]
def anh:List Fr->List Fr->List (Nat×Rn)
 |f::s,f'::s'=>Nc f.tm f'.tm++anh s s' |_,_=>[]
def infer(hp' hp:List (Nat×SB)):Nat->List (Nat×Rn)->List (Nat×Rn)->List (Nat×Rn)
 |0,_,acc=>acc |_,[],acc=>acc |n+1,(i,r)::t,acc=>match zY acc i with
  |some _=>infer hp' hp n t acc |none=>match r with
   | .id j=>infer hp' hp n (ang (zY hp' i) (zY hp j)++t) ((i,r)::acc) | .nil=>infer hp' hp n t ((i,r)::acc)
def aaR(hp:List (Nat×SB))(ρ:List (Nat×Rn)):List Fr->List Fr->Option (List Bj)
 |[],[]=>ay [] |f::s,f'::s'=>CO (f.g==f'.g&&I5 f.td f'.td) (EM (qL hp ρ f.tm f'.tm) (aaR hp ρ s s')) |_,_=>aK
inductive D8 where
 |ret (s:Sh)
 |at_ (k:Nat) (l:List Bj)
def Rw:List Fr->List Fr->Bool
 |[],[]=>aC |f::s,f'::s'=>f.g==f'.g&&I5 f.td f'.td&&Rw s s' |_,_=>ak
def ND.rn(t:ND)(c:Core)(stk:List Fr):List (Nat×Rn):=infer t.c.hp c.hp 4000 (Nc t.c.tm c.tm++anh t.stk stk) []
def Wi(g:Nat)(td:List It)(c:Core)(stk:List Fr):Nat->List ND->Tree D8
 |_,[]=>.fail |k,t::r=>bif g==t.g&&I5 td t.td&&Rw stk t.stk then match EM (qC (t.rn c stk) c t.c) (aaR c.hp (t.rn c stk) stk t.stk) with
   |some l=>.leaf (.at_ k l) |none=>.fail
  else Wi g td c stk (k+1) r
def ani(ts:List ND):aaO->Tree D8
 | .fin v c=>match finish c v with
  |some s=>.leaf (.ret s) |none=>.fail
 | .stop g td c stk=>Wi g td c stk 0 ts
def AQ(C:Ctx)(hold:Nat->Bool)(m n g:Nat)(td:List It)(c:Core)(stk:List Fr)(ts:List ND):Tree D8:=(YU C hold m n g td c stk).bind (ani ts)
def Jz(P:Program)(C:Ctx)(K:Kx)(ts:List ND)(R:Hp->Prop)(φ:Sh->Prop):D8->Prop
 | .ret s=>φ s | .at_ k l=>dG l/\∃t,ts[k]?=ay t/\Bd P C K t.g t.td t.c t.stk R φ
section
variable{P:Program}{C:Ctx}{K:Kx}{H H' Om H0:Mem}{E E' Oo E1:Env}{w w' w'' w0:World}
def aaS(hp:List (Nat×SB))(ρ:List (Nat×Rn)):List Fr->List Fr->Prop
 |[],[]=>True |f::s,f'::s'=>f.g=f'.g/\f.td=f'.td/\leL hp ρ f.tm f'.tm/\aaS hp ρ s s' |_,_=>False
theorem aaT{hp:List (Nat×SB)}{ρ:List (Nat×Rn)}:∀{s s':List Fr} {q:List Bj},aaR hp ρ s s'=ay q->dG q->aaS hp ρ s s'
 |[],[],_,_,_=>trivial |f::s,f'::s',q,h,ha=>by
  simp only[aaR] at h;obtain ⟨h1,h2⟩:=AP h;obtain ⟨a,b,h3,h4,rfl⟩:=Bq h2;simp only[aI,beq_iff_eq] at h1;exact ⟨h1.1,Me h1.2,Oq _ h3 (eP ha).1,aaT h4 (eP ha).2⟩
 |[],_::_,_,h,_=>by simp[aaR] at h |_::_,[],_,h,_=>by simp[aaR] at h
theorem FX.weak{hp:List (Nat×SB)}{ρ:List (Nat×Rn)}(hh:Aj K H E w hp):∀{s s':List Fr} {ms:List Frame},FX C H E s ms->aaS hp ρ s s'->FX C H (Fz ρ E) s' ms
 |[],[],[],_,_=>trivial |f::s,f'::s',m::ms,⟨⟨fn,a,items,h1,h2,h3,h4,h5⟩,h6⟩,⟨e1,e2,e3,e4⟩=>
  ⟨⟨fn,a,items,by rw[<-e1];exact h1,IK hh _ e3 h2,h3,by rw[<-e2];exact h4,by rw[<-e1];exact h5⟩,FX.weak hh h6 e4⟩
 |[],[],_::_,h,_=>h.elim |_::_,_,[],h,_=>h.elim |[],_::_,_,_,h=>h.elim |_::_,[],_::_,_,h=>h.elim
theorem Ot.weak{R:Hp->Prop}{ρ:List (Nat×Rn)}(h:Ot R K H E w):Ot R K H (Fz ρ E) w:=by
 obtain ⟨hh,h1,h2⟩:=h;refine ⟨hh,h1,fun b o e=>?_⟩;obtain ⟨a1,a2,a3,a4⟩:=h2 b o e;refine ⟨a1,a2,fun i=>?_,a4⟩;unfold bk Fz;cases hr:zY ρ i with
 |none=>simp |some r=>
  cases r with
  |id j=>exact a3 j |nil=>simp[Ai]
theorem agd{hp:List (Nat×SB)}{ρ:List (Nat×Rn)}:∀{s s':List Fr} {g:Nat},aaS hp ρ s s'->QJ g s'=QJ g s
 |[],[],_,_=>rfl |f::s,f'::s',_,⟨e1,_,_,e4⟩=>by simp only[QJ];rw[e1];exact agd e4 |[],_::_,_,h=>h.elim |_::_,[],_,h=>h.elim
theorem YV{g:Nat}{td:List It}{c c':Core}{stk JA:List Fr}{R:Hp->Prop}{φ:Sh->Prop}(ρ:List (Nat×Rn))(hle:leC ρ c c')(hs:aaS c.hp ρ stk JA)(h:Bd P C K g td c' JA R φ):Bd P C K g td c stk R φ:=by
 intro H E w a items ms cs fn hfn st hi hst hx;have:=h H (Fz ρ E) w a items ms cs fn hfn (st.weak hle) hi (hst.weak st.hp hs) hx.weak;rw[agd hs] at this;exact this
theorem UU{R:Hp->Prop}{φ:Sh->Prop}{ts:List ND}{g:Nat}{td:List It}{c:Core}{stk:List Fr}:∀{r:List ND} {k:Nat},(∀j,r[j]?=ts[k+j]?)->(Wi g td c stk k r).All (Jz P C K ts R φ)->Bd P C K g td c stk R φ
 |[],_,_,h=>h.elim |t::r,k,hk,h=>by
  unfold Wi at h;cases hb:(g==t.g&&I5 td t.td&&Rw stk t.stk)<;>simp only[hb,cond_true,cond_false] at h
  ·exact UU (fun j=>by have:=hk (j+1);simp only[jK] at this;rw[this];congr 1;omega) h
  ·simp only[aI,beq_iff_eq] at hb
   obtain ⟨⟨h1,h2⟩,h3⟩:=hb;split at h
   ·rename_i l hl
    obtain ⟨a,b,q1,q2,rfl⟩:=Bq hl;obtain ⟨hl,t',ht,hg⟩:=h;have:=hk 0;simp only[jL,jw] at this;rw[<-this] at ht;cases ht;have h2:=Me h2;subst h1 h2;exact YV (t.rn c stk) (aiu q1 (eP hl).1) (aaT q2 (eP hl).2) hg
   ·exact h.elim
theorem Hl(hC:Ba P C)(hF:BA P C){hold:Nat->Bool}{m n g:Nat}{td:List It}{c:Core}{stk:List Fr}{ts:List ND}{R:Hp->Prop}{φ:Sh->Prop}
  (h:(AQ C hold m n g td c stk ts).All (Jz P C (K0 H0 w0) ts R φ)):Bd P C (K0 H0 w0) g td c stk R φ:=by
 refine J5 hC hF (hold:=hold) (m:=m) (n:=n) ((iE h).mono fun o ho=>?_);cases o with
 |fin v c=>
  simp only[ani] at ho;split at ho
  ·rename_i s hs
   exact ⟨s,hs,ho⟩
  ·exact ho.elim
 |stop g td c stk=>exact UU (k:=0) (fun j=>by simp) ho
theorem agf{g:Nat}{fn:Func}{p:List Nat}{k:List It}{x:Code}{c:Core}{stk:List Fr}{R:Hp->Prop}{φ:Sh->Prop}(hfn:C.fns.get g=ay fn)(hx:AA (Af fn) p=.loop x)
  (h:Bd P C K g (.code (0::p)::.code p::k) c stk R φ):Bd P C K g (.code p::k) c stk R φ:=by
 intro H E w a items ms cs fn' hfn' st hi hs he;rw[hfn] at hfn';cases hfn';have h0:AA (Af fn) (0::p)=x:=by simp[AA,hx,child]
 cases hi with
 |code p hk=>
  have:=iy (0::p) (o7 p x hx hk);rw[h0] at this;rw[hx];obtain ⟨a2,w2,v,s,H',todo,fn0,r0,r1,r2⟩:=h H E w a _ ms cs fn hfn st this hs he;exact ⟨a2,w2,v,s,H',todo,fn0,r0,.head step_loop r1,r2⟩
 |loop p y hl hk=>
  rw[hx] at hl;cases hl;have:=iy (0::p) (o7 p x hx hk);rw[h0] at this;obtain ⟨a2,w2,v,s,H',todo,fn0,r0,r1,r2⟩:=h H E w a _ ms cs fn hfn st this hs he;exact ⟨a2,w2,v,s,H',todo,fn0,r0,.head step_inLoop r1,r2⟩
theorem Wj:Ot emp K H E w:=⟨fun _=>aK,trivial,fun _ _ h=>by cases h⟩
theorem KE(hC:Ba P C){g:Nat}{fn:Func}{F:List Sh->Tree Sh}(hfn:C.fns.get g=ay fn)(hb:fn.body.isSome=aC)
  (h:∀(H:Mem) (w:World) (A8:List Sh) (args:List Value) (φ:Sh->Prop),Dw H A8 args->(F A8).All φ->∃DX:List Sh,Dw H DX args/\∃L,Bd P C (K0 H w) g [.code []] (Aa fn.ntmps DX L) [] emp φ):Ar P C.gls g F:=by
 intro H w A8 args φ hon hg hr hφ;obtain ⟨DX,hr,L,hgo⟩:=h H w A8 args φ hr hφ;obtain ⟨body,hbody⟩:=dZ.1 hb;have hP:=hC.fn g fn hfn;intro cs;let a:Act:={tmps:=args.toArray++dY (fn.ntmps - args.toArray.size) undef,defers:=[]}
 have hlen:=hr.length;have st:St C (K0 H w) H E0 w (Aa fn.ntmps DX L) a:=by
  refine ⟨?_,⟨fun _ _ h=>by simp[Aa,zY] at h,fun _ _ _ _ _ h=>by simp[Aa,zY] at h⟩,⟨rfl,rfl,rfl,dn _,fun _ _ _=>rfl,hon,fun _ _ h=>h,fun _ h=>.inl h⟩,fun _ _ _=>rfl,hg,rfl⟩;have:a.tmps.toList=args++dS (fn.ntmps - DX.length) undef:=by simp[a,hlen]
  rw[this];exact (Jd hr).append (rH _ _ (by simp))
 have hit:BX (Af fn) [.code []] [.code body]:=by
  have:=iy (body:=Af fn) [] qG;have he:AA (Af fn) []=body:=by simp[AA,Af,hbody]
  rwa[he] at this
 obtain ⟨a',w',v,s,H',todo,fn0,q0,q1,q2,q3,q4,q5⟩:=hgo H E0 w a [.code body] [] cs fn hfn st hit trivial Wj;exact ⟨.returned v,w',_,⟨v,s,H',rfl,q3,q4⟩,by rw[KJ hP hbody];exact q1,rfl,rfl,q2,rfl,fn,hP,by cases hfn.symm.trans q0;exact q5⟩
end
def Wn:Code->Bool
 | .loop _=>aC |_=>ak
def ZN(fn:Func):List It->Option (List It)
 | .code p::k=>bif Wn (AA (Af fn) p) then ay (.code (0::p)::.code p::k) else aK |_=>aK
theorem Gu{P:Program}{C:Ctx}{K:Kx}{g:Nat}{fn:Func}{td tb:List It}{c:Core}{stk:List Fr}{R:Hp->Prop}{φ:Sh->Prop}(hfn:C.fns.get g=ay fn)(hx:ZN fn td=ay tb)
  (h:Bd P C K g tb c stk R φ):Bd P C K g td c stk R φ:=by
 unfold ZN at hx;split at hx
 ·rename_i p k
  cases hb:Wn (AA (Af fn) p)<;>simp only[hb,cond_true,cond_false] at hx
  ·cases hx
  ·cases hx
   unfold Wn at hb;split at hb
   ·rename_i x he
    exact agf hfn he h
   ·cases hb
 ·cases hx
def FY(P:Program):List Field->Nat->List SV->Bool
 |[],_,[]=>aC
 |f::r,j,.int .i64 _::z=>f.name != "_" && f.offset==j&&(match P.underlying f.type with|some (.int .i64)=>aC|_=>ak)&&FY P r (j+1) z
 |f::r,j,.bool _::z=>f.name != "_" && f.offset==j&&(match P.underlying f.type with|some .bool=>aC|_=>ak)&&FY P r (j+1) z
 |_,_,_=>ak
def aeE(P:Program)(t:Nat)(z:List SV):Bool:=
 (match P.underlying t with|some (.struct fs)=>FY P fs.toList 0 z|_=>ak) && !P.stoodInHeld t && !P.eqGuardType P.depth t
theorem adl{P:Program}{t:Nat}{k:IntKind}(hu:P.underlying t=ay (.int k))(xs:List Cq)(j:Nat)(n:Int)(hj:xs[j]?=ay (.i n))(w:World):
  (part t (xs.map kP).toArray j).run P w=.ok (.int .i64 n) w:=by
 have:(xs.map kP).toArray[j]?=ay (.int .i64 n):=by simp[hj,kP]
 simp[part,isAgg,run_underlying hu,this]
theorem aaU{P:Program}{t:Nat}(hu:P.underlying t=ay .bool)(xs:List Cq)(j:Nat)(n:Bool)(hj:xs[j]?=ay (.b n))(w:World):
  (part t (xs.map kP).toArray j).run P w=.ok (.bool n) w:=by
 have:(xs.map kP).toArray[j]?=ay (.bool n):=by simp[hj,kP]
 simp[part,isAgg,run_underlying hu,this]
theorem aaV{l:List Cq}{k:IntKind}{n:Int}{z:List SV}(h:CW l (.int k n::z)=aC):∃a r,l=.i a::r/\CW r z=aC:=by
 unfold CW at h;split at h
 ·cases ‹SV.int k n::z=[]›
 ·rename_i e;cases e;exact ⟨_,_,rfl,h⟩
 ·rename_i e;cases e
 ·cases h
theorem YW{l:List Cq}{n:Bool}{z:List SV}(h:CW l (.bool n::z)=aC):∃a r,l=.b a::r/\CW r z=aC:=by
 unfold CW at h;split at h
 ·cases ‹SV.bool n::z=[]›
 ·rename_i e;cases e
 ·rename_i e;cases e;exact ⟨_,_,rfl,h⟩
 ·cases h
theorem aaW{l:List Cq}(h:CW l []=aC):l=[]:=by
 cases l with
 |nil=>rfl |cons a l=>cases a<;>simp[CW] at h
theorem Tz{α:Type}{l:List α}{j:Nat}{a:α}{r:List α}(h:l.drop j=a::r):l[j]?=ay a/\l.drop (j+1)=r:=by
 have h1:l[j]?=ay a:=by
  have:=congrArg (fun x=>x[0]?) h;simpa using this
 refine ⟨h1,?_⟩;have:=congrArg List.tail h;rw[List.tail_drop] at this;exact this
theorem Qc{P:Program}(d:Nat)(w:World)(xs ys:List Cq):∀(fs:List Field) (j:Nat) (z:List SV),FY P fs j z=aC->CW (xs.drop j) z=aC->CW (ys.drop j) z=aC->
  (o9 (d+1) (xs.map kP).toArray (ys.map kP).toArray fs).run P w=.ok (decide (xs.drop j=ys.drop j)) w
 |[],j,z,h,h1,h2=>by
  cases z with
  |cons a z=>simp[FY] at h |nil=>rw[aaW h1,aaW h2];simp[o9]
 |f::fs,j,z,h,h1,h2=>by
  cases z with
  |nil=>simp[FY] at h |cons a0 z=>
  cases a0;case int k n=>
   cases k;case i64=>
    unfold FY at h;simp only[aI,bne_iff_ne,ne_eq,beq_iff_eq] at h;obtain ⟨⟨⟨a1,a2⟩,a3⟩,a4⟩:=h;have hu:P.underlying f.type=ay (.int .i64):=by
     split at a3
     ·assumption
     ·cases a3
    obtain ⟨a,r1,q1,s1⟩:=aaV h1;obtain ⟨b,r2,q2,s2⟩:=aaV h2;obtain ⟨g1,t1⟩:=Tz q1;obtain ⟨g2,t2⟩:=Tz q2;have p1:=adl hu xs j _ g1 w;have p2:=adl hu ys j _ g2 w;have q:=run_equalIn_int (P:=P) w d f.type .i64 .i64 a b hu;have ih:=Qc d w xs ys fs (j+1) z a4 (by rw[t1];exact s1) (by rw[t2];exact s2);have hn:f.name≠ "_" :=by simpa using a1
    simp only[o9,hn,ne_eq,not_false_eq_true,if_true,a2,gI,p1,p2,q,fZ,zh];rw[q1,q2];rw[t1,t2] at ih;by_cases hb:a=b
    ·subst hb
     simp only[beq_self_eq_true,wP,nH,if_false];rw[ih];simp
    ·have hb':(a==b)=ak:=by simpa using hb
     simp only[hb',wE,if_true,oZ];simp[hb]
   all_goals simp[FY] at h
  case bool n=>
   unfold FY at h;simp only[aI,bne_iff_ne,ne_eq,beq_iff_eq] at h;obtain ⟨⟨⟨a1,a2⟩,a3⟩,a4⟩:=h;have hu:P.underlying f.type=ay .bool:=by
    split at a3
    ·assumption
    ·cases a3
   obtain ⟨a,r1,q1,s1⟩:=YW h1;obtain ⟨b,r2,q2,s2⟩:=YW h2;obtain ⟨g1,t1⟩:=Tz q1;obtain ⟨g2,t2⟩:=Tz q2;have p1:=aaU hu xs j _ g1 w;have p2:=aaU hu ys j _ g2 w;have q:=run_equalIn_bool' (P:=P) w d f.type a b hu;have ih:=Qc d w xs ys fs (j+1) z a4 (by rw[t1];exact s1) (by rw[t2];exact s2);have hn:f.name≠ "_" :=by simpa using a1
   simp only[o9,hn,ne_eq,not_false_eq_true,if_true,a2,gI,p1,p2,q,fZ,zh];rw[q1,q2];rw[t1,t2] at ih;by_cases hb:a=b
   ·subst hb
    simp only[beq_self_eq_true,wP,nH,if_false];rw[ih];simp
   ·have hb':(a==b)=ak:=by simpa using hb
    simp only[hb',wE,if_true,oZ];simp[hb]
  all_goals simp[FY] at h
theorem XO{P:Program}{t:Nat}{z:List SV}(h:aeE P t z=aC)(xs ys:List Cq)(w:World)(h1:CW xs z=aC)(h2:CW ys z=aC)(x y:Operand):
  (do eqGuard .eql t x y (.agg (xs.map kP).toArray) (.agg (ys.map kP).toArray);binOp .eql t (.agg (xs.map kP).toArray) (.agg (ys.map kP).toArray):Sem Value).run P w=.ok (.bool (decide (xs=ys))) w/\
  (do eqGuard .neq t x y (.agg (xs.map kP).toArray) (.agg (ys.map kP).toArray);binOp .neq t (.agg (xs.map kP).toArray) (.agg (ys.map kP).toArray):Sem Value).run P w=.ok (.bool (!decide (xs=ys))) w:=by
 unfold aeE at h;simp only[aI,Bool.not_eq_true'] at h;obtain ⟨⟨a1,a2⟩,a3⟩:=h;split at a1
 ·rename_i fs hu
  have hf:P.fieldsOf t=fs:=by simp[Program.fieldsOf,hu]
  have he:=run_equalIn_struct (P:=P) w 9999 t (xs.map kP).toArray (ys.map kP).toArray (by rw[hf];exact hu) a2;rw[hf,Qc 9998 w xs ys fs.toList 0 z a1 (by rw[jd];exact h1) (by rw[jd];exact h2)] at he;simp only[jd] at he;have g1:=run_eqGuard_agg (P:=P) w .eql t x y (xs.map kP).toArray (ys.map kP).toArray a3;have g2:=run_eqGuard_agg (P:=P) w .neq t x y (xs.map kP).toArray (ys.map kP).toArray a3;have b1:=run_eql_struct (P:=P) w t (xs.map kP).toArray (ys.map kP).toArray;have b2:=run_neq_struct (P:=P) w t (xs.map kP).toArray (ys.map kP).toArray;rw[he] at b1 b2;constructor
  ·rw[gI,g1,fZ,b1,fZ]
  ·rw[gI,g2,fZ,b2,fZ]
 ·cases a1
def agh(P:Program):List Nat->Bool
 |[]=>aC |T::r=>(match P.info? T with|some inf=>inf.comparable|none=>ak)&&(match P.underlying T with|some (.pointer e)=>(match P.info? e with|some ie=>ie.size != 0|none=>ak) |_=>ak)&&agh P r
theorem Wp{P:Program}:∀{l:List Nat},agh P l=aC->∀T,l.contains T=aC->∃inf e ie,P.info? T=ay inf/\inf.comparable=aC/\P.underlying T=ay (.pointer e)/\P.info? e=ay ie/\ie.size≠0
 |[],_,T,h=>by simp at h |T'::r,h,T,hT=>by
  simp only[agh,aI] at h;obtain ⟨⟨h1,h2⟩,h3⟩:=h;simp only[sN,nC,beq_iff_eq] at hT;rcases hT with rfl|hT
  ·split at h1
   ·rename_i inf hi
    split at h2
    ·rename_i e he
     split at h2
     ·rename_i ie hie
      exact ⟨inf,e,ie,hi,h1,he,hie,by simpa using h2⟩
     ·cases h2
    ·cases h2
   ·cases h1
  ·exact Wp h3 T hT
def Wq(P:Program)(tys:BT JL):List Nat->Bool
 |[]=>aC |t::r=>(match tys.get t with|some i=>aeE P t i.zero|none=>aC)&&Wq P tys r
theorem Qd{P:Program}{tys:BT JL}:∀{l:List Nat},Wq P tys l=aC->∀t i,l.contains t=aC->tys.get t=ay i->aeE P t i.zero=aC
 |[],_,t,_,h,_=>by simp at h |t'::r,h,t,i,ht,hi=>by
  simp only[Wq,aI] at h;simp only[sN,nC,beq_iff_eq] at ht;rcases ht with rfl|ht
  ·have:=h.1;rw[hi] at this;exact this
  ·exact Qd h.2 t i ht hi
section
variable{P:Program}{C:Ctx}{H H':Mem}{E E':Env}{w w':World}
def La(E:Env)(hp:List (Nat×SB)):Nat->Prop:=fun b=>∃id sb,zY hp id=ay sb/\AL E id sb=ay b
theorem aeF{K:Kx}{hp:List (Nat×SB)}(p:Nat->Bool)(h:Aj K H E w hp):Aj K H E w (dropKey p hp):=by
 have key:∀{i:Nat} {sb:SB},zY (dropKey p hp) i=ay sb->zY hp i=ay sb:=fun {i sb} hl=>by
  rw[KD] at hl;cases hp':p i<;>simp only[hp',cond_true,cond_false] at hl
  ·exact hl
  ·cases hl
 exact ⟨fun id sb hl=>h.ent id sb (key hl),fun id id' sb sb' b l1 l2 o1 o2=>h.FU id id' sb sb' b (key l1) (key l2) o1 o2⟩
end
inductive ayp where
 |fin (v:SV) (hp:List (Nat×SB))
 |stop (td:List It) (c:Core)
section
variable{P:Program}{C:Ctx}{K:Kx}{H H':Mem}{E E' E0:Env}{w w':World}
end
def qF(hp:List (Nat×SB))(ρ:List (Nat×Rn)):List (Int×Bool×SV)->List (Int×Bool×SV)->Option (List Bj)
 |[],[]=>ay [] |(n,p,x)::l,(n',p',x')::l'=>CO (p==p') (EM (ay [.int n n']) (EM (bif p' then qS hp ρ x x' else ay []) (qF hp ρ l l'))) |_,_=>aK
def qB2(hp:List (Nat×SB))(ρ:List (Nat×Rn))(id':Nat):SB->Option (List Bj)
 | .fm k' M' fs' us' tg'=>match zY ρ id' with
  |some (.id id)=>match zY hp id with
   |some (.fm k M fs us _)=>CO (k==k'&&tg'.isNone) (EM (ay [.mp M M']) (EM (qF hp ρ fs fs') (qF hp ρ us us'))) |_=>aK
  |_=>aK
 | .GH e' st' n' g' more'=>match zY ρ id' with
  |some (.id id)=>match zY hp id with
   |some (.GH e st n g more)=>CO (e==e'&&st==st'&&more.length==more'.length&&Fb more') (EM (ay [.nat n n',.get n g g']) (qL hp ρ more more')) |_=>aK
  |_=>aK
 |sb=>qB hp ρ id' sb
def qH2(hp:List (Nat×SB))(ρ:List (Nat×Rn)):List (Nat×SB)->Option (List Bj)
 |[]=>ay [] |(id',sb)::l=>EM (qB2 hp ρ id' sb) (qH2 hp ρ l)
def ZO:List (Int×Bool×SV)->List (Int×Bool×SV)->List (Nat×Rn)
 |(_,aC,x)::l,(_,aC,y)::m=>coll x y++ZO l m |_::l,_::m=>ZO l m |_,_=>[]
def aqO:Option SB->Option SB->List (Nat×Rn)
 |some (.fm _ _ fs us _),ay (.fm _ _ gs vs _)=>ZO fs gs++ZO us vs |some (.GH _ _ _ _ l),ay (.GH _ _ _ _ m)=>Nc l m |a,b=>ang a b
def ZP(hp' hp:List (Nat×SB)):Nat->List (Nat×Rn)->List (Nat×Rn)->List (Nat×Rn)
 |0,_,acc=>acc |_,[],acc=>acc |n+1,(i,r)::t,acc=>match zY acc i with
  |some _=>ZP hp' hp n t acc |none=>match r with
   | .id j=>ZP hp' hp n (aqO (zY hp' i) (zY hp j)++t) ((i,r)::acc) | .nil=>ZP hp' hp n t ((i,r)::acc)
structure QU where
 hp:List (Nat×SB)
 keep:List Nat
def QU.rn(t:QU)(hp:List (Nat×SB)):List (Nat×Rn):=ZP t.hp hp 4000 (t.keep.map fun i=>(i,.id i)) []
def aj3(hp:List (Nat×SB))(t:QU):Option (List Bj):=CO (J3 (J4 (t.rn hp))&&t.keep.all fun i=>adk (zY (t.rn hp) i) i) (qH2 hp (t.rn hp) t.hp)
def aj6(v:SV)(hp:List (Nat×SB)):Nat->List QU->Tree (SV×Nat×List Bj)
 |_,[]=>.fail |k,t::r=>match aj3 hp t with
  |some l=>.leaf (v,k,l) |none=>aj6 v hp (k+1) r
def toEnd(ts:List QU):Out->Tree (SV×Nat×List Bj)
 | .done v c=>aj6 v c.hp 0 ts | .stop _ _ _=>.fail
def FZ(ts:List QU)(φ:SV->Nat->Prop):SV×Nat×List Bj->Prop
 |(v,k,l)=>dG l/\φ v k
@[irreducible] def EF (ψ:SV×Nat×List Bj->Prop) (t:Tree (SV×Nat×List Bj)):Prop:=t.All ψ
theorem Cb(ψ:SV×Nat×List Bj->Prop)(t:Tree (SV×Nat×List Bj)):EF ψ t=t.All ψ:=by unfold EF;rfl
section
variable{P:Program}{C:Ctx}{K:Kx}{H H':Mem}{E E':Env}{w w':World}{hp:List (Nat×SB)}{ρ:List (Nat×Rn)}
theorem aeG(hh:Aj K H E w hp):∀{l l':List (Int×Bool×SV)} {q:List Bj} {r:List (Int×Option Value)},qF hp ρ l l'=ay q->dG q->Gf H E l r->Gf H (Fz ρ E) l' r
 |[],[],_,[],_,_,_=>trivial |(n,p,x)::l,(n',p',x')::l',q,(k,o)::r,hq,ha,⟨h1,h2,h3⟩=>by
  simp only[qF] at hq;obtain ⟨hp',hq⟩:=AP hq;obtain ⟨a,b,e1,e2,rfl⟩:=Bq hq;obtain ⟨c,d,e3,e4,rfl⟩:=Bq e2;cases e1;have hpp:p=p':=by simpa using hp'
  subst hpp;obtain ⟨hn,ha⟩:=ha;have hn:n=n':=hn;subst hn;have ha2:=eP (show dG (c++d) from ha);refine ⟨h1,?_,aeG hh e4 ha2.2 h3⟩;cases p with
  |true=>
   cases o with
   |none=>exact h2 |some v=>exact ⟨Rq hh _ (aaN _ e3 ha2.1) h2.1,h2.2⟩
  |false=>
   cases o with
   |none=>exact h2 |some v=>exact h2
 |[],_::_,_,_,h,_,_=>by simp[qF] at h |_::_,[],_,_,h,_,_=>by simp[qF] at h |_::_,_::_,_,[],_,_,h=>h.elim |[],[],_,_::_,_,_,h=>h.elim
theorem aeH(hh:Aj K H E w hp){id':Nat}{sb:SB}{q:List Bj}(hq:qB2 hp ρ id' sb=ay q)(ha:dG q):
  Gi K H (Fz ρ E) w id' sb/\∀b,AL (Fz ρ E) id' sb=ay b->∃id s0,zY ρ id'=ay (.id id)/\zY hp id=ay s0/\AL E id s0=ay b:=by
 unfold qB2 at hq;split at hq
 ·rename_i k' M' fs' us' tg'
  split at hq
  ·rename_i id hr
   split at hq
   ·rename_i k M fs us tg hl
    obtain ⟨hk,hq⟩:=AP hq;obtain ⟨a,b,e1,e2,rfl⟩:=Bq hq;obtain ⟨c,d,e3,e4,rfl⟩:=Bq e2;cases e1;simp only[aI,beq_iff_eq,Option.isNone_iff_eq_none] at hk;obtain ⟨rfl,rfl⟩:=hk;obtain ⟨hM,ha⟩:=ha;have hM:M=M':=hM;subst hM;have ha2:=eP (show dG (c++d) from ha);obtain ⟨b,ms,clk,fv,uv,he,h1,h2,h3,h4,h5,h6,h7⟩:=hh.ent _ _ hl;refine ⟨⟨b,ms,clk,fv,uv,by rw[Du hr];exact he,h1,aeG hh e3 ha2.1 h2,aeG hh e4 ha2.2 h3,h4,h5,trivial,h7⟩,fun b' hb=>⟨id,_,hr,hl,?_⟩⟩;simp only[AL,Du hr] at hb ⊢;exact hb
   ·cases hq
  ·cases hq
 ·rename_i e' st' n' g' more'
  split at hq
  ·rename_i id hr
   split at hq
   ·rename_i e st n g more hl
    obtain ⟨hk,hq⟩:=AP hq;obtain ⟨a,b,e1,e2,rfl⟩:=Bq hq;cases e1;simp only[aI,beq_iff_eq] at hk;obtain ⟨⟨⟨rfl,rfl⟩,hlen⟩,hone⟩:=hk;obtain ⟨hn,hg,ha⟩:=ha;have hn:n=n':=hn;subst hn;have hg:∀i,i<n->g i=g' i:=hg;obtain ⟨v,xs,ys,he,h1,h2,h3,h4,h5,h6⟩:=hh.ent _ _ hl;refine ⟨⟨v,xs,ys,by rw[Du hr];exact he,by rw[<-hlen];exact h1,Rt h2 hg,IK hh _ (Oq _ e2 ha) h3,by rw[<-hlen];exact h4,hone,h6⟩,fun b' hb=>⟨id,_,hr,hl,?_⟩⟩;simp only[AL,Du hr] at hb ⊢;exact hb
   ·cases hq
  ·cases hq
 ·exact V7 hh (ana hq ha)
theorem ZQ:∀{l:List (Nat×SB)} {q:List Bj} {i:Nat} {sb:SB},qH2 hp ρ l=ay q->dG q->zY l i=ay sb->∃q',qB2 hp ρ i sb=ay q'/\dG q'
 |[],_,_,_,_,_,h=>by simp[zY] at h |(j,x)::l,q,i,sb,hq,ha,h=>by
  simp only[qH2] at hq;obtain ⟨a,b,e1,e2,rfl⟩:=Bq hq;simp only[zY] at h;cases hj:(j==i)<;>simp only[hj,cond_true,cond_false] at h
  ·exact ZQ e2 (eP ha).2 h
  ·cases h
   obtain rfl:j=i:=by simpa using hj
   exact ⟨a,e1,(eP ha).1⟩
theorem anj(hh:Aj K H E w hp){t:QU}{q:List Bj}(hq:aj3 hp t=ay q)(ha:dG q):∃E',Aj K H E' w t.hp/\∀i∈t.keep,E' i=E i:=by
 unfold aj3 at hq;obtain ⟨h1,h2⟩:=AP hq;simp only[aI,dO] at h1;refine ⟨Fz (t.rn hp) E,⟨fun id sb hl=>?_,fun id id' sb sb' b l1 l2 o1 o2=>?_⟩,fun i hi=>Du (V9 (h1.2 i hi))⟩
 ·obtain ⟨q',e1,e2⟩:=ZQ h2 ha hl
  exact (aeH hh e1 e2).1
 ·obtain ⟨q1,e1,e2⟩:=ZQ h2 ha l1
  obtain ⟨q2,e3,e4⟩:=ZQ h2 ha l2;obtain ⟨i1,s1,a1,a2,a3⟩:=(aeH hh e1 e2).2 b o1;obtain ⟨i2,s2,b1,b2,b3⟩:=(aeH hh e3 e4).2 b o2;have:=hh.FU _ _ _ _ _ a2 b2 a3 b3;subst this;exact aeC h1.1 a1 b1
theorem agi{v:SV}{φ:SV->Nat->Prop}{ts:List QU}:∀{r:List QU} {k:Nat},(∀j,r[j]?=ts[k+j]?)->(aj6 v hp k r).All (FZ ts φ)->∃j t q,ts[j]?=ay t/\aj3 hp t=ay q/\dG q/\φ v j
 |[],_,_,h=>h.elim |t::r,k,hk,h=>by
  unfold aj6 at h;split at h
  ·rename_i l hl
   have:=hk 0;simp only[jL,jw] at this;exact ⟨k,t,l,this.symm,hl,h.1,h.2⟩
  ·exact agi (fun j=>by have:=hk (j+1);simp only[jK] at this;rw[this];congr 1;omega) h
theorem aiw(hC:Ba P C)(hF:BA P C){n g:Nat}{fn:Func}{c:Core}{args:Array Value}{ts:List QU}{φ:SV->Nat->Prop}(hfn:C.fns.get g=ay fn)(hb:fn.body.isSome=aC)
  (hd:Ag H E c.tm (args++dY (fn.ntmps - args.size) undef).toList) (hh:Aj ⟨w,La E c.hp,H⟩ H E w c.hp) (hon:H.on w) (hfree:Free E c) (hg:CU C.gls H)
  (h:EF (FZ ts φ) ((run C n aC g [.code []] c).bind (toEnd ts))) :
  Calls P g args w fun e w'=>∃v sv k t H' E1 E',e=.returned v/\φ sv k/\ts[k]?=ay t/\Den H' E1 sv v/\Aj ⟨w,La E c.hp,H⟩ H' E' w' t.hp/\DZ ⟨w,La E c.hp,H⟩ H' w'/\H.le H'/\∀i∈t.keep,∀u,E i=ay u->E' i=ay u:=by
 rw[Cb] at h;intro cs;obtain ⟨body,hbody⟩:=dZ.1 hb;have hP:=hC.fn g fn hfn;let b:Frame:={(default:Frame) with fn:=g,kind:=.normal}
 let a:Act:={tmps:=args++dY (fn.ntmps - args.size) undef,defers:=[]}
 have henter:gJ P g args .normal=b.at a [.code body]:=by
  simp[gJ,Frame.at,hP,hbody,b,a]
 have st:St C ⟨w,La E c.hp,H⟩ H E w c a:=
  ⟨hd,hh,⟨rfl,rfl,rfl,dn _,fun _ _ _=>rfl,hon,fun _ _ h=>h,fun _ h=>.inl h⟩,hfree,hg,rfl⟩
 have hit:BX (Af fn) [.code []] [.code body]:=by
  have:=iy (body:=Af fn) [] qG;have he:AA (Af fn) []=body:=by simp[AA,Af,hbody]
  rwa[he] at this
 obtain ⟨out,h1,h2⟩:=Tt hC hF n aC g [.code []] c H E w a fn [.code body] _ hfn (iE h) st hit b cs;cases out with
 |stop g' FW c'=>exact h1.elim |done sv c'=>
  obtain ⟨a',w',H',E',v,todo,q1,q2,q3,q4,q5⟩:=h2;obtain ⟨k,t,q,r1,r2,r3,r4⟩:=agi (ts:=ts) (k:=0) (fun j=>by simp) h1;obtain ⟨E2,r5,r6⟩:=anj q2.hp r2 r3;exact ⟨.returned v,w',_,⟨v,sv,k,t,H',E',E2,rfl,r4,r1,q4,r5,q2.BJ,q3.Iz,fun i hi u hu=>by rw[r6 i hi];exact q3.LV i u hu⟩,by rw[henter];exact q1,rfl,rfl,q2.defers,rfl,fn,hP,q5⟩
end
def aj7(fn:Func)(td:List It)(c:Core):Option (Nat×List SV×Option Nat×List It):=
 match td with
 | .reg p (i::r)::k=>match AA (Af fn) p with
  | .region _ ops _=>match opAt ops.toList i with
   |some o=>match NJ ops.toList c.tm o with
    | .yes=>match o.op with
     | .call kk=>match kk.callee with
      | .value f=>match Bg c.tm f with
       | .fn g cs=>ay (g,kk.args.toList.map (Bg c.tm)++cs,o.dst,.reg p r::k) |_=>aK
      |_=>aK
     |_=>aK
    |_=>aK
   |none=>aK
  |_=>aK
 |_=>aK
def Hp.at(h:Hp)(H:Mem)(w:World):Prop:=∀b o,h b=ay o->w.heap[b]?=ay o/\H b=aK
mutual
def Ho:SV->Bool
 | .ptr _ _=>ak | .gs _=>ak | .gp _ _ _ _=>ak | .mp _=>ak | .ev _=>ak | .vw _ _=>ak | .fn _ l=>Lc l | .agg l=>Lc l | .Ak l=>Lc l | .CS _ x=>Ho x |_=>aC
def Lc:List SV->Bool
 |[]=>aC |x::l=>Ho x&&Lc l
end
def aeI:List Fr->Bool
 |[]=>aC |f::s=>Lc f.tm&&aeI s
def Lu:Env:=fun _=>aK
mutual
theorem MB{H:Mem}{E E':Env}:∀{x:SV} {v:Value},Ho x=aC->Den H E x v->Den H E' x v
 | .any,_,_,_=>trivial | .val _,_,_,h=>h | .int _ _,_,_,h=>h | .sym _ _,_,_,h=>h | .bool _,_,_,h=>h | .test _,_,_,h=>h | .str _,_,_,h=>h | .ptr _ _,_,h,_=>by simp[Ho] at h | .gs _,_,h,_=>by simp[Ho] at h | .gp _ _ _ _,_,h,_=>by simp[Ho] at h | .EL,_,_,h=>h | .Aw,_,_,h=>h | .F9,_,_,h=>h | .DN,_,_,h=>h | .Fp,_,_,h=>h | .fn _ l,_,hn,⟨vs,h1,h2⟩=>⟨vs,h1,J6 (by simpa[Ho] using hn) h2⟩ | .agg l,_,hn,⟨vs,h1,h2⟩=>⟨vs,h1,J6 (by simpa[Ho] using hn) h2⟩ | .Ak l,_,hn,⟨vs,h1,h2⟩=>⟨vs,h1,J6 (by simpa[Ho] using hn) h2⟩ | .CS _ x,_,hn,⟨v,h1,h2⟩=>⟨v,h1,MB (by simpa[Ho] using hn) h2⟩ | .mp _,_,h,_=>by simp[Ho] at h | .sh _,_,_,h=>h | .Gq _ _ _ _ _,_,_,h=>h | .glob _,_,_,h=>h | .ev _,_,h,_=>by simp[Ho] at h | .vw _ _,_,h,_=>by simp[Ho] at h
theorem J6{H:Mem}{E E':Env}:∀{l:List SV} {vs:List Value},Lc l=aC->Ag H E l vs->Ag H E' l vs
 |[],[],_,_=>trivial |_::_,_::_,hn,⟨h1,h2⟩=>by
  simp only[Lc,aI] at hn;exact ⟨MB hn.1 h1,J6 hn.2 h2⟩
 |[],_::_,_,h=>h.elim |_::_,[],_,h=>h.elim
end
theorem adn{C:Ctx}{H:Mem}{E E':Env}:∀{s:List Fr} {ms:List Frame},aeI s=aC->FX C H E s ms->FX C H E' s ms
 |[],[],_,_=>trivial |f::s,m::ms,hn,⟨⟨fn,a,items,h1,h2,h3⟩,h4⟩=>by
  simp only[aeI,aI] at hn;exact ⟨⟨fn,a,items,h1,J6 hn.1 h2,h3⟩,adn hn.2 h4⟩
 |[],_::_,_,h=>h.elim |_::_,[],_,h=>h.elim
theorem OX{K:Kx}{H:Mem}{E:Env}{w:World}:Aj K H E w []:=⟨fun _ _ hl=>by simp[zY] at hl,fun _ _ _ _ _ hl=>by simp[zY] at hl⟩
section
variable{P:Program}{C:Ctx}{H H' H0:Mem}{E E':Env}{w w' w0:World}
def aj8(P:Program)(gls:List (Nat×Sh))(g:Nat)(args:List SV)(R:Hp->Prop)(sv:SV)(R':Hp->Prop):Prop:=
 ∀(H:Mem) (E:Env) (w:World) (vs:List Value) (h:Hp),Ag H E args vs->H.on w->CU gls H->R h->h.at H w->
  Calls P g vs.toArray w fun en w'=>∃v H' h',en=.returned v/\Den H' E sv v/\R' h'/\h'.at H' w'/\H.le H'/\DZ ⟨w,fun b=>h b≠aK,H⟩ H' w'/\∀b,h' b≠aK->w.heap.size<=b\/h b≠aK
theorem agj{K:Kx}{g g2:Nat}{fn:Func}{td FW:List It}{c:Core}{stk:List Fr}{R R':Hp->Prop}{φ:Sh->Prop}{args:List SV}{sv:SV}{dst:Option Nat}(hfn:C.fns.get g=ay fn)
  (hp:aj7 fn td c=ay (g2,args,dst,FW)) (hen:Enters P g2) (hn:c.hp=[]/\Lc c.tm=aC/\aeI stk=aC) (hcall:aj8 P C.gls g2 args R sv R') (hgo:Bd P C K g FW {c with tm:=QH c.tm dst sv} stk R' φ):Bd P C K g td c stk R φ:=by
 intro H E1 w a items ms cs fn' hfn' st hi hs hx;rw[hfn] at hfn';cases hfn';let E:Env:=Lu
 have st:St C K H E w c a:=⟨J6 hn.2.1 st.den,by rw[hn.1];exact OX,st.BJ,fun _ _ _=>rfl,st.gl,st.defers⟩;have hs:FX C H E stk ms:=adn hn.2.2 hs;have hx:Ot R K H E w:=let ⟨h,h1,h2⟩:=hx;⟨h,h1,fun b o e=>⟨(h2 b o e).1,(h2 b o e).2.1,fun i hi=>by simp[E,Lu,bk] at hi,(h2 b o e).2.2.2⟩⟩;unfold aj7 at hp;split at hp;rotate_left
 ·cases hp
 rename_i p i rest k;split at hp;rotate_left
 ·cases hp
 rename_i rid ops dr hcode;split at hp;rotate_left
 ·cases hp
 rename_i o ho;split at hp;rotate_left
 ·cases hp
 rename_i hwant;split at hp;rotate_left
 ·cases hp
 rename_i kk hop;split at hp;rotate_left
 ·cases hp
 rename_i f Wh;split at hp;rotate_left
 ·cases hp
 rename_i g3 caps hev;cases hp;cases hi with
 |reg p l id ops2 hc hk=>
  rw[hc] at hcode;cases hcode;rename_i k';have df:=AX (H:=H) (E:=E) st.den f;rw[hev] at df;obtain ⟨vs,ef,hvs⟩:=df;have hargs:=(Na st.den kk.args.toList).append hvs;have ho':ops[i]?=ay o:=by simpa[opAt] using ho
  have hw':=GX (ops:=ops) st.den o;rw[hwant] at hw';have hrun:(execOp a.eval o).run P w=.ok (.enter g2 (kk.args.map a.eval++vs)) w:=by
   simp only[execOp,hop,resolve,Wh];simp[jG,ef,invoke,Hw hen]
  have hg:=stepG_op (P:=P) (b:=base g) (k:=k') (cs:=ms++cs) (w:=w) (rest:=rest) ho' hw';have henter:step P (lone ((base g).at a (.inRegion ops (i::rest)::k')) (ms++cs) w)=.next (lone (gJ P g2 (kk.args.map a.eval++vs) .normal) ((base g).at a (.inRegion ops (i::rest)::k')::(ms++cs)) w):=
   step_lone_go (by rw[hg];simp[gW,hrun,Frame.at])
  obtain ⟨h,hR,hb⟩:=hx;have hcl:=hcall H E w _ h hargs st.BJ.on st.gl hR fun b o e=>⟨(hb b o e).1,(hb b o e).2.1⟩;have avb:(kk.args.toList.map a.eval++vs.toList).toArray=kk.args.map a.eval++vs:=by
   apply Array.toList_inj.1;simp
  rw[avb] at hcl;obtain ⟨en,w',F,⟨v,H',h',rfl,dv,hR',hat',hH,Ws,asD⟩,q1,q2,q3⟩:=hcl ((base g).at a (.inRegion ops (i::rest)::k')::(ms++cs));have hleave:step P (lone F ((base g).at a (.inRegion ops (i::rest)::k')::(ms++cs)) w')=.next (lone ((base g).at (a.put o.dst v) (.inRegion ops rest::k')) (ms++cs) w'):=by
   rw[step_leave_returned q3,lW];simp[ho']
  have hno:∀{i:Nat} {b:Nat},bk E i=ay b->h b=aK:=fun {i b} hi=>by
   cases hx:h b with
   |none=>rfl |some o=>exact ((hb b o hx).2.2.1 i hi).elim
  have hun:∀{b:Nat},H b=aK->b<w.heap.size->h b=aK->H' b=aK:=fun {b} h1 h2 h3=>by
   cases hx:H' b with
   |none=>rfl |some o=>
    rcases Ws.fresh b (by rw[hx];simp) with q|q|q
    ·exact (q h1).elim
    ·have q:w.heap.size<=b:=q;omega
    ·exact (q h3).elim
  have ET:∀{b:Nat},h b≠aK->K.w0.heap.size<=b\/K.own b:=fun {b} hb'=>by
   cases hx:h b with
   |none=>exact (hb' hx).elim |some o=>exact (hb b o hx).2.2.2
  have hhp:Aj K H' E w' c.hp:=⟨fun id sb hl=>by
   have hent:=st.hp.ent id sb hl;exact hent.kept hH (fun _ _ e=>e) (fun b ho=>Ws.kept b (hent.lt ho).1 (by have:=hno (Gl ho);simp[this])) fun b ho=>hun (hent.lt ho).2.1 (hent.lt ho).1 (hno (Gl ho)),st.hp.FU⟩
  have hW:DZ K H' w':=⟨Ws.os.trans st.BJ.os,Ws.tape.trans st.BJ.tape,Ws.output.trans st.BJ.output,iH st.BJ.size Ws.size,fun b hb1 hn=>by
   rw[Ws.kept b (lC hb1 st.BJ.size) fun hq=>by rcases ET hq with q|q;omega;exact hn q]
   exact st.BJ.kept b hb1 hn,Ws.on,fun b o e=>hH b o (st.BJ.le b o e),fun b hb1=>by
    rcases Ws.fresh b hb1 with q|q|q
    ·exact st.BJ.fresh b q
    ·exact .inr (.inl (iH st.BJ.size q))
    ·exact .inr (ET q)⟩
  have st3:St C K H' E w' {c with tm:=QH c.tm o.dst sv} (a.put o.dst v):=
   ⟨Jw (c:=c) (st.den.le hH fun _ _ e=>e) _ dv,hhp,hW,st.free,st.gl.le hH,by rw[put_defers];exact st.defers⟩
  have hx3:Ot R' K H' E w':=by
   refine ⟨h',hR',fun b o e=>⟨(hat' b o e).1,(hat' b o e).2,fun i hi=>?_,?_⟩⟩
   ·simp[E,Lu,bk] at hi
   ·rcases asD b (by rw[e];simp) with q|q
    ·exact .inl (iH st.BJ.size q)
    ·exact ET q
  obtain ⟨a2,w2,v2,s,H2,aaQ,fn0,r1,r2,r3⟩:=hgo H' E w' _ _ ms cs fn hfn st3 (.reg p rest _ ops hc hk) (hs.le hH fun _ _ e=>e) hx3;exact ⟨a2,w2,v2,s,H2,aaQ,fn0,r1,(Steps.head henter (q1.trans (.one hleave))).trans r2,r3⟩
def aaX(i:Nat)(u:Value)(x:SV):SV:=match x with
 | .ptr j 0=>bif j==i then .val u else .any |_=>bif Ho x then x else .any
theorem aix{E':Env}{i:Nat}{b:Nat}(he:E i=ay (.pointer (ay ⟨b,0,aK⟩))){x:SV}{v:Value}(h:Den H E x v):Den H E' (aaX i (.pointer (ay ⟨b,0,aK⟩)) x) v:=by
 unfold aaX;split
 ·rename_i j
  cases hj:(j==i)<;>simp only[cond_true,cond_false]
  ·trivial
  ·obtain ⟨b',h1,h2⟩:=h
   obtain rfl:j=i:=by simpa using hj
   rw[he] at h1;simp[Ai] at h1;subst h1;exact ⟨h2,rfl⟩
 ·cases hn:Ho x<;>simp only[cond_true,cond_false]
  ·trivial
  ·exact MB hn h
theorem Rx{E':Env}{i:Nat}{b:Nat}(he:E i=ay (.pointer (ay ⟨b,0,aK⟩))):∀{l:List SV} {vs:List Value},Ag H E l vs->Ag H E' (l.map (aaX i (.pointer (ay ⟨b,0,aK⟩)))) vs
 |[],[],_=>trivial |_::_,_::_,⟨h1,h2⟩=>⟨aix he h1,Rx he h2⟩ |[],_::_,h=>h.elim |_::_,[],h=>h.elim
def Wu(i:Nat)(u:Value):List Fr->List Fr
 |[]=>[] |f::s=>{f with tm:=f.tm.map (aaX i u)}::Wu i u s
theorem aaY{E':Env}{i:Nat}{b:Nat}(he:E i=ay (.pointer (ay ⟨b,0,aK⟩))):∀{s:List Fr} {ms:List Frame},FX C H E s ms->FX C H E' (Wu i (.pointer (ay ⟨b,0,aK⟩)) s) ms
 |[],[],_=>trivial |_::_,_::_,⟨⟨fn,a,items,h1,h2,h3⟩,h4⟩=>⟨⟨fn,a,items,h1,Rx he h2,h3⟩,aaY he h4⟩ |[],_::_,h=>h.elim |_::_,[],h=>h.elim
theorem YX{i:Nat}{u:Value}:∀{s:List Fr} {g:Nat},QJ g (Wu i u s)=QJ g s
 |[],_=>rfl |f::s,_=>by simp only[Wu,QJ];exact YX
def Wv(E:Env)(w:World)(hp:List (Nat×SB)):Hp->Prop:=fun h=>(∀b o,h b=ay o->w.heap[b]?=ay o)/\∀b,(∃id sb,zY hp id=ay sb/\AL E id sb=ay b)↔h b≠aK
theorem aiy{K:Kx}{hp:List (Nat×SB)}(hh:Aj K H E w hp):∃h,Wv E w hp h:=by
 classical
 refine ⟨fun b=>if ∃id sb,zY hp id=ay sb/\AL E id sb=ay b then w.heap[b]? else aK,fun b o e=>?_,fun b=>⟨fun hq=>?_,fun hq=>?_⟩⟩
 ·dsimp only at e
  split at e
  ·exact e
  ·cases e
 ·have:=hq
  obtain ⟨id,sb,h1,h2⟩:=hq;have hlt:=((hh.ent _ _ h1).lt h2).1;simp only[if_pos this];rw[Array.getElem?_eq_getElem hlt];simp
 ·dsimp only at hq
  split at hq
  ·assumption
  ·simp at hq
theorem YZ{K:Kx}{g i0:Nat}{td:List It}{c:Core}{stk:List Fr}{R:Hp->Prop}{R':Nat->Hp->Prop}{φ:Sh->Prop}(q:Nat->Bool)
  (hR:∀H E w h,H.on w->Aj K H E w (dropKey q c.hp)->Wv E w (dropKey q c.hp) h->∃b,E i0=ay (.pointer (ay ⟨b,0,aK⟩))/\R' b h)
  (hgo:∀b,Bd P C K g td {tm:=c.tm.map (aaX i0 (.pointer (ay ⟨b,0,aK⟩))),hp:=[],nx:=0,lim:=c.lim,tc:=[]} (Wu i0 (.pointer (ay ⟨b,0,aK⟩)) stk) (R' b) φ):Bd P C K g td c stk R φ:=by
 intro H E w a items ms cs fn' hfn' st hi hs hx;have hd:=aeF q st.hp;obtain ⟨h,hh⟩:=aiy hd;obtain ⟨b,he,hR'⟩:=hR H E w h st.BJ.on hd hh;have:=hgo b H Lu w a items ms cs fn' hfn' ⟨Rx he st.den,OX,st.BJ,fun _ _ _=>rfl,st.gl,st.defers⟩ hi (aaY he hs) ⟨h,hR',fun b' o e=>by
  obtain ⟨id,sb,h1,h2⟩:=(hh.2 b').2 (by rw[e];simp);have:=((hd.ent _ _ h1).lt h2).2;exact ⟨hh.1 b' o e,this.1,fun i hi=>by simp[Lu,bk] at hi,this.2⟩⟩
 rw[YX] at this;exact this
theorem agk{x y:SV}:∀{l:List SV} {vs:List Value} {i:Nat},l[i]?=ay x->(∀v,Den H E x v->Den H E y v)->Ag H E l vs->Ag H E (l.set i y) vs
 |[],_,_,h,_,_=>by simp at h |_::_,[],_,_,_,h=>h.elim |_::_,_::_,0,h,hf,⟨h1,h2⟩=>by
  simp at h;subst h;exact ⟨hf _ h1,h2⟩
 |_::_,_::_,i+1,h,hf,⟨h1,h2⟩=>⟨h1,agk (by simpa using h) hf h2⟩
def Mem.with(H:Mem)(h:Hp):Mem:=fun b=>match h b with|some o=>ay o|none=>H b
theorem agl{K:Kx}{g:Nat}{td:List It}{c:Core}{stk:List Fr}{R:Hp->Prop}{φ:Sh->Prop}{u:Value}{X:Type}{y:X->SV}(hR:∀H E h w,R h->H.on w->h.at H w->∃x,Den (H.with h) E (y x) u)
  {i:Nat} (hi:c.tm[i]?=ay (.val u)) (hgo:∀x,Bd P C K g td {c with tm:=c.tm.set i (y x)} stk emp φ):Bd P C K g td c stk R φ:=by
 intro H E w a items ms cs fn' hfn' st hit hs ⟨h,hR',hb⟩;have hat:h.at H w:=fun b o e=>⟨(hb b o e).1,(hb b o e).2.1⟩;have hle:H.le (H.with h):=fun b o e=>by
  unfold Mem.with;cases hx:h b with
  |none=>exact e |some o'=>rw[(hat b o' hx).2] at e;cases e
 have hw:DZ K (H.with h) w:=⟨st.BJ.os,st.BJ.tape,st.BJ.output,st.BJ.size,st.BJ.kept,fun b o e=>by
  unfold Mem.with at e;cases hx:h b with
  |none=>rw[hx] at e;exact st.BJ.on b o e |some o'=>rw[hx] at e;cases e;exact (hat b _ hx).1,fun b o e=>hle b o (st.BJ.le b o e),fun b hb1=>by
  unfold Mem.with at hb1;cases hx:h b with
  |none=>rw[hx] at hb1;exact st.BJ.fresh b hb1 |some o'=>exact .inr (hb b o' hx).2.2.2⟩
 have hhp:Aj K (H.with h) E w c.hp:=⟨fun id sb hl=>(st.hp.ent id sb hl).kept hle (fun _ _ e=>e) (fun _ _=>rfl) fun b ho=>by
  unfold Mem.with;cases hx:h b with
  |none=>exact ((st.hp.ent id sb hl).lt ho).2.1 |some o=>exact ((hb b o hx).2.2.1 id (Gl ho)).elim,st.hp.FU⟩
 obtain ⟨x,hx⟩:=hR H E h w hR' st.BJ.on hat;exact hgo x _ E w a items ms cs fn' hfn' ⟨agk hi (fun v hv=>by obtain ⟨rfl,_⟩:=hv;exact hx) (st.den.le hle fun _ _ e=>e),hhp,hw,st.free,st.gl.le hle,st.defers⟩ hit (hs.le hle fun _ _ e=>e) Wj
inductive Fe3 where
 |ret (s:Sh)
 |raw (g:Nat) (td:List It) (c:Core) (stk:List Fr)
def ank:aaO->Tree Fe3
 | .fin v c=>match finish c v with
  |some s=>.leaf (.ret s) |none=>.fail
 | .stop g td c stk=>.leaf (.raw g td c stk)
def arX(C:Ctx)(hold:Nat->Bool)(m n g:Nat)(td:List It)(c:Core)(stk:List Fr):Tree Fe3:=(YU C hold m n g td c stk).bind ank
def asF(P:Program)(C:Ctx)(K:Kx)(R:Hp->Prop)(φ:Sh->Prop):Fe3->Prop
 | .ret s=>φ s | .raw g td c stk=>Bd P C K g td c stk R φ
@[irreducible] def aeJ (ψ:Fe3->Prop) (t:Tree Fe3):Prop:=t.All ψ
theorem aaZ(ψ:Fe3->Prop)(t:Tree Fe3):aeJ ψ t=t.All ψ:=by unfold aeJ;rfl
theorem agn(hC:Ba P C)(hF:BA P C){hold:Nat->Bool}{m n g:Nat}{td:List It}{c:Core}{stk:List Fr}{R:Hp->Prop}{φ:Sh->Prop}
  (h:aeJ (asF P C (K0 H0 w0) R φ) (arX C hold m n g td c stk)):Bd P C (K0 H0 w0) g td c stk R φ:=by
 rw[aaZ] at h;refine J5 hC hF (hold:=hold) (m:=m) (n:=n) ((iE h).mono fun o ho=>?_);cases o with
 |fin v c=>
  simp only[ank] at ho;split at ho
  ·rename_i s hs
   exact ⟨s,hs,ho⟩
  ·exact ho.elim
 |stop g td c stk=>exact ho
end
def aj9:List (Nat×SB)->List Nat
 |[]=>[] |(_,.GH _ _ _ _ more)::l=>Jq more++aj9 l |_::l=>aj9 l
def Ry(A:Prim)(hp:List (Nat×SB)):SB->SB
 | .GH e st n g more=>match Ib hp more with
  |some l=>.own e st (A.addN n (more.length / st)) (A.snoc g n (AU (chunks st (more.length / st) l))) |none=>.GH e st n g more
 |sb=>sb
def Wx(A:Prim)(hp:List (Nat×SB)):List (Nat×SB)->List (Nat×SB)
 |[]=>[] |(i,sb)::l=>(i,Ry A hp sb)::Wx A hp l
def settle(A:Prim)(hp:List (Nat×SB)):Option (List (Nat×SB)):=(freeze hp (aj9 hp)).map fun hp=>Wx A hp hp
section
variable{P:Program}{C:Ctx}{K:Kx}{H H' H0:Mem}{E E':Env}{w w' w0:World}
theorem Qe{A:Prim}{hp:List (Nat×SB)}{i:Nat}:∀{l:List (Nat×SB)},zY (Wx A hp l) i=(zY l i).map (Ry A hp)
 |[]=>rfl |(j,sb)::l=>by
  simp only[Wx,zY];cases h:j==i<;>simp only[cond_true,cond_false,Option.map_some]
  exact Qe
theorem Rz{hp:List (Nat×SB)}(hh:Aj K H E w hp){i:Nat}{sb:SB}(h:Gi K H E w i sb):Gi K H E w i (Ry zW hp sb)/\AL E i (Ry zW hp sb)=AL E i sb:=by
 unfold Ry;split
 ·rename_i e st n g more
  split
  ·rename_i l hl
   obtain ⟨v,xs,ys,he,h1,h2,h3,h4,h5,h6⟩:=h;refine ⟨⟨v,xs++ys,he,h1,?_,h6⟩,by simp[AL]⟩;have hlen:=h3.length;have hm:=Nat.div_add_mod more.length st;rw[h4,jw,Nat.mul_comm] at hm;exact aaq h2 (Jt (show ys.length=more.length / st*st by rw[hm];exact hlen) (Eb hh hl h3) (EU h5 h3))
  ·exact ⟨h,rfl⟩
 ·exact ⟨h,rfl⟩
theorem aiz{hp hp':List (Nat×SB)}(h:settle zW hp=ay hp')(hh:Aj K H E w hp)(hw:DZ K H w):∃H',H.le H'/\Aj K H' E w hp'/\DZ K H' w:=by
 unfold settle at h;cases hf:freeze hp (aj9 hp) with
 |none=>rw[hf] at h;cases h |some hp1=>
  rw[hf] at h;cases h;obtain ⟨H',h1,h2,h3,_⟩:=MX hf hh hw;refine ⟨H',h1,⟨fun id sb hl=>?_,fun id id' sb sb' b l1 l2 o1 o2=>?_⟩,h3⟩
  ·rw[Qe] at hl
   cases hx:zY hp1 id with
   |none=>rw[hx] at hl;cases hl |some s0=>
    rw[hx] at hl;cases hl;exact (Rz h2 (h2.ent _ _ hx)).1
  ·rw[Qe] at l1 l2
   cases hx:zY hp1 id with
   |none=>rw[hx] at l1;cases l1 |some s0=>
    cases hy:zY hp1 id' with
    |none=>rw[hy] at l2;cases l2 |some s1=>
     rw[hx] at l1;rw[hy] at l2;cases l1;cases l2;rw[(Rz h2 (h2.ent _ _ hx)).2] at o1;rw[(Rz h2 (h2.ent _ _ hy)).2] at o2;exact h2.FU _ _ _ _ _ hx hy o1 o2
theorem acI{g:Nat}{td:List It}{c:Core}{stk:List Fr}{φ:Sh->Prop}{hp':List (Nat×SB)}(h:settle zW c.hp=ay hp')(hgo:Bd P C K g td {c with hp:=hp'} stk emp φ):Bd P C K g td c stk emp φ:=by
 intro H E w a items ms cs fn hfn st hi hs hx;obtain ⟨H',h1,h2,h3⟩:=aiz h st.hp st.BJ;exact hgo H' E w a items ms cs fn hfn ⟨st.den.le h1 fun _ _ e=>e,h2,h3,st.free,st.gl.le h1,st.defers⟩ hi (hs.le h1 fun _ _ e=>e) Wj
def aiA(A:Prim)(ts:List ND):aaO->Tree D8
 | .fin v c=>match finish c v with
  |some s=>.leaf (.ret s) |none=>.fail
 | .stop g td c stk=>match settle A c.hp with
  |some hp=>Wi g td {c with hp:=hp} stk 0 ts
  |none=>.fail
def arY(C:Ctx)(hold:Nat->Bool)(m n g:Nat)(td:List It)(c:Core)(stk:List Fr)(ts:List ND):Tree D8:=(YU C hold m n g td c stk).bind (aiA C.A ts)
theorem agp(hC:Ba P C)(hF:BA P C){hold:Nat->Bool}{m n g:Nat}{td:List It}{c:Core}{stk:List Fr}{ts:List ND}{φ:Sh->Prop}
  (h:(arY C hold m n g td c stk ts).All (Jz P C (K0 H0 w0) ts emp φ)):Bd P C (K0 H0 w0) g td c stk emp φ:=by
 refine J5 hC hF (hold:=hold) (m:=m) (n:=n) ((iE h).mono fun o ho=>?_);cases o with
 |fin v c=>
  simp only[aiA] at ho;split at ho
  ·rename_i s hs
   exact ⟨s,hs,ho⟩
  ·exact ho.elim
 |stop g td c stk=>
  simp only[aiA,hC.A] at ho;split at ho
  ·rename_i hp hs
   exact acI hs (UU (k:=0) (fun j=>by simp) ho)
  ·exact ho.elim
end
def Wy(g:Nat)(td:List It)(c:Core)(stk:List Fr):Nat->List ND->Tree D8
 |_,[]=>.fail |k,t::r=>bif g==t.g&&I5 td t.td&&Rw stk t.stk then match EM (qC (t.rn c stk) c t.c) (aaR c.hp (t.rn c stk) stk t.stk) with
   |some l=>.leaf (.at_ k l) |none=>Wy g td c stk (k+1) r
  else Wy g td c stk (k+1) r
def anl(ts:List ND):aaO->Tree D8
 | .fin v c=>match finish c v with
  |some s=>.leaf (.ret s) |none=>.fail
 | .stop g td c stk=>Wy g td c stk 0 ts
section
variable{P:Program}{C:Ctx}{K:Kx}{H0:Mem}{w0:World}
theorem UW{R:Hp->Prop}{φ:Sh->Prop}{ts:List ND}{g:Nat}{td:List It}{c:Core}{stk:List Fr}:∀{r:List ND} {k:Nat},(∀j,r[j]?=ts[k+j]?)->(Wy g td c stk k r).All (Jz P C K ts R φ)->Bd P C K g td c stk R φ
 |[],_,_,h=>h.elim |t::r,k,hk,h=>by
  have hr:∀j,r[j]?=ts[k+1+j]?:=fun j=>by have:=hk (j+1);simp only[jK] at this;rw[this];congr 1;omega
  unfold Wy at h;cases hb:(g==t.g&&I5 td t.td&&Rw stk t.stk)<;>simp only[hb,cond_true,cond_false] at h
  ·exact UW hr h
  ·simp only[aI,beq_iff_eq] at hb
   obtain ⟨⟨h1,h2⟩,h3⟩:=hb;split at h
   ·rename_i l hl
    obtain ⟨a,b,q1,q2,rfl⟩:=Bq hl;obtain ⟨hl,t',ht,hg⟩:=h;have:=hk 0;simp only[jL,jw] at this;rw[<-this] at ht;cases ht;have h2:=Me h2;subst h1 h2;exact YV (t.rn c stk) (aiu q1 (eP hl).1) (aaT q2 (eP hl).2) hg
   ·exact UW hr h
end
def ado(C:Ctx)(pause:Nat->List It->Bool)(hold:Nat->Bool)(m:Nat):Nat->Nat->List It->Core->List Fr->Tree aaO
 |0,g,td,c,stk=>.leaf (.stop g td c stk) |n+1,g,td,c,stk=>match C.fns.get g with
  |none=>.fail |some fn=>bif pause g td||holdB hold fn td c then .leaf (.stop g td c stk) else match Qb C fn td c with
   |some r=>ado C pause hold m n r.1 [.code []] {c with tm:=r.2.2++dS (r.2.1.ntmps - r.2.2.length) .any} ({g,td,tm:=c.tm}::stk)
   |none=>(Q8 C (L8 C (run C m ak)) aC g fn td c).bind fun s=>match s with
    | .go td c=>ado C pause hold m n g td c stk | .halt td c=>.leaf (.stop g td c stk) | .done v c=>match stk with
     |[]=>.leaf (.fin v c) |f::stk=>match Ru C f v c with
      |some r=>ado C pause hold m n f.g r.1 r.2 stk |none=>.fail
section
variable{P:Program}{C:Ctx}{K:Kx}{H H' Om H0:Mem}{E E' Oo E1:Env}{w w' w'' w0:World}
theorem NR(hC:Ba P C)(hF:BA P C){pause:Nat->List It->Bool}{hold:Nat->Bool}{m:Nat}{R:Hp->Prop}{φ:Sh->Prop}:∀{n g:Nat} {td:List It} {c:Core} {stk:List Fr},(ado C pause hold m n g td c stk).All (aj1 P C (K0 H0 w0) R φ)->Bd P C (K0 H0 w0) g td c stk R φ
 |0,g,td,c,stk,h=>h |n+1,g,td,c,stk,h=>by
  intro H E w a items ms cs fn hfn st hi hs hx;simp only[ado,hfn] at h;cases aiv:(pause g td||holdB hold fn td c)<;>simp only[aiv,cond_true,cond_false] at h
  rotate_left
  ·exact h H E w a items ms cs fn hfn st hi hs hx
  split at h
  ·
   rename_i r hr;unfold Qb at hr;split at hr
   ·rename_i p i rest k
    split at hr
    ·rename_i rid ops dr hcode
     split at hr
     ·rename_i o ho
      split at hr
      ·rename_i hwant
       split at hr
       ·rename_i kk hop
        split at hr
        ·rename_i f Wh
         split at hr
         ·rename_i g2 caps hev
          split at hr
          ·cases hr
          ·rename_i hspec
           split at hr
           ·rename_i EY hfn2
            cases hb:(gX (kk.args.toList.map (Bg c.tm)++caps).length EY.ntmps&&EY.body.isSome)<;>simp only[hb,cond_true,cond_false] at hr
            ·cases hr
            cases hr;simp only[aI] at hb;obtain ⟨body2,Jy⟩:=dZ.1 hb.2;have ih:=NR hC hF h;have hP2:=hC.fn g2 EY hfn2;cases hi with
            |reg p l id ops2 hc hk=>
             rw[hc] at hcode;cases hcode;rename_i k';have df:=AX (H:=H) (E:=E) st.den f;rw[hev] at df;obtain ⟨vs,ef,hvs⟩:=df;have hargs:=(Na st.den kk.args.toList).append hvs;have ho':ops[i]?=ay o:=by simpa[opAt] using ho
             have hw':=GX (ops:=ops) st.den o;rw[hwant] at hw';have hent:=hF.en g2 (.inr (by rw[hfn2];rfl));have hrun:(execOp a.eval o).run P w=.ok (.enter g2 (kk.args.map a.eval++vs)) w:=by
              simp only[execOp,hop,resolve,Wh];simp[jG,ef,invoke,Hw hent]
             have hg:=stepG_op (P:=P) (b:=base g) (k:=k') (cs:=ms++cs) (w:=w) (rest:=rest) ho' hw';have henter:step P (lone ((base g).at a (.inRegion ops (i::rest)::k')) (ms++cs) w)=.next (lone (gJ P g2 (kk.args.map a.eval++vs) .normal) ((base g).at a (.inRegion ops (i::rest)::k')::(ms++cs)) w):=
              step_lone_go (by rw[hg];simp[gW,hrun,Frame.at])
             rw[KJ hP2 Jy] at henter;have hl:=hargs.length;have hlen:(kk.args.map a.eval++vs).size=(kk.args.toList.map (Bg c.tm)++caps).length:=by
              rw[<-hl];simp
             have st2:St C (K0 H0 w0) H E w {c with tm:=(kk.args.toList.map (Bg c.tm)++caps)++dS (EY.ntmps - (kk.args.toList.map (Bg c.tm)++caps).length) .any} {tmps:=(kk.args.map a.eval++vs)++dY (EY.ntmps - (kk.args.map a.eval++vs).size) undef,defers:=[]}:=by
              refine ⟨?_,st.hp,st.BJ,st.free,st.gl,rfl⟩;have:((kk.args.map a.eval++vs)++dY (EY.ntmps - (kk.args.map a.eval++vs).size) undef).toList=(kk.args.toList.map a.eval++vs.toList)++dS (EY.ntmps - (kk.args.toList.map (Bg c.tm)++caps).length) undef:=by
               rw[hlen];simp
              simp only[this];exact hargs.append (rH _ _ (by simp))
             have hit2:BX (Af EY) [.code []] [.code body2]:=by
              have:=iy (body:=Af EY) [] qG;have he:AA (Af EY) []=body2:=by simp[AA,Af,Jy]
              rwa[he] at this
             have hs2:FX C H E ({g,td:=.reg p (i::rest)::k,tm:=c.tm}::stk) ((base g).at a (.inRegion ops (i::rest)::k')::ms):=
              ⟨⟨fn,a,_,hfn,st.den,st.defers,.reg p (i::rest) _ ops hc hk,rfl⟩,hs⟩
             obtain ⟨a',w',v,s,H',todo,fn0,q1,q2,q3⟩:=ih H E w _ _ (_::ms) cs EY hfn2 st2 hit2 hs2 hx;exact ⟨a',w',v,s,H',todo,fn0,q1,.head henter q2,q3⟩
           ·cases hr
         ·cases hr
        ·cases hr
       ·cases hr
      ·cases hr
     ·cases hr
    ·cases hr
   ·cases hr
  ·have hK:=Tq (K:=QT H E w c.hp) hC hF (Tt hC hF m)
   obtain ⟨sig,h1,h2⟩:=XK hC hF hK (iE h) st.re hi (base g) (ms++cs);cases sig with
   |go FW c'=>
    obtain ⟨a',w',H',E',items',q1,q2,q3,q4⟩:=h2;obtain ⟨a2,w2,v,s,H2,todo,fn0,r1,r2,r3⟩:=NR hC hF h1 H' E' w' a' items' ms cs fn hfn (st.un q2) q4 (hs.le q3.Iz q3.LV) (hx.keep st q2 q3);exact ⟨a2,w2,v,s,H2,todo,fn0,r1,q1.trans r2,r3⟩
   |halt FW c'=>
    obtain ⟨a',w',H',E',items',q1,q2,q3,q4⟩:=h2;obtain ⟨a2,w2,v,s,H2,todo,fn0,r1,r2,r3⟩:=h1 H' E' w' a' items' ms cs fn hfn (st.un q2) q4 (hs.le q3.Iz q3.LV) (hx.keep st q2 q3);exact ⟨a2,w2,v,s,H2,todo,fn0,r1,q1.trans r2,r3⟩
   |done sv c'=>
    obtain ⟨a',w',H',E',v,todo,q1,q2,q3,q4,q5⟩:=h2;cases stk with
    |nil=>
     cases ms with
     |cons _ _=>exact hs.elim |nil=>
      obtain ⟨s,e1,e2⟩:=h1;obtain ⟨H2,r⟩:=P9 (st.un q2) e1 q4;exact ⟨a',w',v,s,H2,todo,fn,hfn,q1,q2.defers,e2,r,q5⟩
    |cons f stk=>
     cases ms with
     |nil=>exact hs.elim |cons mf ms=>
      simp only at h1;split at h1
      ·rename_i r hr
       unfold Ru at hr;split at hr
       ·rename_i Ou agc
        split at hr
        ·rename_i p i rest k htd
         split at hr
         ·rename_i rid ops dr hcode
          cases hr;obtain ⟨⟨fn3,a3,aj2,g1,g2,g3,g4,g5⟩,hs'⟩:=hs.le q3.Iz q3.LV;rw[agc] at g1;cases g1;rw[htd] at g4;cases g4 with
          |reg p l id ops2 hc hk=>
           rw[hc] at hcode;cases hcode;rename_i k';subst g5;have hleave:step P (lone {(base g).at a' todo with mode:=.returning} ((base f.g).at a3 (.inRegion ops (i::rest)::k')::(ms++cs)) w')=.next (lone ((base f.g).at (a3.put ((opAt ops.toList i).bind (·.dst)) v) (.inRegion ops rest::k')) (ms++cs) w'):=by
            rw[step_leave_returned (v:=v) ⟨rfl,q2.defers,rfl,fn,hC.fn g fn hfn,q5⟩,lW];simp[opAt]
           have st3:St C (K0 H0 w0) H' E' w' {c' with tm:=QH f.tm ((opAt ops.toList i).bind (·.dst)) sv} (a3.put ((opAt ops.toList i).bind (·.dst)) v):=
            ⟨Jw (c:={c' with tm:=f.tm}) g2 _ q4,(st.un q2).hp,(st.un q2).BJ,q2.free,q2.gl,by rw[put_defers];exact g3⟩
           obtain ⟨a2,w2,v2,s,H2,aaQ,fn0,r1,r2,r3⟩:=NR hC hF h1 H' E' w' _ _ ms cs Ou agc st3 (.reg p rest _ ops hc hk) hs' (hx.keep st q2 q3);exact ⟨a2,w2,v2,s,H2,aaQ,fn0,r1,(q1.trans (.one hleave)).trans r2,r3⟩
         ·cases hr
        ·cases hr
       ·cases hr
      ·exact h1.elim
def arZ(C:Ctx)(pause:Nat->List It->Bool)(m n g:Nat)(td:List It)(c:Core)(stk:List Fr)(ts:List ND):Tree D8:=(ado C pause (fun _=>ak) m n g td c stk).bind (anl ts)
theorem agq(hC:Ba P C)(hF:BA P C){pause:Nat->List It->Bool}{m n g:Nat}{td:List It}{c:Core}{stk:List Fr}{ts:List ND}{φ:Sh->Prop}{R:Hp->Prop}
  (h:(arZ C pause m n g td c stk ts).All (Jz P C (K0 H0 w0) ts R φ)):Bd P C (K0 H0 w0) g td c stk R φ:=by
 refine NR hC hF (pause:=pause) (hold:=fun _=>ak) (m:=m) (n:=n) ((iE h).mono fun o ho=>?_);cases o with
 |fin v c=>
  simp only[anl] at ho;split at ho
  ·rename_i s hs
   exact ⟨s,hs,ho⟩
  ·exact ho.elim
 |stop g td c stk=>exact UW (k:=0) (fun j=>by simp) ho
end
def BU(b:Frame)(a:Act)(todo:List Item):Frame:=
 {fn:=b.fn,tmps:=a.tmps,todo,defers:=a.defers++b.defers,mode:=.run,kind:=b.kind,roundOf:=b.roundOf}
def RD(b:Frame)(a:Act):Act:={a with defers:=a.defers++b.defers}
theorem Dk(b:Frame)(a:Act)(todo:List Item):BU b a todo=b.atR (RD b a) todo:=rfl
theorem Qg(b:Frame)(a:Act):(RD b a).eval=a.eval:=funext fun x=>by cases x<;>rfl
theorem adp(b:Frame)(a:Act)(d:Option Nat)(v:Value):(RD b a).put d v=RD b (a.put d v):=by cases d<;>rfl
def bq(g:Nat)(r:Option Nat)(ds:List Deferred):Frame:={(default:Frame) with fn:=g,kind:=.normal,roundOf:=r,defers:=ds}
theorem XP(g:Nat)(a:Act)(todo:List Item):BU (bq g aK []) a todo=(base g).at a todo:=by simp[BU,Frame.at,bq,base]
theorem RF(b:Frame)(a:Act)(ops:Array Oper)(i:Nat)(rest:List Nat)(k:List Item)(v:Value):
  (BU b a (.inRegion ops (i::rest)::k)).finish v=BU b (a.put ((ops[i]?).bind (·.dst)) v) (.inRegion ops rest::k):=by
 rw[Dk,Frame.finish_atR,adp,<-Dk]
section moves
variable{P:Program}{b:Frame}{a:Act}{k:List Item}{cs:List Frame}{w:World}{ops:Array Oper}
theorem anm:step P (lone (BU b a (.code .skip::k)) cs w)=.next (lone (BU b a k) cs w):=by rw[Dk,Dk];exact stepR_skip
theorem ags{id:Nat}:step P (lone (BU b a (.inBlock id::k)) cs w)=.next (lone (BU b a k) cs w):=by rw[Dk,Dk];exact stepR_inBlock
theorem aqP{x y:Code}:step P (lone (BU b a (.code (.seq x y)::k)) cs w)=.next (lone (BU b a (.code x::.code y::k)) cs w):=by rw[Dk,Dk];exact stepR_seq
theorem ano{c:Operand}{x y:Code}{t:Bool}(h:a.eval c=.bool t):step P (lone (BU b a (.code (.cond c x y)::k)) cs w)=.next (lone (BU b a (.code (if t then x else y)::k)) cs w):=by
 rw[Dk,Dk];exact stepR_cond (by rw[Qg];exact h)
theorem alm{id:Nat}{c:Code}:step P (lone (BU b a (.code (.block id c)::k)) cs w)=.next (lone (BU b a (.code c::.inBlock id::k)) cs w):=by rw[Dk,Dk];exact stepR_block
theorem agt{c:Code}:step P (lone (BU b a (.code (.loop c)::k)) cs w)=.next (lone (BU b a (.code c::.inLoop c::k)) cs w):=by rw[Dk,Dk];exact stepR_loop
theorem aa0{c:Code}:step P (lone (BU b a (.inLoop c::k)) cs w)=.next (lone (BU b a (.code c::.inLoop c::k)) cs w):=by rw[Dk,Dk];exact stepR_inLoop
theorem anp{id:Nat}{k':List Item}(h:exitTo id k=ay k'):step P (lone (BU b a (.code (.exit id)::k)) cs w)=.next (lone (BU b a k') cs w):=by rw[Dk,Dk];exact stepR_exit h
theorem aqQ(hb:b.roundOf=aK):step P (lone (BU b a (.code .ret::k)) cs w)=.next (lone {BU b a (.code .ret::k) with mode:=.returning} cs w):=by rw[Dk];exact stepR_ret hb
theorem aqR(hb:b.roundOf=aK):step P (lone (BU b a []) cs w)=.next (lone {BU b a [] with mode:=.returning} cs w):=by rw[Dk];exact stepR_end hb
theorem aiB{id:Nat}:step P (lone (BU b a (.code (.region id ops ak)::k)) cs w)=.next (lone (BU b a (.inRegion ops (aX ops.size)::k)) cs w):=by rw[Dk,Dk];exact stepR_region
theorem RG:step P (lone (BU b a (.inRegion ops []::k)) cs w)=.next (lone (BU b a k) cs w):=by rw[Dk,Dk];exact stepR_region_end
theorem Zv{id:Nat}:step P (lone (BU b a (.code (.region id ops aC)::k)) cs w) =
   .next (lone (BU b a (.inRegion ops (ou (P.follows .mixedOrders) ops (w.tape w.drawn (.order b.fn id)))::k)) cs {w with drawn:=w.drawn+1}):=by rw[Dk,Dk];exact stepR_region_draw
end moves
def aiC:Op->Bool
 | .defer _=>ak |_=>aC
def D6:Code->Bool
 | .seq a b=>D6 a&&D6 b | .cond _ a b=>D6 a&&D6 b | .block _ b=>D6 b | .loop b=>D6 b | .rangeFunc _ _ a b=>D6 a&&D6 b | .region _ ops _=>ops.toList.all fun o=>aiC o.op |_=>aC
theorem aa1{c:Code}(h:D6 c=aC)(i:Nat):D6 (child c i)=aC:=by
 unfold child;split<;>simp_all [D6]
theorem RH{c:Code}(h:D6 c=aC):∀p:List Nat,D6 (AA c p)=aC
 |[]=>h |i::p=>aa1 (RH h p) i
theorem WA{id:Nat}{ops:Array Oper}{dr:Bool}(h:D6 (.region id ops dr)=aC){i:Nat}{o:Oper}(ho:ops[i]?=ay o):∀c,o.op≠.defer c:=by
 intro c hc;simp only[D6] at h;have hm:o∈ops.toList:=by
  rw[<-Array.getElem?_toList] at ho;exact List.mem_of_getElem? ho
 have:=dO.1 h o hm;rw[hc] at this;cases this
section
variable{P:Program}{C:Ctx}{K:Kx}{H H' Om:Mem}{E E' Oo:Env}{w w' w'':World}
theorem agu{ops:Array Oper}{i:Nat}{rest:List Nat}{Q:Exit->Act->World->Prop}{next:Act->World->Prop}{a:Act}(hnd:∀o,ops[i]?=ay o->∀c,o.op≠.defer c)(hQ:∀e a w,Q e a w->e=.normal)
  (h:wpOp P ops Q i next a w) (b:Frame) (k:List Item) (cs:List Frame) :
  ∃a' w',next a' w'/\Steps P (lone (BU b a (.inRegion ops (i::rest)::k)) cs w) (lone (BU b a' (.inRegion ops rest::k)) cs w'):=by
 unfold wpOp at h;cases ho:ops[i]? with
 |none=>
  simp only[ho] at h;have hs:=stepR_op_skip (P:=P) (b:=b) (a:=RD b a) (k:=k) (cs:=cs) (w:=w) (ops:=ops) (i:=i) (rest:=rest) (by simp[ho]);simp only[ho,Option.bind_none,Act.put] at hs;exact ⟨a,w,h,.one hs⟩
 |some o=>
  simp only[ho] at h;by_cases hw:Region.wanted o (yielded ops a.tmps)=aC
  ·simp only[hw,if_true] at h
   rcases h with h|⟨_,_,_,hq⟩
   case inr=>cases hQ _ _ _ hq
   simp only[Oper.wp] at h;have hg:=stepGR_op (P:=P) (b:=b) (a:=RD b a) (k:=k) (cs:=cs) (w:=w) (rest:=rest) ho hw;rw[Oper.semAt_eq _ _ _ (hnd o ho),Qg,<-Dk] at hg;have hfin:∀v,(BU b a (.inRegion ops (i::rest)::k)).finish v=BU b (a.put o.dst v) (.inRegion ops rest::k):=by
    intro v;rw[RF,ho];rfl
   generalize hr:(execOp a.eval o).run P w=r at h;cases r with
   |ok n w'=>
    cases n<;>simp only[wO] at h
    case value v=>
     refine ⟨_,_,h,.one (step_lone_go ?_)⟩;rw[hg,<-hfin];simp[gW,hr]
    case skip=>
     refine ⟨_,_,h,.one (step_lone_go ?_)⟩;rw[hg,<-hfin];simp[gW,hr]
    case defer d=>
     refine ⟨_,_,h,.one (step_lone_go ?_)⟩;have:({BU b a (.inRegion ops (i::rest)::k) with defers:=d::(a.defers++b.defers)}:Frame).finish undef =
       BU b ({a with defers:=d::a.defers}.put o.dst undef) (.inRegion ops rest::k):=by
      have:=RF b {a with defers:=d::a.defers} ops i rest k undef
      rw[ho] at this;exact this
     rw[hg];simp only[gW,Sem.runT_eq,hr,GStep.bare_after];exact congrArg (fun fr=>GStep.go {frame:=fr,callers:=cs,status:=.running,dying:=aK} w') this
    case enter f args=>
     obtain ⟨e,w'',fr,hR,hsteps,_,hleave⟩:=h (BU b a (.inRegion ops (i::rest)::k)::cs);have henter:step P (lone (BU b a (.inRegion ops (i::rest)::k)) cs w) =
       .next (lone (gJ P f args .normal) (BU b a (.inRegion ops (i::rest)::k)::cs) w'):=
      step_lone_go (by rw[hg];simp[gW,hr,BU])
     cases e with
     |returned v=>
      refine ⟨_,_,hR,.head henter (hsteps.trans (.one ?_))⟩;rw[<-hfin];exact step_leave_returned hleave
     |panicked chain=>cases hQ _ _ _ hR |outgrown=>obtain ⟨_,_,hq⟩:=hR;cases hQ _ _ _ hq
    case row row args=>
     obtain ⟨v,w'',hR,hsteps⟩:=h (BU b a (.inRegion ops (i::rest)::k)) cs;have henter:step P (lone (BU b a (.inRegion ops (i::rest)::k)) cs w) =
       .next (lone (Frame.ofRow P row args .normal) (BU b a (.inRegion ops (i::rest)::k)::cs) w'):=
      step_lone_go (by rw[hg];simp[gW,hr,BU])
     refine ⟨_,_,hR,.head henter ?_⟩;rw[<-hfin];exact hsteps
    all_goals first|exact h.elim|cases hQ _ _ _ h
   |halt x w'=>
    cases x<;>simp only[wO] at h
    all_goals first|exact h.elim|cases hQ _ _ _ h
  ·simp only[hw,if_false,nH] at h
   have hs:=stepR_op_skip (P:=P) (b:=b) (a:=RD b a) (k:=k) (cs:=cs) (w:=w) (ops:=ops) (i:=i) (rest:=rest)
    (by simp[ho];simpa[RD] using hw)
   simp only[ho,Option.bind_some] at hs;rw[adp] at hs;exact ⟨_,_,h,.one hs⟩
theorem agv{ops:Array Oper}{Q:Exit->Act->World->Prop}(hnd:∀(i:Nat) (o:Oper),ops[i]?=ay o->∀c,o.op≠.defer c)(hQ:∀e a w,Q e a w->e=.normal)(b:Frame)(k:List Item)(cs:List Frame):∀(l:List Nat) (a:Act) (w:World),wpOps P ops Q l a w->
  ∃a' w',Q .normal a' w'/\Steps P (lone (BU b a (.inRegion ops l::k)) cs w) (lone (BU b a' k) cs w')
 |[],a,w,h=>⟨a,w,h,.one RG⟩ |i::l,a,w,h=>by
  rw[wpOps_cons] at h;obtain ⟨a1,w1,h1,h2⟩:=agu (hnd i) hQ h b k cs;obtain ⟨a2,w2,h3,h4⟩:=agv hnd hQ b k cs l a1 w1 h1;exact ⟨a2,w2,h3,h2.trans h4⟩
theorem aqS{call:Nat->List SV->Core->Tree (SV×Core)}(hC:Ba P C)(hF:BA P C)(hK:Hg P C K call){c:Core}{a:Act}{φ:Core->Prop}{ops:Array Oper}{id:Nat}(hnd:∀(i:Nat) (o:Oper),ops[i]?=ay o->∀c,o.op≠.defer c)
  (st:St C K H E w c a) {g:Nat} (h:(drawn C call g ops c).All φ) (b:Frame) (k:List Item) (cs:List Frame) :
  ∃c' a' H' E' w',φ c'/\St C K H' E' w' c' a'/\Mv K H E w c H' E' w' c'/\Steps P (lone (BU b a (.code (.region id ops aC)::k)) cs w) (lone (BU b a' k) cs w'):=by
 have h1:=aaE hC hF hK st h;have hm:=hC.mixed;have hs:∀t,wpOps P ops _ (ou (P.follows .mixedOrders) ops t) a {w with drawn:=w.drawn+1}:=fun t=>by
  simp only[ou,hm,Bool.true_or,if_true];exact wpAny_sound ops.size t _ a _ h1
 obtain ⟨a',w',⟨_,c',H',E',e1,e2,e3⟩,e4⟩:=agv hnd (fun _ _ _ h=>h.1) b k cs _ a _ (hs (w.tape w.drawn (.order b.fn id)));exact ⟨c',a',H',E',w',e1,e2,e3,.head Zv e4⟩
theorem aeK{fn:Func}{c:Core}{φ:Out->Prop}(h:(result C fn c).All φ):∃sv,result C fn c=.leaf (.done sv c)/\φ (.done sv c):=by
 unfold result at h ⊢;split
 ·rename_i sv hs;rw[hs] at h;exact ⟨sv,rfl,h⟩
 ·rename_i l hne hs
  split at h
  ·rename_i sv hs2;rw[hs] at hs2;cases hs2;exact (hne sv rfl).elim
  ·rename_i l2 hne2 hs2;rw[hs] at hs2;cases hs2;exact ⟨_,rfl,h⟩
  ·exact h.elim
 ·rename_i hs;rw[hs] at h;exact h.elim
def anq(P:Program)(C:Ctx)(fn:Func)(H:Mem)(E:Env)(sv:SV)(c:Core)(a:Act):Prop:=
 ∀(K:Kx) (w:World),St C K H E w c a->∃v,Den H E sv v/\(results fn a.tmps).run P w=.ok v w
theorem aln(hC:Ba P C){fn:Func}{c:Core}{a:Act}{sv:SV}(h:result C fn c=.leaf (.done sv c)):anq P C fn H E sv c a:=fun K w st=>by
 obtain ⟨sv',v,h1,h2,h3⟩:=aaF (φ:=fun o=>o=.done sv c) hC st (by rw[h];exact rfl);cases h1;exact ⟨v,h2,h3⟩
def anr(P:Program)(C:Ctx)(K:Kx)(fn:Func)(H:Mem)(E:Env)(w:World)(c:Core)(m:Machine)(b:Frame)(cs:List Frame):Sig->Prop
 | .done sv c'=>∃(a':Act) (w':World) (H':Mem) (E':Env) (todo:List Item),Steps P m (lone {BU b a' todo with mode:=.returning} cs w')/\St C K H' E' w' c' a'/\Mv K H E w c H' E' w' c'/\anq P C fn H' E' sv c' a'
 | .go FW c'=>∃(a':Act) (w':World) (H':Mem) (E':Env) (items':List Item),Steps P m (lone (BU b a' items') cs w')/\St C K H' E' w' c' a'/\Mv K H E w c H' E' w' c'/\BX (Af fn) FW items' | .halt FW c'=>∃(a':Act) (w':World) (H':Mem) (E':Env) (items':List Item),Steps P m (lone (BU b a' items') cs w')/\St C K H' E' w' c' a'/\Mv K H E w c H' E' w' c'/\BX (Af fn) FW items'
def endsB(fn:Func):List It->Bool
 |[]=>aC | .code p::_=>match AA (Af fn) p with
  | .ret=>aC |_=>ak
 |_=>ak
theorem alo(hC:Ba P C)(hF:BA P C){call:Nat->List SV->Core->Tree (SV×Core)}(hK:Hg P C K call){top:Bool}{g:Nat}{fn:Func}{td:List It}{c:Core}{a:Act}{items:List Item}{φ:Sig->Prop}(hnd:D6 (Af fn)=aC)
  (h:(Q8 C call top g fn td c).All φ) (st:St C K H E w c a) (hi:BX (Af fn) td items) (b:Frame) (cs:List Frame) (hr:b.roundOf=aK\/endsB fn td=ak) :
  ∃sig,φ sig/\anr P C K fn H E w c (lone (BU b a items) cs w) b cs sig:=by
 have KY:Mv K H E w c H E w c:=IJ st rfl rfl rfl rfl;have go:∀{FW:List It} {c':Core} {H':Mem} {E':Env} {w':World} {a':Act} {items':List Item},φ (.go FW c')->St C K H' E' w' c' a'->Mv K H E w c H' E' w' c'->BX (Af fn) FW items'->
   Steps P (lone (BU b a items) cs w) (lone (BU b a' items') cs w')->∃sig,φ sig/\anr P C K fn H E w c (lone (BU b a items) cs w) b cs sig:=fun h1 h2 h3 h4 h5=>⟨_,h1,_,_,_,_,_,h5,h2,h3,h4⟩
 have fin:∀(todo:List Item),((result C fn c).bind aej).All φ->step P (lone (BU b a items) cs w)=.next (lone {BU b a todo with mode:=.returning} cs w)->∃sig,φ sig/\anr P C K fn H E w c (lone (BU b a items) cs w) b cs sig:=fun todo hr hs=>by
  obtain ⟨sv,h1,h2⟩:=aeK (iE hr);exact ⟨_,h2,a,w,H,E,todo,.one hs,st,KY,aln hC h1⟩
 unfold Q8 at h;split at h
 ·cases hi
  have hb:b.roundOf=aK:=by
   rcases hr with hr|hr
   ·exact hr
   ·cases hr
  exact fin _ h (aqR hb)
 ·cases hi with
  |inBlock id hk=>exact go h st KY hk (.one ags)
 ·exact h.elim
 ·cases hi with
  |reg p l id ops hc hk=>exact go h (st.MS g) (IJ st rfl rfl rfl rfl) hk (.one RG)
 ·rename_i p i r k
  cases hi with
  |reg p l id ops hc hk=>
   have hd:D6 (.region id ops ak)=aC:=by rw[<-hc];exact RH hnd p
   rw[hc] at h;simp only at h;obtain ⟨a',w',h1,h2⟩:=agu (fun o ho=>WA hd ho) (fun _ _ _ h=>h.elim) (UK hC hF hK st (iE h) (fun a' w'=>∃c' H' E',φ (.go (.reg p r::k) c')/\St C K H' E' w' c' a'/\Mv K H E w c H' E' w' c') (fun _ _ _=>False)
    fun c' a' H' E' w' e1 e2 e3 _=>⟨c',H',E',e1,e2,e3⟩) b _ cs
   obtain ⟨c',H',E',e1,e2,e3⟩:=h1;exact go e1 e2 e3 (.reg p r id ops hc hk) h2
 ·rename_i p k
  have hloop:∀{x:Code},AA (Af fn) p=x->(∀y,x≠.loop y)->∃k',items=.code x::k'/\BX (Af fn) k k':=fun {x} hx hne=>by
   cases hi with
   |code p hk=>exact ⟨_,by rw[hx],hk⟩ |loop p y hl hk=>exact (hne y (hx.symm.trans hl)).elim
  split at h
  ·rename_i hx
   obtain ⟨k',rfl,hk⟩:=hloop hx (by simp);exact go h st KY hk (.one anm)
  ·rename_i hx
   obtain ⟨k',rfl,hk⟩:=hloop hx (by simp);have hb:b.roundOf=aK:=by
    rcases hr with hr|hr
    ·exact hr
    ·simp[endsB,hx] at hr
   exact fin _ h (aqQ hb)
  ·rename_i x y hx
   obtain ⟨k',rfl,hk⟩:=hloop hx (by simp);have h0:AA (Af fn) (0::p)=x:=by simp[AA,hx,child]
   have h1:AA (Af fn) (1::p)=y:=by simp[AA,hx,child]
   have:=iy (0::p) (iy (1::p) hk);rw[h0,h1] at this;exact go h st KY this (.one aqP)
  ·rename_i id x hx
   obtain ⟨k',rfl,hk⟩:=hloop hx (by simp);have h0:AA (Af fn) (0::p)=x:=by simp[AA,hx,child]
   have:=iy (0::p) (BX.inBlock id hk);rw[h0] at this;exact go h st KY this (.one alm)
  ·rename_i x hx
   have h0:AA (Af fn) (0::p)=x:=by simp[AA,hx,child]
   cases hst:C.L6 g p<;>simp only[hst,cond_true,cond_false] at h
   ·cases hi with
    |code p hk=>
     have:=iy (0::p) (o7 p x hx hk);rw[h0] at this;rw[hx] at go ⊢;exact go h st KY this (.one agt)
    |loop p y hl hk=>
     rw[hx] at hl;cases hl;have:=iy (0::p) (o7 p x hx hk);rw[h0] at this;exact go h st KY this (.one aa0)
   ·exact ⟨_,h,a,w,H,E,items,.refl _ _,st,KY,hi⟩
  ·rename_i id hx
   obtain ⟨k',rfl,hk⟩:=hloop hx (by simp);split at h
   ·rename_i k2 he
    obtain ⟨k3,h1,h2⟩:=af4 hk he;exact go h st KY h2 (.one (anp h1))
   ·exact h.elim
  ·rename_i x y z hx
   obtain ⟨k',rfl,hk⟩:=hloop hx (by simp);have h0:=iy (0::p) hk;have h1:=iy (1::p) hk;have e0:AA (Af fn) (0::p)=y:=by simp[AA,hx,child]
   have e1:AA (Af fn) (1::p)=z:=by simp[AA,hx,child]
   rw[e0] at h0;rw[e1] at h1;have dx:=AX (H:=H) (E:=E) st.den x;have cnd:∀t:Bool,a.eval x=.bool t->step P (lone (BU b a (.code (.cond x y z)::k')) cs w)=.next (lone (BU b a (.code (if t then y else z)::k')) cs w):=fun t ht=>ano ht
   split at h
   ·rename_i hv
    rw[hv] at dx;exact go h st KY h0 (.one (cnd aC dx))
   ·rename_i hv
    rw[hv] at dx;exact go h st KY h1 (.one (cnd ak dx))
   ·rename_i t hv
    rw[hv] at dx;have st':∀v,t=v->St C K H E w (c.put (VB x) (.bool v)) a:=fun v hv2=>by
     subst hv2;cases x with
     |tmp d=>exact st.know hv |const u=>exact ⟨st.den,st.hp,st.BJ,st.free,st.gl,st.defers⟩ |global u=>exact ⟨st.den,st.hp,st.BJ,st.free,st.gl,st.defers⟩ |func u=>exact ⟨st.den,st.hp,st.BJ,st.free,st.gl,st.defers⟩
    have mv':∀v:Bool,Mv K H E w c H E w (c.put (VB x) (.bool v)):=fun v=>IJ st rfl rfl rfl rfl
    cases t with
    |true=>exact go (h.1 rfl) (st' aC rfl) (mv' aC) h0 (.one (cnd aC dx)) |false=>exact go (h.2 rfl) (st' ak rfl) (mv' ak) h1 (.one (cnd ak dx))
   ·exact h.elim
  ·rename_i id ops dr hx
   obtain ⟨k',rfl,hk⟩:=hloop hx (by simp);have hd:D6 (.region id ops dr)=aC:=by rw[<-hx];exact RH hnd p
   cases dr with
   |false=>
    simp only[cond_false] at h;exact go h st KY (.reg p (aX ops.size) id ops hx hk) (.one aiB)
   |true=>
    simp only[cond_true] at h;have key:∀(f:Core->Tree Sig),((drawn C call g ops c).bind f).All φ->∃c' a' H' E' w',(f c').All φ/\St C K H' E' w' c' a'/\Mv K H E w c H' E' w' c'/\Steps P (lone (BU b a (.code (.region id ops aC)::k')) cs w) (lone (BU b a' k') cs w'):=fun f hf=>
     aqS (id:=id) hC hF hK (fun i o ho=>WA hd ho) st (iE hf) b k' cs
    cases hl:(top && !(drawn C call g ops c).lone)<;>simp only[hl,cond_true,cond_false] at h
    ·obtain ⟨c',a',H',E',w',h1,h2,h3,h4⟩:=key _ h
     exact go h1 h2 h3 hk h4
    ·obtain ⟨c',a',H',E',w',h1,h2,h3,h4⟩:=key _ h
     exact ⟨_,h1,a',w',H',E',k',h4,h2,h3,hk⟩
  ·exact h.elim
end
inductive Ov where
 |ready|busy|done (q:List Nat)
structure Fw where
 g:Nat
 r:Option (Nat×Nat)
 td:List It
 tm:List SV
 lp:Option (Nat×List Nat×Ov)
def J7:Ov->LoopState
 | .ready=>.ready | .busy=>.busy | .done _=>.done
def FM(body:Code):Ov->Option Code
 | .done q=>ay (AA body q) |_=>aK
def marks(rs:List Nat):List Deferred:=rs.map fun r=>{target:=.collected r,args:=#[]}
def TT(r:Option (Nat×Nat)):Option Nat:=r.map (·.1)
def QV(f:Fw):List Nat:=match f.lp with
 |some (l,_,_)=>[l] |none=>[]
def agw(fn:Func)(g:Nat)(tmps:Array Value)(p:List Nat)(s:Ov)(o:Obj):Prop:=
 ∃x ps ca cb df,AA (Af fn) p=.rangeFunc x ps ca cb/\o=.loop {state:=J7 s,pending:=FM (Af fn) s,fn:=g,tmps,params:=ps,assign:=ca,body:=cb,defers:=df}
def Y0(C:Ctx)(H:Mem)(E:Env)(h:Hp)(f:Fw)(mf:Frame)(rs:List Nat):Prop:=
 ∃fn a items,C.fns.get f.g=ay fn/\Ag H E f.tm a.tmps.toList/\a.defers=[]/\BX (Af fn) f.td items/\(∀x∈rs,h x=ay (.deferred (ay [])))/\
  match f.lp with
  |none=>mf=BU (bq f.g (TT f.r) (marks rs)) a items |some (l,p,s)=>mf=BU (bq f.g (TT f.r) (marks rs)) a (.inRangeFunc l::items)/\∃o,h l=ay o/\agw fn f.g a.tmps p s o
def Fq(C:Ctx)(H:Mem)(E:Env)(h:Hp):List Fw->List Frame->List Nat->Prop
 |[],[],B=>B=[] |f::s,mf::ms,B=>∃rs B',B=rs++QV f++B'/\Y0 C H E h f mf rs/\Fq C H E h s ms B' |_,_,_=>False
def Ig(h:Hp)(K:Kx)(H:Mem)(E:Env)(w:World)(hp:List (Nat×SB)):Prop:=
 ∀b o,h b=ay o->w.heap[b]?=ay o/\H b=aK/\(∀id sb,zY hp id=ay sb->AL E id sb≠ay b)/\(K.w0.heap.size<=b\/K.own b)
def QK(g:Nat):List Fw->Nat
 |[]=>g |f::s=>QK f.g s
def agx(P:Program)(C:Ctx)(K:Kx)(bot:Nat)(φ:Sh->Prop)(m:Machine)(cs:List Frame):Prop:=
 ∃(a':Act) (w':World) (v:Value) (s:Sh) (H':Mem) (todo:List Item) (fn0:Func),C.fns.get bot=ay fn0/\Steps P m (lone {(base bot).at a' todo with mode:=.returning} cs w')/\
   a'.defers=[]/\φ s/\Eu K.H0 K.w0 s v H' w'/\(results fn0 a'.tmps).run P w'=.ok v w'
theorem agx.of{P:Program}{C:Ctx}{K:Kx}{bot:Nat}{φ:Sh->Prop}{m m':Machine}{cs:List Frame}(h1:Steps P m m')(h2:agx P C K bot φ m' cs):agx P C K bot φ m cs:=by
 obtain ⟨a',w',v,s,H',todo,fn0,q1,q2,q3⟩:=h2;exact ⟨a',w',v,s,H',todo,fn0,q1,h1.trans q2,q3⟩
def FB(P:Program)(C:Ctx)(K:Kx)(g:Nat)(r:Option (Nat×Nat))(td:List It)(c:Core)(stk:List Fw)(φ:Sh->Prop):Prop:=
 ∀(H:Mem) (E:Env) (w:World) (a:Act) (items:List Item) (rs B:List Nat) (ms cs:List Frame) (fn:Func) (h:Hp),C.fns.get g=ay fn->St C K H E w c a->BX (Af fn) td items->
  (∀x∈rs,h x=ay (.deferred (ay [])))->Fq C H E h stk ms B->(rs++B).Nodup->Ig h K H E w c.hp->
  agx P C K (QK g stk) φ (lone (BU (bq g (TT r) (marks rs)) a items) (ms++cs) w) cs
section
variable{P:Program}{C:Ctx}{K:Kx}{H H' Om H0:Mem}{E E' Oo E1:Env}{w w' w'' w0:World}{h:Hp}
theorem Y0.le(hH:H.le H')(hE:E.le E'){f:Fw}{mf:Frame}{rs:List Nat}(x:Y0 C H E h f mf rs):Y0 C H' E' h f mf rs:=by
 obtain ⟨fn,a,items,h1,h2,h3⟩:=x;exact ⟨fn,a,items,h1,h2.le hH hE,h3⟩
theorem Fq.le(hH:H.le H')(hE:E.le E'):∀{s:List Fw} {ms:List Frame} {B:List Nat},Fq C H E h s ms B->Fq C H' E' h s ms B
 |[],[],_,x=>x |_::_,_::_,_,⟨rs,B',h1,h2,h3⟩=>⟨rs,B',h1,h2.le hH hE,Fq.le hH hE h3⟩ |[],_::_,_,x=>x.elim |_::_,[],_,x=>x.elim
theorem Ig.keep{c c':Core}{a a':Act}(hx:Ig h K H E w c.hp)(st:St C K H E w c a)(st':St C (QT H E w c.hp) H' E' w' c' a'):Ig h K H' E' w' c'.hp:=by
 intro b o e;obtain ⟨h1,h2,h3,h4⟩:=hx b o e;have hlt:=(bF.1 h1).1;have hno:¬(QT H E w c.hp).own b:=fun ⟨id,sb,q1,q⟩=>h3 id sb q1 q;refine ⟨by rw[st'.BJ.kept b hlt hno];exact h1,?_,fun id sb hl ho=>?_,h4⟩
 ·cases hx:H' b with
  |none=>rfl |some o'=>
   rcases st'.BJ.fresh b (by rw[hx];simp) with q|q|q
   ·exact (q h2).elim
   ·have q:w.heap.size<=b:=q;omega
   ·exact (hno q).elim
 ·obtain ⟨_,_,q⟩:=(st'.hp.ent id sb hl).lt ho
  rcases q with q|q
  ·have q:w.heap.size<=b:=q;omega
  ·exact hno q
theorem Ig.weak{ρ:List (Nat×Rn)}{c c':Core}{a:Act}(hx:Ig h K H E w c.hp)(st:St C K H E w c a)(hle:leC ρ c c'):Ig h K H (Fz ρ E) w c'.hp:=by
 intro b o e;obtain ⟨h1,h2,h3,h4⟩:=hx b o e;refine ⟨h1,h2,fun id sb hl ho=>?_,h4⟩;obtain ⟨id0,s0,_,q1,q2⟩:=(V7 st.hp (V8 hle.2.1 hl)).2 b ho;exact h3 id0 s0 q1 q2
def IB(h:Hp)(b:Nat)(o:Obj):Hp:=fun x=>if x=b then ay o else h x
theorem Nh{b:Nat}{o:Obj}:IB h b o b=ay o:=by simp[IB]
theorem EN{b x:Nat}{o:Obj}(hne:x≠b):IB h b o x=h x:=by simp[IB,hne]
theorem St.putObj{c:Core}{a:Act}(st:St C K H E w c a){b:Nat}{o o':Obj}(hx:Ig h K H E w c.hp)(hb:h b=ay o):St C K H E (w.putObj b o') c a:=by
 obtain ⟨h1,h2,h3,h4⟩:=hx b o hb;refine ⟨st.den,⟨fun id sb hl=>(st.hp.ent id sb hl).kept (fun _ _ e=>e) (fun _ _ e=>e) (fun b' hb'=>?_) fun b' hb'=>((st.hp.ent id sb hl).lt hb').2.1,st.hp.FU⟩,?_,st.free,st.gl,st.defers⟩
 ·exact jD (fun e=>h3 id sb hl (e ▸ hb'))
 ·refine ⟨st.BJ.os,st.BJ.tape,st.BJ.output,by rw[World.putObj_size];exact st.BJ.size,fun b' hlt hno=>?_,fun b' o2 hb'=>?_,st.BJ.le,st.BJ.fresh⟩
  ·rw[jD]
   ·exact st.BJ.kept b' hlt hno
   ·intro e
    subst e;rcases h4 with q|q
    ·omega
    ·exact hno q
  ·rw[jD]
   ·exact st.BJ.on b' o2 hb'
   ·intro e;rw[e,h2] at hb';cases hb'
theorem Ig.put{hp:List (Nat×SB)}{b:Nat}{o o':Obj}(hx:Ig h K H E w hp)(hb:h b=ay o):Ig (IB h b o') K H E (w.putObj b o') hp:=by
 intro x o2 e;by_cases hxb:x=b
 ·subst hxb
  rw[Nh] at e;cases e;obtain ⟨h1,h2⟩:=hx x o hb;exact ⟨World.putObj_heap_same (bF.1 h1).1,h2⟩
 ·rw[EN hxb] at e
  obtain ⟨h1,h2⟩:=hx x o2 e;exact ⟨by rw[jD hxb];exact h1,h2⟩
theorem heap_alloc_old(w:World)(o:Obj)(x:Nat)(h:x<w.heap.size):(w.alloc o).heap[x]?=w.heap[x]?:=by
 show (w.heap.push o)[x]?=_;simp[Array.getElem?_push,Nat.ne_of_lt h]
theorem St.XQ{c:Core}{a:Act}(st:St C K H E w c a)(o:Obj):St C K H E (w.alloc o) c a:=
 ⟨st.den,⟨fun id sb hl=>(st.hp.ent id sb hl).kept (fun _ _ e=>e) (fun _ _ e=>e) (fun b hb=>heap_alloc_old w o b ((st.hp.ent id sb hl).lt hb).1) fun _ hb=>((st.hp.ent id sb hl).lt hb).2.1,st.hp.FU⟩,
  st.BJ.alloc o,st.free,st.gl,st.defers⟩
theorem Ig.alloc{c:Core}{a:Act}(hx:Ig h K H E w c.hp)(st:St C K H E w c a)(o:Obj):Ig (IB h w.heap.size o) K H E (w.alloc o) c.hp:=by
 intro x o2 e;by_cases hxb:x=w.heap.size
 ·subst hxb
  rw[Nh] at e;cases e;refine ⟨World.alloc_heap_new w o,?_,fun id sb hl ho=>?_,.inl st.BJ.size⟩
  ·cases hH:H w.heap.size with
   |none=>rfl |some o'=>have:=(bF.1 (st.BJ.on _ _ hH)).1;omega
  ·have:=((st.hp.ent id sb hl).lt ho).1;omega
 ·rw[EN hxb] at e
  obtain ⟨h1,h2⟩:=hx x o2 e;exact ⟨by rw[heap_alloc_old w o x (bF.1 h1).1];exact h1,h2⟩
theorem Y0.put{f:Fw}{mf:Frame}{rs:List Nat}(x:Y0 C H E h f mf rs){b:Nat}{o:Obj}(h1:b ∉ rs)(h2:b ∉ QV f):Y0 C H E (IB h b o) f mf rs:=by
 obtain ⟨fn,a,items,q1,q2,q3,q4,q5,q6⟩:=x;refine ⟨fn,a,items,q1,q2,q3,q4,fun y hy=>by rw[EN (fun e=>h1 (by rw[<-e];exact hy))];exact q5 y hy,?_⟩;unfold QV at h2;split at q6
 ·exact q6
 ·rename_i l p s hl
  rw[hl] at h2;obtain ⟨q7,o',q8,q9⟩:=q6;exact ⟨q7,o',by rw[EN (fun e=>h2 (by simp[e]))];exact q8,q9⟩
theorem Fq.put{b:Nat}{o:Obj}:∀{s:List Fw} {ms:List Frame} {B:List Nat},Fq C H E h s ms B->b ∉ B->Fq C H E (IB h b o) s ms B
 |[],[],_,x,_=>x |f::_,_::_,B,⟨rs,B',h1,h2,h3⟩,hb=>by
  subst h1;simp only[bK,not_or] at hb;exact ⟨rs,B',rfl,h2.put hb.1.1 hb.1.2,Fq.put h3 hb.2⟩
 |[],_::_,_,x,_=>x.elim |_::_,[],_,x,_=>x.elim
theorem Fq.len:∀{s:List Fw} {ms:List Frame} {B:List Nat},Fq C H E h s ms B->s.length=ms.length
 |[],[],_,_=>rfl |_::_,_::_,_,⟨_,_,_,_,h3⟩=>by simp[Fq.len h3] |[],_::_,_,x=>x.elim |_::_,[],_,x=>x.elim
theorem Fq.has:∀{s:List Fw} {ms:List Frame} {B:List Nat},Fq C H E h s ms B->∀x∈B,∃o,h x=ay o
 |[],[],_,e,x,hx=>by have e:_=[]:=e;subst e;cases hx |f::_,_::_,B,⟨rs,B',h1,h2,h3⟩,x,hx=>by
  subst h1;obtain ⟨fn,a,items,q1,q2,q3,q4,q5,q6⟩:=h2;simp only[bK] at hx;rcases hx with (hx|hx) |hx
  ·exact ⟨_,q5 x hx⟩
  ·unfold QV at hx
   split at q6
   ·rename_i hl;rw[hl] at hx;cases hx
   ·rename_i l p s hl
    rw[hl] at hx;obtain ⟨_,o,q8,_⟩:=q6;have:x=l:=by simpa using hx
    exact ⟨o,this ▸ q8⟩
  ·exact Fq.has h3 x hx
 |[],_::_,_,e,_,_=>e.elim |_::_,[],_,e,_,_=>e.elim
theorem collects{c:Core}{a:Act}:∀{rs:List Nat} {B:List Nat} {h:Hp} {w:World} {s:List Fw} {ms:List Frame} (g:Nat) (todo:List Item) (cs:List Frame),St C K H E w c a->Ig h K H E w c.hp->(∀x∈rs,h x=ay (.deferred (ay [])))->Fq C H E h s ms B->(rs++B).Nodup->
  ∃w' h',Steps P (lone {BU (bq g aK (marks rs)) a todo with mode:=.returning} cs w) (lone {(base g).at a todo with mode:=.returning} cs w')/\St C K H E w' c a/\Ig h' K H E w' c.hp/\Fq C H E h' s ms B
 |[],B,h,w,s,ms,g,todo,cs,st,hx,_,hs,_=>⟨w,h,by rw[<-XP];exact .refl _ _,st,hx,hs⟩ |r::rs,B,h,w,s,ms,g,todo,cs,st,hx,hm,hs,hnd=>by
  have h0:=hm r (List.mem_cons_self ..);have hw:=(hx r _ h0).1;simp only[List.cons_append,List.nodup_cons,bK,not_or] at hnd;have hstep:step P (lone {BU (bq g aK (marks (r::rs))) a todo with mode:=.returning} cs w)=.next (lone {BU (bq g aK (marks rs)) a todo with mode:=.returning} cs (w.putObj r (.deferred aK))):=by
   have:=step_collected (P:=P) (fr:={BU (bq g aK (marks (r::rs))) a todo with mode:=.returning}) (cs:=cs) (w:=w) (d:={target:=.collected r,args:=#[]}) (r:=r) (ds:=marks rs) (calls:=[]) (by simp)
    (by simp[BU,bq,marks,st.defers]) rfl (run_takeDeferred hw)
   rw[this];simp[BU,bq,marks,st.defers]
  obtain ⟨w',h',q1,q2,q3,q4⟩:=collects g todo cs (st.putObj (o':=.deferred aK) hx h0) (hx.put (o':=.deferred aK) h0) (fun x hxm=>by
   rw[EN (fun e=>hnd.1.1 (by rw[<-e];exact hxm))];exact hm x (List.mem_cons_of_mem _ hxm)) (hs.put hnd.1.2) hnd.2
  exact ⟨w',h',.head hstep q1,q2,q3,q4⟩
end
end Go.Sx
