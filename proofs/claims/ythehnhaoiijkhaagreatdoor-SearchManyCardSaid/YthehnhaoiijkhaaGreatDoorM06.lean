/- Own work. -/
import Derived.Test.YthehnhaoiijkhaaGreatDoorM05
import Derived.Laws.StructEq
import Derived.RangeFuncIn
import Derived.RangeFuncRecord
open Int (ofNat)
open Array renaming getElem?_eq_some_iff->bG,replicate->dX
open Bool renaming false->ak,true->aC,and_eq_true->aH,not_true->wR,false_eq_true->nC,not_false->wG,or_eq_true->mZ
open Go.Deferred renaming ofValue->jF
open Go.Frame renaming enter->gI,finish_at->lV
open Go.Op renaming eqFields->oV
open Go.Oper renaming upon->wQ
open Go.Region renaming schedule->oh
open Go.Result renaming andThen_ok->fU
open Go.Sem renaming run_bind->gG,run_ite->zi,run_pure->oQ
open Go.Sx.Cq renaming v->kM
open Go.Sx.Af renaming any->rF
open Go.Sx.Bh renaming all->dF,DY->eG
open Go.Sx.BU renaming code->iw,nil->qy,loop->oU
open Go.Sx.Tree renaming DF->iD
open Go.World renaming putObj_heap_other->jC
open Go.stepG renaming apply->gU
open List renaming replicate->dR,getElem?_cons_succ->jJ,getElem?_cons_zero->jK,drop_zero->jc,contains_cons->sN,all_eq_true->dK,range->aX,mem_append->bK
open Nat renaming blt->fV,ble->gV,le_refl->dh,le_trans->iH,lt_of_lt_of_le->lu,add_zero->jv
open Option renaming some->ay,none->aK,map_eq_some_iff->bV,isSome_iff_exists->gy
namespace Go.Sx
def ade(r:Option Rn)(id:Nat):Bool:=match r with|some (.id i)=>i==id|_=>ak
def aaF(r:Option Rn):Bool:=match r with|some .nil=>aC|_=>ak
mutual
def qS(hp:List (Nat×SB))(ρ:List (Nat×Rn)):SV->SV->Option (List Bh)
 |_,.any=>ay [] |x,.sym k m=>match x with
  | .int k' n=>CO (k'==k) (ay [.int n m]) | .sym k' n=>CO (k'==k) (ay [.int n m]) |_=>aK
 |x,.test b=>match x with
  | .bool b'=>ay [.bool b' b] | .test b'=>ay [.bool b' b] |_=>aK
 |x,.gs id'=>match x with
  | .gs id=>CO (ade (zX ρ id') id) (ay []) | .Aw=>CO (aaF (zX ρ id')) (ay []) |_=>aK
 |x,.ptr id' off'=>match x with
  | .ptr id off=>CO (ade (zX ρ id') id&&off==off') (ay []) |_=>aK
 |x,.mp id'=>match x with
  | .mp id=>CO (ade (zX ρ id') id) (ay []) |_=>aK
 |x,.fn f' l'=>match x with
  | .fn f l=>CO (f==f') (qL hp ρ l l') |_=>aK
 |x,.agg l'=>match x with
  | .agg l=>qL hp ρ l l' |_=>aK
 |x,.Aj l'=>match x with
  | .Aj l=>qL hp ρ l l' |_=>aK
 |x,.CG t' y=>match x with
  | .CG t z=>CO (t==t') (qS hp ρ z y) |_=>aK
 |x,.sh s=>(DL hp x).map fun s'=>[.sh s' s] |x,.Gl st' n' g' i' off'=>match x with
  | .Gl st n g i off=>CO (st==st'&&off==off') (ay [.nat n n',.Le g g',.nat i i']) |x=>CO (off'==0) ((DL hp x).map fun s=>[.sh s (.pt (g' i')),.nat (g' i').length st',.bool (fV i' n') aC])
 |x,.int k' n'=>match x with
  | .int k n=>CO (k==k') (ay [.int n n']) | .sym k n=>CO (k==k') (ay [.int n n']) |_=>aK
 |x,.bool b'=>match x with
  | .bool b=>CO (b==b') (ay []) | .test b=>ay [.bool b b'] |_=>aK
 | .EJ,.EJ=>ay [] | .Aw,.Aw=>ay [] | .F7,.F7=>ay [] | .DK,.DK=>ay [] | .Fp,.Fp=>ay [] | .glob g,.glob g'=>CO (g==g') (ay []) | .str l,.str l'=>ay [.str l l'] | .val v,.val v'=>ay [.val v v'] |_,_=>aK
def qL(hp:List (Nat×SB))(ρ:List (Nat×Rn)):List SV->List SV->Option (List Bh)
 |[],[]=>ay [] |x::l,y::l'=>EK (qS hp ρ x y) (qL hp ρ l l') |_,_=>aK
end
def qM(hp:List (Nat×SB))(ρ:List (Nat×Rn)):List (SV×SV)->List (SV×SV)->Option (List Bh)
 |[],[]=>ay [] |(a,b)::l,(a',b')::l'=>EK (qS hp ρ a a') (EK (qS hp ρ b b') (qM hp ρ l l')) |_,_=>aK
def qB(hp:List (Nat×SB))(ρ:List (Nat×Rn))(id':Nat):SB->Option (List Bh)
 | .box cells' e'=>match zX ρ id' with
  |some (.id id)=>match zX hp id with
   |some (.box cells e)=>CO (e==e') (qL hp ρ cells cells') |_=>aK
  |_=>aK
 | .row cells' e' st' n'=>match zX ρ id' with
  |some (.id id)=>match zX hp id with
   |some (.row cells e st n)=>CO (e==e'&&st==st'&&n==n') (qL hp ρ cells cells') |_=>aK
  |_=>aK
 | .own e' st' n' g'=>match zX ρ id' with
  |some (.id id)=>match VU hp id with
   |some (e,st,n,g)=>CO (e==e'&&st==st') (ay [.nat n n',.get n g g']) |_=>aK
  |some .nil=>ay [.nat n' 0] |none=>aK
 | .map es'=>match zX ρ id' with
  |some (.id id)=>match zX hp id with
   |some (.map es)=>qM hp ρ es es' |_=>aK
  |_=>aK
 | .fz _ _ _=>aK | .QI _=>aK | .Gx _ _ _ _ _=>aK | .fm _ _ _ _ _=>aK | .pm vt' M' us'=>match us',zX ρ id' with
  |[],ay (.id id)=>match zX hp id with
   |some (.pm vt M us)=>match aaD M us with
    |some N=>CO (vt==vt') (ay [.mg N M']) |none=>aK
   |_=>aK
  |_,_=>aK
 | .buf e' l'=>match zX ρ id' with
  |some (.id id)=>match zX hp id with
   |some (.buf e l)=>CO (e==e') (ay [.str l l']) |_=>aK
  |_=>aK
def qH(hp:List (Nat×SB))(ρ:List (Nat×Rn)):List (Nat×SB)->Option (List Bh)
 |[]=>ay [] |(id',sb)::l=>EK (qB hp ρ id' sb) (qH hp ρ l)
def qC(ρ:List (Nat×Rn))(c c':Core):Option (List Bh):=CO (am4 c'.nx ρ) (EK (qL c.hp ρ c.tm c'.tm) (qH c.hp ρ c'.hp))
section
variable{hp:List (Nat×SB)}{ρ:List (Nat×Rn)}
theorem VZ{r:Option Rn}{id:Nat}(h:ade r id=aC):r=ay (.id id):=by
 unfold ade at h;split at h
 ·simp only[beq_iff_eq] at h;subst h;rfl
 ·cases h
theorem af2{r:Option Rn}(h:aaF r=aC):r=ay .nil:=by
 unfold aaF at h;split at h
 ·rfl
 ·cases h
mutual
theorem aaG:∀{x:SV} (y:SV) {l:List Bh},qS hp ρ x y=ay l->dF l->EG hp ρ x y
 |x,.any,l,h,ha=>by cases x<;>trivial |x,.sym k m,l,h,ha=>by
  cases x<;>simp only[qS] at h
  all_goals first
   |(cases h;done)
   |(obtain ⟨h1,h2⟩:=AO h;cases h2;simp only[beq_iff_eq] at h1;subst h1;simp only[EG];exact ⟨trivial,ha.1⟩)
 |x,.test b,l,h,ha=>by
  cases x<;>simp only[qS] at h
  all_goals first
   |(cases h;done)
   |(cases h;simp only[EG];exact ha.1)
 |x,.gs id',l,h,ha=>by
  cases x<;>simp only[qS] at h
  all_goals first
   |(cases h;done)
   |(obtain ⟨h1,h2⟩:=AO h;simp only[EG];exact VZ h1)
   |(obtain ⟨h1,h2⟩:=AO h;simp only[EG];exact af2 h1)
 |x,.ptr id' off',l,h,ha=>by
  cases x<;>simp only[qS] at h
  all_goals first
   |(cases h;done)
   |(obtain ⟨h1,h2⟩:=AO h;simp only[aH,beq_iff_eq] at h1;simp only[EG];exact ⟨VZ h1.1,h1.2⟩)
 |x,.mp id',l,h,ha=>by
  cases x<;>simp only[qS] at h
  all_goals first
   |(cases h;done)
   |(obtain ⟨h1,h2⟩:=AO h;simp only[EG];exact VZ h1)
 |x,.fn f' l',l,h,ha=>by
  cases x<;>simp only[qS] at h
  all_goals first
   |(cases h;done)
   |(obtain ⟨h1,h2⟩:=AO h;simp only[beq_iff_eq] at h1;simp only[EG];exact ⟨h1,Oe l' h2 ha⟩)
 |x,.agg l',l,h,ha=>by
  cases x<;>simp only[qS] at h
  all_goals first
   |(cases h;done)
   |(simp only[EG];exact Oe l' h ha)
 |x,.Aj l',l,h,ha=>by
  cases x<;>simp only[qS] at h
  all_goals first
   |(cases h;done)
   |(simp only[EG];exact Oe l' h ha)
 |x,.CG t' y,l,h,ha=>by
  cases x<;>simp only[qS] at h
  all_goals first
   |(cases h;done)
   |(obtain ⟨h1,h2⟩:=AO h;simp only[beq_iff_eq] at h1;simp only[EG];exact ⟨h1,aaG y h2 ha⟩)
 |x,.sh s,l,h,ha=>by
  have h0:∃s',DL hp x=ay s'/\s'=s:=by
   cases x<;>simp only[qS,bV] at h
   all_goals
    obtain ⟨s',h1,rfl⟩:=h;exact ⟨s',h1,ha.1⟩
  obtain ⟨s',h1,rfl⟩:=h0;cases x<;>simp only[EG]<;>exact .inl h1
 |x,.int k n,l,h,ha=>by
  cases x<;>simp only[qS] at h
  all_goals first
   |(cases h;done)
   |(obtain ⟨h1,h2⟩:=AO h;cases h2;simp only[beq_iff_eq] at h1;simp only[EG];exact ⟨h1,ha.1⟩)
 |x,.bool b,l,h,ha=>by
  cases x<;>simp only[qS] at h
  all_goals first
   |(cases h;done)
   |(obtain ⟨h1,h2⟩:=AO h;simp only[beq_iff_eq] at h1;simp only[EG];exact h1)
   |(cases h;simp only[EG];exact ha.1)
 |x,.EJ,l,h,ha=>by cases x<;>simp only[qS] at h<;>first|(cases h;done) |(simp only[EG])
 |x,.Aw,l,h,ha=>by cases x<;>simp only[qS] at h<;>first|(cases h;done) |(simp only[EG])
 |x,.F7,l,h,ha=>by cases x<;>simp only[qS] at h<;>first|(cases h;done) |(simp only[EG])
 |x,.DK,l,h,ha=>by cases x<;>simp only[qS] at h<;>first|(cases h;done) |(simp only[EG])
 |x,.Fp,l,h,ha=>by cases x<;>simp only[qS] at h<;>first|(cases h;done) |(simp only[EG])
 |x,.glob g,l,h,ha=>by
  cases x<;>simp only[qS] at h
  all_goals first
   |(cases h;done)
   |(obtain ⟨h1,h2⟩:=AO h;simp only[beq_iff_eq] at h1;simp only[EG];exact h1)
 |x,.str s,l,h,ha=>by
  cases x<;>simp only[qS] at h
  all_goals first
   |(cases h;done)
   |(cases h;simp only[EG];exact ha.1)
 |x,.val s,l,h,ha=>by
  cases x<;>simp only[qS] at h
  all_goals first
   |(cases h;done)
   |(cases h;simp only[EG];exact ha.1)
 |x,.Gl st n g i off,l,h,ha=>by
  have key:∀(q:Option Sh),CO (off==0) (q.map fun s=>[Bh.sh s (.pt (g i)),.nat (g i).length st,.bool (fV i n) aC])=ay l->q=ay (.pt (g i))/\off=0/\(g i).length=st/\i<n:=fun q h=>by
   obtain ⟨h1,h2⟩:=AO h;simp only[bV] at h2;obtain ⟨s,h3,rfl⟩:=h2;have e1:s=.pt (g i):=ha.1;exact ⟨by rw[h3,e1],by simpa using h1,ha.2.1,EO ha.2.2.1⟩
  cases x<;>simp only[qS] at h
  case Gl=>obtain ⟨h1,h2⟩:=AO h;cases h2;simp only[aH,beq_iff_eq] at h1;simp only[EG];exact ⟨h1.1,ha.1,ha.2.1,ha.2.2.1,h1.2⟩
  all_goals
   simp only[EG];exact key _ h
 |x,.gp id st i off,l,h,ha=>by cases x<;>simp only[qS] at h<;>cases h |x,.ev id,l,h,ha=>by cases x<;>simp only[qS] at h<;>cases h |x,.vw id n,l,h,ha=>by cases x<;>simp only[qS] at h<;>cases h
theorem Oe:∀{l:List SV} (l':List SV) {q:List Bh},qL hp ρ l l'=ay q->dF q->leL hp ρ l l'
 |[],[],_,_,_=>trivial |x::l,y::l',q,h,ha=>by
  simp only[qL] at h;obtain ⟨a,b,h1,h2,rfl⟩:=Bq h;exact ⟨aaG y h1 (eG ha).1,Oe l' h2 (eG ha).2⟩
 |[],_::_,_,h,_=>by simp[qL] at h |_::_,[],_,h,_=>by simp[qL] at h
end
theorem am8:∀{l l':List (SV×SV)} {q:List Bh},qM hp ρ l l'=ay q->dF q->leM hp ρ l l'
 |[],[],_,_,_=>trivial |(a,b)::l,(a',b')::l',q,h,ha=>by
  simp only[qM] at h;obtain ⟨q1,q2,h1,h2,rfl⟩:=Bq h;obtain ⟨q3,q4,h3,h4,rfl⟩:=Bq h2;obtain ⟨a1,a2⟩:=eG ha;obtain ⟨a3,a4⟩:=eG a2;exact ⟨aaG a' h1 a1,aaG b' h3 a3,am8 h4 a4⟩
 |[],_::_,_,h,_=>by simp[qM] at h |_::_,[],_,h,_=>by simp[qM] at h
theorem am9{id':Nat}{sb:SB}{q:List Bh}(h:qB hp ρ id' sb=ay q)(ha:dF q):leB hp ρ id' sb:=by
 cases sb with
 |box cells' e'=>
  simp only[qB] at h;simp only[leB];split at h
  ·rename_i id hr
   simp only[hr];split at h
   ·rename_i cells e hl
    simp only[hl];obtain ⟨h1,h2⟩:=AO h;exact ⟨by simpa using h1,Oe _ h2 ha⟩
   ·cases h
  ·cases h
 |row cells' e' st' n'=>
  simp only[qB] at h;simp only[leB];split at h
  ·rename_i id hr
   simp only[hr];split at h
   ·rename_i cells e st n hl
    simp only[hl];obtain ⟨h1,h2⟩:=AO h;simp only[aH,beq_iff_eq] at h1;exact ⟨h1.1.1,h1.1.2,h1.2,Oe _ h2 ha⟩
   ·cases h
  ·cases h
 |own e' st' n' g'=>
  simp only[qB] at h;simp only[leB];split at h
  ·rename_i id hr
   simp only[hr];split at h
   ·rename_i e st n g hl
    simp only[hl];obtain ⟨h1,h2⟩:=AO h;cases h2;simp only[aH,beq_iff_eq] at h1;exact ⟨h1.1,h1.2,ha.1,ha.2.1⟩
   ·cases h
  ·rename_i hr
   simp only[hr];cases h;exact ha.1
  ·cases h
 |map es'=>
  simp only[qB] at h;simp only[leB];split at h
  ·rename_i id hr
   simp only[hr];split at h
   ·rename_i es hl
    simp only[hl];exact am8 h ha
   ·cases h
  ·cases h
 |fz st n g=>simp[qB] at h |QI l=>simp[qB] at h |Gx e st n g m=>simp[qB] at h |fm k M fs us t=>simp[qB] at h |pm vt' M' us'=>
  simp only[qB] at h;split at h
  ·rename_i id hr
   split at h
   ·rename_i vt M us hl
    split at h
    ·rename_i N h1
     obtain ⟨h2,h3⟩:=AO h;cases h3;simp only[leB,hr,hl];have e:N=M':=ha.1;rw[e] at h1;exact ⟨trivial,by simpa using h2,h1⟩
    ·cases h
   ·cases h
  ·cases h
 |buf e' l'=>
  simp only[qB] at h;split at h
  ·rename_i id hr
   split at h
   ·rename_i e l hl
    obtain ⟨h1,h2⟩:=AO h;cases h2;simp only[leB,hr,hl];exact ⟨by simpa using h1,ha.1⟩
   ·cases h
  ·cases h
theorem ana:∀{l:List (Nat×SB)} {q:List Bh},qH hp ρ l=ay q->dF q->leH hp ρ l
 |[],_,_,_=>trivial |(id',sb)::l,q,h,ha=>by
  simp only[qH] at h;obtain ⟨a,b,h1,h2,rfl⟩:=Bq h;exact ⟨am9 h1 (eG ha).1,ana h2 (eG ha).2⟩
theorem air{c c':Core}{q:List Bh}(h:qC ρ c c'=ay q)(ha:dF q):leC ρ c c':=by
 unfold qC at h;obtain ⟨h1,h2⟩:=AO h;obtain ⟨a,b,h3,h4,rfl⟩:=Bq h2;exact ⟨Oe _ h3 (eG ha).1,ana h4 (eG ha).2,h1⟩
end
inductive Fe where
 |ret (s:Sh)
 |at_ (l:List Bh)
def anb:It->It->Bool
 | .code p,.code q=>p==q | .inBlock i,.inBlock j=>i==j | .reg p l,.reg q m=>p==q&&l==m | .Xp,.Xp=>aC |_,_=>ak
def IZ:List It->List It->Bool
 |[],[]=>aC |x::l,y::m=>anb x y&&IZ l m |_,_=>ak
theorem anc{x y:It}(h:anb x y=aC):x=y:=by
 cases x<;>cases y<;>simp[anb] at h<;>simp_all
theorem L6:∀{l m:List It},IZ l m=aC->l=m
 |[],[],_=>rfl |x::l,y::m,h=>by
  simp only[IZ,aH] at h;rw[anc h.1,L6 h.2]
 |[],_::_,h=>by simp[IZ] at h |_::_,[],h=>by simp[IZ] at h
structure Fr where
 g:Nat
 td:List It
 tm:List SV
inductive aaH where
 |fin (v:SV) (c:Core)
 |stop (g:Nat) (td:List It) (c:Core) (stk:List Fr)
def PY(C:Ctx)(fn:Func)(td:List It)(c:Core):Option (Nat×Func×List SV):=
 match td with
 | .reg p (i::_)::_=>match AA (Ae fn) p with
  | .region _ ops _=>match opAt ops.toList i with
   |some o=>match Ny ops.toList c.tm o with
    | .yes=>match o.op with
     | .call k=>match k.callee with
      | .value f=>match Bd c.tm f with
       | .fn g cs=>match C.spec g with
        |some _=>aK |none=>match C.fns.get g with
         |some fn'=>bif gV (k.args.toList.map (Bd c.tm)++cs).length fn'.ntmps&&fn'.body.isSome then ay (g,fn',k.args.toList.map (Bd c.tm)++cs) else aK |none=>aK
       |_=>aK
      |_=>aK
     |_=>aK
    |_=>aK
   |none=>aK
  |_=>aK
 |_=>aK
def holdB(hold:Nat->Bool)(fn:Func)(td:List It)(c:Core):Bool:=
 match td with
 | .reg p (i::_)::_=>match AA (Ae fn) p with
  | .region _ ops _=>match opAt ops.toList i with
   |some o=>match o.op with
    | .call k=>match k.callee with
     | .value f=>match Bd c.tm f with
      | .fn g _=>hold g |_=>ak
     |_=>ak
    |_=>ak
   |none=>ak
  |_=>ak
 |_=>ak
def Rj(C:Ctx)(f:Fr)(v:SV)(c:Core):Option (List It×Core):=
 match C.fns.get f.g with
 |some fn=>match f.td with
  | .reg p (i::r)::k=>match AA (Ae fn) p with
   | .region _ ops _=>ay (.reg p r::k,{c with tm:=QA f.tm ((opAt ops.toList i).bind (·.dst)) v})
   |_=>aK
  |_=>aK
 |none=>aK
def YN(C:Ctx)(hold:Nat->Bool)(m:Nat):Nat->Nat->List It->Core->List Fr->Tree aaH
 |0,g,td,c,stk=>.leaf (.stop g td c stk) |n+1,g,td,c,stk=>match C.fns.get g with
  |none=>.fail |some fn=>bif holdB hold fn td c then .leaf (.stop g td c stk) else match PY C fn td c with
   |some r=>YN C hold m n r.1 [.code []] {c with tm:=r.2.2++dR (r.2.1.ntmps - r.2.2.length) .any} ({g,td,tm:=c.tm}::stk)
   |none=>(QW C (LV C (run C m ak)) aC g fn td c).bind fun s=>match s with
    | .go td c=>YN C hold m n g td c stk | .halt td c=>.leaf (.stop g td c stk) | .done v c=>match stk with
     |[]=>.leaf (.fin v c) |f::stk=>match Rj C f v c with
      |some r=>YN C hold m n f.g r.1 r.2 stk |none=>.fail
def base(g:Nat):Frame:={(default:Frame) with fn:=g,kind:=.normal}
def FV(C:Ctx)(H:Mem)(E:Env):List Fr->List Frame->Prop
 |[],[]=>True |f::s,mf::ms=>(∃fn a items,C.fns.get f.g=ay fn/\Af H E f.tm a.tmps.toList/\a.defers=[]/\BU (Ae fn) f.td items/\mf=(base f.g).at a items)/\FV C H E s ms |_,_=>False
abbrev Hp:=Nat->Option Obj
def Og(R:Hp->Prop)(K:Kx)(H:Mem)(E:Env)(w:World):Prop:=
 ∃h:Hp,R h/\∀b o,h b=ay o->w.heap[b]?=ay o/\H b=aK/\(∀i,bk E i≠ay b)/\(K.w0.heap.size<=b\/K.own b)
def emp:Hp->Prop:=fun _=>True
def QC(g:Nat):List Fr->Nat
 |[]=>g |f::s=>QC f.g s
def Bc(P:Program)(C:Ctx)(K:Kx)(g:Nat)(td:List It)(c:Core)(stk:List Fr)(R:Hp->Prop)(φ:Sh->Prop):Prop:=
 ∀(H:Mem) (E:Env) (w:World) (a:Act) (items:List Item) (ms cs:List Frame) (fn:Func),C.fns.get g=ay fn->St C K H E w c a->BU (Ae fn) td items->FV C H E stk ms->Og R K H E w->
  ∃(a':Act) (w':World) (v:Value) (s:Sh) (H':Mem) (todo:List Item) (fn0:Func),C.fns.get (QC g stk)=ay fn0/\Steps P (lone ((base g).at a items) (ms++cs) w) (lone {(base (QC g stk)).at a' todo with mode:=.returning} cs w')/\
   a'.defers=[]/\φ s/\Eh K.H0 K.w0 s v H' w'/\(results fn0 a'.tmps).run P w'=.ok v w'
section
variable{P:Program}{C:Ctx}{K:Kx}{H H' Oa H0:Mem}{E E' Oc E1:Env}{w w' w'' w0:World}
theorem FV.le(hH:H.le H')(hE:E.le E'):∀{s:List Fr} {ms:List Frame},FV C H E s ms->FV C H' E' s ms
 |[],[],_=>trivial |_::_,_::_,⟨⟨fn,a,items,h1,h2,h3⟩,h4⟩=>⟨⟨fn,a,items,h1,h2.le hH hE,h3⟩,FV.le hH hE h4⟩ |[],_::_,h=>h.elim |_::_,[],h=>h.elim
def QJ(H:Mem)(E:Env)(w:World)(hp:List (Nat×SB)):Kx:=⟨w,fun b=>∃id sb,zX hp id=ay sb/\AL E id sb=ay b,H⟩
theorem Gg.QJ{K1 K2:Kx}{id:Nat}{sb:SB}(h:Gg K1 H E w id sb)(hm:∀b,AL E id sb=ay b->Mine K1 H b->Mine K2 H b):Gg K2 H E w id sb:=by
 cases sb with
 |box cells elem=>obtain ⟨b,cs,he,h1,h2,h3⟩:=h;exact ⟨b,cs,he,h1,h2,hm b (by simp[AL,he,Ah]) h3⟩ |row cells elem st n=>obtain ⟨v,xs,he,h1,h2,h3⟩:=h;exact ⟨v,xs,he,h1,h2,fun b hb=>hm b (by simp[AL,he,hb]) (h3 b hb)⟩ |own elem st n g=>obtain ⟨v,xs,he,h1,h2,h3⟩:=h;exact ⟨v,xs,he,h1,h2,fun b hb=>hm b (by simp[AL,he,hb]) (h3 b hb)⟩ |fz st n g=>exact h |map es=>obtain ⟨b,ms,clk,he,h1,h2,h3⟩:=h;exact ⟨b,ms,clk,he,h1,h2,hm b (by simp[AL,he,Ah]) h3⟩ |QI l=>exact h |Gx elem st n g more=>obtain ⟨v,xs,ys,he,h1,h2,h3,h4,h5,h6⟩:=h;exact ⟨v,xs,ys,he,h1,h2,h3,h4,h5,fun b hb=>hm b (by simp[AL,he,hb]) (h6 b hb)⟩ |fm k M fs us tag=>obtain ⟨b,ms,clk,fv,uv,he,h1,h2,h3,h4,h5,h6,h7⟩:=h;exact ⟨b,ms,clk,fv,uv,he,h1,h2,h3,h4,h5,h6,hm b (by simp[AL,he,Ah]) h7⟩ |pm vt M us=>obtain ⟨b,ms,clk,uv,he,h1,h2,h3,h4,h5,h7⟩:=h;exact ⟨b,ms,clk,uv,he,h1,h2,h3,h4,h5,hm b (by simp[AL,he,Ah]) h7⟩ |buf e l=>obtain ⟨v,he,h1,h3⟩:=h;exact ⟨v,he,h1,fun b hb=>hm b (by simp[AL,he,hb]) (h3 b hb)⟩
theorem af4{hp:List (Nat×SB)}(hh:Ai K H E w hp)(hw:DX K H w):Ai (QJ H E w hp) H E w hp/\DX (QJ H E w hp) H w:=
 ⟨⟨fun id sb hl=>(hh.ent id sb hl).QJ fun _ hb hm=>⟨hm.1,.inr ⟨id,sb,hl,hb⟩⟩,hh.FQ⟩,
  ⟨rfl,rfl,rfl,dh _,fun _ _ _=>rfl,hw.on,fun _ _ h=>h,fun _ h=>.inl h⟩⟩
theorem aaI{hp:List (Nat×SB)}(hh:Ai K H E w hp)(hw:DX K H w){b:Nat}(h:w.heap.size<=b\/(QJ H E w hp).own b):K.w0.heap.size<=b\/K.own b:=by
 rcases h with h|⟨id,sb,h1,h2⟩
 ·exact .inl (iH hw.size h)
 ·exact ((hh.ent _ _ h1).lt h2).2.2
theorem af5{hp hp':List (Nat×SB)}(hh:Ai K H E w hp)(hw:DX K H w)(hh':Ai (QJ H E w hp) H' E' w' hp')(hw':DX (QJ H E w hp) H' w'):Ai K H' E' w' hp'/\DX K H' w':=by
 refine ⟨⟨fun id sb hl=>(hh'.ent id sb hl).QJ fun b hb hm=>⟨hm.1,aaI hh hw hm.2⟩,hh'.FQ⟩,⟨hw'.os.trans hw.os,hw'.tape.trans hw.tape,hw'.output.trans hw.output,iH hw.size hw'.size,fun b hb hn=>?_,hw'.on,fun b o h=>hw'.le b o (hw.le b o h),fun b hb=>?_⟩⟩
 ·rw[hw'.kept b (by have:=hw.size;exact lu hb this) fun ho=>?_]
  ·exact hw.kept b hb hn
  ·rcases aaI hh hw (.inr ho) with h|h
   ·omega
   ·exact hn h
 ·rcases hw'.fresh b hb with h|h
  ·exact hw.fresh b h
  ·exact .inr (aaI hh hw h)
theorem St.re{c:Core}{a:Act}(st:St C K H E w c a):St C (QJ H E w c.hp) H E w c a:=
 ⟨st.den,(af4 st.hp st.BI).1,(af4 st.hp st.BI).2,st.free,st.gl,st.defers⟩
theorem St.un{c c':Core}{a a':Act}(st:St C K H E w c a)(st':St C (QJ H E w c.hp) H' E' w' c' a'):St C K H' E' w' c' a':=
 ⟨st'.den,(af5 st.hp st.BI st'.hp st'.BI).1,(af5 st.hp st.BI st'.hp st'.BI).2,st'.free,st'.gl,st'.defers⟩
theorem Og.keep{R:Hp->Prop}{c c':Core}{a a':Act}(h:Og R K H E w)(st:St C K H E w c a)(st':St C (QJ H E w c.hp) H' E' w' c' a')(mv:Mv (QJ H E w c.hp) H E w c H' E' w' c'):Og R K H' E' w':=by
 obtain ⟨hh,hr,hb⟩:=h;refine ⟨hh,hr,fun b o e=>?_⟩;obtain ⟨h1,h2,h3,h4⟩:=hb b o e;have hlt:=(bG.1 h1).1;have hno:¬(QJ H E w c.hp).own b:=fun ⟨id,sb,_,q⟩=>h3 id (Gh q);refine ⟨by rw[st'.BI.kept b hlt hno];exact h1,?_,fun i hi=>?_,h4⟩
 ·cases hx:H' b with
  |none=>rfl |some o'=>
   rcases st'.BI.fresh b (by rw[hx];simp) with q|q|q
   ·exact (q h2).elim
   ·have q:w.heap.size<=b:=q;omega
   ·exact (hno q).elim
 ·cases he:E i with
  |none=>
   rcases mv.NG i b he hi with q|⟨id,_,q⟩
   ·omega
   ·exact h3 id q
  |some v=>
   have:bk E' i=bk E i:=by simp[bk,he,mv.LH _ _ he]
   rw[this] at hi;exact h3 i hi
def ajW(P:Program)(C:Ctx)(K:Kx)(R:Hp->Prop)(φ:Sh->Prop):aaH->Prop
 | .fin v c=>∃s,finish c v=ay s/\φ s | .stop g td c stk=>Bc P C K g td c stk R φ
theorem KG{g:Nat}{fn:Func}{body:Code}(hP:P.funcs[g]?=ay fn)(hb:fn.body=ay body)(args:Array Value):
  gI P g args .normal=(base g).at {tmps:=args++dX (fn.ntmps - args.size) undef,defers:=[]} [.code body]:=by
 simp[gI,Frame.at,hP,hb,base]
theorem JZ(hC:A8 P C)(hF:Bz P C){hold:Nat->Bool}{m:Nat}{R:Hp->Prop}{φ:Sh->Prop}:∀{n g:Nat} {td:List It} {c:Core} {stk:List Fr},(YN C hold m n g td c stk).All (ajW P C (K0 H0 w0) R φ)->Bc P C (K0 H0 w0) g td c stk R φ
 |0,g,td,c,stk,h=>h |n+1,g,td,c,stk,h=>by
  intro H E w a items ms cs fn hfn st hi hs hx;simp only[YN,hfn] at h;cases ais:holdB hold fn td c<;>simp only[ais,cond_true,cond_false] at h
  rotate_left
  ·exact h H E w a items ms cs fn hfn st hi hs hx
  split at h
  ·
   rename_i r hr;unfold PY at hr;split at hr
   ·rename_i p i rest k
    split at hr
    ·rename_i rid ops dr hcode
     split at hr
     ·rename_i o ho
      split at hr
      ·rename_i hwant
       split at hr
       ·rename_i kk hop
        split at hr
        ·rename_i f V3
         split at hr
         ·rename_i g2 caps hev
          split at hr
          ·cases hr
          ·rename_i hspec
           split at hr
           ·rename_i EW hfn2
            cases hb:(gV (kk.args.toList.map (Bd c.tm)++caps).length EW.ntmps&&EW.body.isSome)<;>simp only[hb,cond_true,cond_false] at hr
            ·cases hr
            cases hr;simp only[aH] at hb;obtain ⟨body2,Jv⟩:=gy.1 hb.2;have ih:=JZ hC hF h;have hP2:=hC.fn g2 EW hfn2;cases hi with
            |reg p l id ops2 hc hk=>
             rw[hc] at hcode;cases hcode;rename_i k';have df:=AV (H:=H) (E:=E) st.den f;rw[hev] at df;obtain ⟨vs,ef,hvs⟩:=df;have hargs:=(MQ st.den kk.args.toList).append hvs;have ho':ops[i]?=ay o:=by simpa[opAt] using ho
             have hw':=GR (ops:=ops) st.den o;rw[hwant] at hw';have hent:=hF.en g2 (.inr (by rw[hfn2];rfl));have hrun:(execOp a.eval o).run P w=.ok (.enter g2 (kk.args.map a.eval++vs)) w:=by
              simp only[execOp,hop,resolve,V3];simp[jF,ef,invoke,Ht hent]
             have hg:=stepG_op (P:=P) (b:=base g) (k:=k') (cs:=ms++cs) (w:=w) (rest:=rest) ho' hw';have henter:step P (lone ((base g).at a (.inRegion ops (i::rest)::k')) (ms++cs) w)=.next (lone (gI P g2 (kk.args.map a.eval++vs) .normal) ((base g).at a (.inRegion ops (i::rest)::k')::(ms++cs)) w):=
              step_lone_go (by rw[hg];simp[gU,hrun,Frame.at])
             rw[KG hP2 Jv] at henter;have hl:=hargs.length;have hlen:(kk.args.map a.eval++vs).size=(kk.args.toList.map (Bd c.tm)++caps).length:=by
              rw[<-hl];simp
             have st2:St C (K0 H0 w0) H E w {c with tm:=(kk.args.toList.map (Bd c.tm)++caps)++dR (EW.ntmps - (kk.args.toList.map (Bd c.tm)++caps).length) .any} {tmps:=(kk.args.map a.eval++vs)++dX (EW.ntmps - (kk.args.map a.eval++vs).size) undef,defers:=[]}:=by
              refine ⟨?_,st.hp,st.BI,st.free,st.gl,rfl⟩;have:((kk.args.map a.eval++vs)++dX (EW.ntmps - (kk.args.map a.eval++vs).size) undef).toList=(kk.args.toList.map a.eval++vs.toList)++dR (EW.ntmps - (kk.args.toList.map (Bd c.tm)++caps).length) undef:=by
               rw[hlen];simp
              simp only[this];exact hargs.append (rF _ _ (by simp))
             have hit2:BU (Ae EW) [.code []] [.code body2]:=by
              have:=iw (body:=Ae EW) [] qy;have he:AA (Ae EW) []=body2:=by simp[AA,Ae,Jv]
              rwa[he] at this
             have hs2:FV C H E ({g,td:=.reg p (i::rest)::k,tm:=c.tm}::stk) ((base g).at a (.inRegion ops (i::rest)::k')::ms):=
              ⟨⟨fn,a,_,hfn,st.den,st.defers,.reg p (i::rest) _ ops hc hk,rfl⟩,hs⟩
             obtain ⟨a',w',v,s,H',todo,fn0,q1,q2,q3⟩:=ih H E w _ _ (_::ms) cs EW hfn2 st2 hit2 hs2 hx;exact ⟨a',w',v,s,H',todo,fn0,q1,.head henter q2,q3⟩
           ·cases hr
         ·cases hr
        ·cases hr
       ·cases hr
      ·cases hr
     ·cases hr
    ·cases hr
   ·cases hr
  ·have hK:=S9 (K:=QJ H E w c.hp) hC hF (Tc hC hF m)
   obtain ⟨sig,h1,h2⟩:=XB hC hF hK (iD h) st.re hi (base g) (ms++cs);cases sig with
   |go FU c'=>
    obtain ⟨a',w',H',E',items',q1,q2,q3,q4⟩:=h2;obtain ⟨a2,w2,v,s,H2,todo,fn0,r1,r2,r3⟩:=JZ hC hF h1 H' E' w' a' items' ms cs fn hfn (st.un q2) q4 (hs.le q3.Iw q3.LH) (hx.keep st q2 q3);exact ⟨a2,w2,v,s,H2,todo,fn0,r1,q1.trans r2,r3⟩
   |halt FU c'=>
    obtain ⟨a',w',H',E',items',q1,q2,q3,q4⟩:=h2;obtain ⟨a2,w2,v,s,H2,todo,fn0,r1,r2,r3⟩:=h1 H' E' w' a' items' ms cs fn hfn (st.un q2) q4 (hs.le q3.Iw q3.LH) (hx.keep st q2 q3);exact ⟨a2,w2,v,s,H2,todo,fn0,r1,q1.trans r2,r3⟩
   |done sv c'=>
    obtain ⟨a',w',H',E',v,todo,q1,q2,q3,q4,q5⟩:=h2;cases stk with
    |nil=>
     cases ms with
     |cons _ _=>exact hs.elim |nil=>
      obtain ⟨s,e1,e2⟩:=h1;obtain ⟨H2,r⟩:=PW (st.un q2) e1 q4;exact ⟨a',w',v,s,H2,todo,fn,hfn,q1,q2.defers,e2,r,q5⟩
    |cons f stk=>
     cases ms with
     |nil=>exact hs.elim |cons mf ms=>
      simp only at h1;split at h1
      ·rename_i r hr
       unfold Rj at hr;split at hr
       ·rename_i Oh af6
        split at hr
        ·rename_i p i rest k htd
         split at hr
         ·rename_i rid ops dr hcode
          cases hr;obtain ⟨⟨fn3,a3,ajX,g1,g2,g3,g4,g5⟩,hs'⟩:=hs.le q3.Iw q3.LH;rw[af6] at g1;cases g1;rw[htd] at g4;cases g4 with
          |reg p l id ops2 hc hk=>
           rw[hc] at hcode;cases hcode;rename_i k';subst g5;have hleave:step P (lone {(base g).at a' todo with mode:=.returning} ((base f.g).at a3 (.inRegion ops (i::rest)::k')::(ms++cs)) w')=.next (lone ((base f.g).at (a3.put ((opAt ops.toList i).bind (·.dst)) v) (.inRegion ops rest::k')) (ms++cs) w'):=by
            rw[step_leave_returned (v:=v) ⟨rfl,q2.defers,rfl,fn,hC.fn g fn hfn,q5⟩,lV];simp[opAt]
           have st3:St C (K0 H0 w0) H' E' w' {c' with tm:=QA f.tm ((opAt ops.toList i).bind (·.dst)) sv} (a3.put ((opAt ops.toList i).bind (·.dst)) v):=
            ⟨Ju (c:={c' with tm:=f.tm}) g2 _ q4,(st.un q2).hp,(st.un q2).BI,q2.free,q2.gl,by rw[put_defers];exact g3⟩
           obtain ⟨a2,w2,v2,s,H2,aaJ,fn0,r1,r2,r3⟩:=JZ hC hF h1 H' E' w' _ _ ms cs Oh af6 st3 (.reg p rest _ ops hc hk) hs' (hx.keep st q2 q3);exact ⟨a2,w2,v2,s,H2,aaJ,fn0,r1,(q1.trans (.one hleave)).trans r2,r3⟩
         ·cases hr
        ·cases hr
       ·cases hr
      ·exact h1.elim
end
structure Ns where
 g:Nat
 td:List It
 c:Core
 stk:List Fr
mutual
def coll:SV->SV->List (Nat×Rn)
 | .gs i,.gs j=>[(i,.id j)] | .gs i,.Aw=>[(i,.nil)] | .ptr i _,.ptr j _=>[(i,.id j)] | .mp i,.mp j=>[(i,.id j)] | .fn _ l,.fn _ m=>MS l m | .agg l,.agg m=>MS l m | .Aj l,.Aj m=>MS l m | .CG _ x,.CG _ y=>coll x y |_,_=>[]
def MS:List SV->List SV->List (Nat×Rn)
 |x::l,y::m=>coll x y++MS l m |_,_=>[]
end
def ane:List (SV×SV)->List (SV×SV)->List (Nat×Rn)
 |(a,b)::l,(c,d)::m=>coll a c++coll b d++ane l m |_,_=>[]
def anf:Option SB->Option SB->List (Nat×Rn)
 |some (.box l _),ay (.box m _)=>MS l m |some (.row l _ _ _),ay (.row m _ _ _)=>MS l m |some (.map l),ay (.map m)=>ane l m |_,_=>[]
def ang:List Fr->List Fr->List (Nat×Rn)
 |f::s,f'::s'=>MS f.tm f'.tm++ang s s' |_,_=>[]
def infer(hp' hp:List (Nat×SB)):Nat->List (Nat×Rn)->List (Nat×Rn)->List (Nat×Rn)
 |0,_,acc=>acc |_,[],acc=>acc |n+1,(i,r)::t,acc=>match zX acc i with
  |some _=>infer hp' hp n t acc |none=>match r with
   | .id j=>infer hp' hp n (anf (zX hp' i) (zX hp j)++t) ((i,r)::acc) | .nil=>infer hp' hp n t ((i,r)::acc)
def aaK(hp:List (Nat×SB))(ρ:List (Nat×Rn)):List Fr->List Fr->Option (List Bh)
 |[],[]=>ay [] |f::s,f'::s'=>CO (f.g==f'.g&&IZ f.td f'.td) (EK (qL hp ρ f.tm f'.tm) (aaK hp ρ s s')) |_,_=>aK
inductive D7 where
 |ret (s:Sh)
 |at_ (k:Nat) (l:List Bh)
def Rk:List Fr->List Fr->Bool
 |[],[]=>aC |f::s,f'::s'=>f.g==f'.g&&IZ f.td f'.td&&Rk s s' |_,_=>ak
def Ns.rn(t:Ns)(c:Core)(stk:List Fr):List (Nat×Rn):=infer t.c.hp c.hp 4000 (MS t.c.tm c.tm++ang t.stk stk) []
def V4(g:Nat)(td:List It)(c:Core)(stk:List Fr):Nat->List Ns->Tree D7
 |_,[]=>.fail |k,t::r=>bif g==t.g&&IZ td t.td&&Rk stk t.stk then match EK (qC (t.rn c stk) c t.c) (aaK c.hp (t.rn c stk) stk t.stk) with
   |some l=>.leaf (.at_ k l) |none=>.fail
  else V4 g td c stk (k+1) r
def anh(ts:List Ns):aaH->Tree D7
 | .fin v c=>match finish c v with
  |some s=>.leaf (.ret s) |none=>.fail
 | .stop g td c stk=>V4 g td c stk 0 ts
def AP(C:Ctx)(hold:Nat->Bool)(m n g:Nat)(td:List It)(c:Core)(stk:List Fr)(ts:List Ns):Tree D7:=(YN C hold m n g td c stk).bind (anh ts)
def Jw(P:Program)(C:Ctx)(K:Kx)(ts:List Ns)(R:Hp->Prop)(φ:Sh->Prop):D7->Prop
 | .ret s=>φ s | .at_ k l=>dF l/\∃t,ts[k]?=ay t/\Bc P C K t.g t.td t.c t.stk R φ
section
variable{P:Program}{C:Ctx}{K:Kx}{H H' Oa H0:Mem}{E E' Oc E1:Env}{w w' w'' w0:World}
def aaL(hp:List (Nat×SB))(ρ:List (Nat×Rn)):List Fr->List Fr->Prop
 |[],[]=>True |f::s,f'::s'=>f.g=f'.g/\f.td=f'.td/\leL hp ρ f.tm f'.tm/\aaL hp ρ s s' |_,_=>False
theorem aaM{hp:List (Nat×SB)}{ρ:List (Nat×Rn)}:∀{s s':List Fr} {q:List Bh},aaK hp ρ s s'=ay q->dF q->aaL hp ρ s s'
 |[],[],_,_,_=>trivial |f::s,f'::s',q,h,ha=>by
  simp only[aaK] at h;obtain ⟨h1,h2⟩:=AO h;obtain ⟨a,b,h3,h4,rfl⟩:=Bq h2;simp only[aH,beq_iff_eq] at h1;exact ⟨h1.1,L6 h1.2,Oe _ h3 (eG ha).1,aaM h4 (eG ha).2⟩
 |[],_::_,_,h,_=>by simp[aaK] at h |_::_,[],_,h,_=>by simp[aaK] at h
theorem FV.weak{hp:List (Nat×SB)}{ρ:List (Nat×Rn)}(hh:Ai K H E w hp):∀{s s':List Fr} {ms:List Frame},FV C H E s ms->aaL hp ρ s s'->FV C H (Fz ρ E) s' ms
 |[],[],[],_,_=>trivial |f::s,f'::s',m::ms,⟨⟨fn,a,items,h1,h2,h3,h4,h5⟩,h6⟩,⟨e1,e2,e3,e4⟩=>
  ⟨⟨fn,a,items,by rw[<-e1];exact h1,II hh _ e3 h2,h3,by rw[<-e2];exact h4,by rw[<-e1];exact h5⟩,FV.weak hh h6 e4⟩
 |[],[],_::_,h,_=>h.elim |_::_,_,[],h,_=>h.elim |[],_::_,_,_,h=>h.elim |_::_,[],_::_,_,h=>h.elim
theorem Og.weak{R:Hp->Prop}{ρ:List (Nat×Rn)}(h:Og R K H E w):Og R K H (Fz ρ E) w:=by
 obtain ⟨hh,h1,h2⟩:=h;refine ⟨hh,h1,fun b o e=>?_⟩;obtain ⟨a1,a2,a3,a4⟩:=h2 b o e;refine ⟨a1,a2,fun i=>?_,a4⟩;unfold bk Fz;cases hr:zX ρ i with
 |none=>simp |some r=>
  cases r with
  |id j=>exact a3 j |nil=>simp[Ah]
theorem af7{hp:List (Nat×SB)}{ρ:List (Nat×Rn)}:∀{s s':List Fr} {g:Nat},aaL hp ρ s s'->QC g s'=QC g s
 |[],[],_,_=>rfl |f::s,f'::s',_,⟨e1,_,_,e4⟩=>by simp only[QC];rw[e1];exact af7 e4 |[],_::_,_,h=>h.elim |_::_,[],_,h=>h.elim
theorem YO{g:Nat}{td:List It}{c c':Core}{stk Jy:List Fr}{R:Hp->Prop}{φ:Sh->Prop}(ρ:List (Nat×Rn))(hle:leC ρ c c')(hs:aaL c.hp ρ stk Jy)(h:Bc P C K g td c' Jy R φ):Bc P C K g td c stk R φ:=by
 intro H E w a items ms cs fn hfn st hi hst hx;have:=h H (Fz ρ E) w a items ms cs fn hfn (st.weak hle) hi (hst.weak st.hp hs) hx.weak;rw[af7 hs] at this;exact this
theorem UF{R:Hp->Prop}{φ:Sh->Prop}{ts:List Ns}{g:Nat}{td:List It}{c:Core}{stk:List Fr}:∀{r:List Ns} {k:Nat},(∀j,r[j]?=ts[k+j]?)->(V4 g td c stk k r).All (Jw P C K ts R φ)->Bc P C K g td c stk R φ
 |[],_,_,h=>h.elim |t::r,k,hk,h=>by
  unfold V4 at h;cases hb:(g==t.g&&IZ td t.td&&Rk stk t.stk)<;>simp only[hb,cond_true,cond_false] at h
  ·exact UF (fun j=>by have:=hk (j+1);simp only[jJ] at this;rw[this];congr 1;omega) h
  ·simp only[aH,beq_iff_eq] at hb
   obtain ⟨⟨h1,h2⟩,h3⟩:=hb;split at h
   ·rename_i l hl
    obtain ⟨a,b,q1,q2,rfl⟩:=Bq hl;obtain ⟨hl,t',ht,hg⟩:=h;have:=hk 0;simp only[jK,jv] at this;rw[<-this] at ht;cases ht;have h2:=L6 h2;subst h1 h2;exact YO (t.rn c stk) (air q1 (eG hl).1) (aaM q2 (eG hl).2) hg
   ·exact h.elim
theorem G9(hC:A8 P C)(hF:Bz P C){hold:Nat->Bool}{m n g:Nat}{td:List It}{c:Core}{stk:List Fr}{ts:List Ns}{R:Hp->Prop}{φ:Sh->Prop}
  (h:(AP C hold m n g td c stk ts).All (Jw P C (K0 H0 w0) ts R φ)):Bc P C (K0 H0 w0) g td c stk R φ:=by
 refine JZ hC hF (hold:=hold) (m:=m) (n:=n) ((iD h).mono fun o ho=>?_);cases o with
 |fin v c=>
  simp only[anh] at ho;split at ho
  ·rename_i s hs
   exact ⟨s,hs,ho⟩
  ·exact ho.elim
 |stop g td c stk=>exact UF (k:=0) (fun j=>by simp) ho
theorem af8{g:Nat}{fn:Func}{p:List Nat}{k:List It}{x:Code}{c:Core}{stk:List Fr}{R:Hp->Prop}{φ:Sh->Prop}(hfn:C.fns.get g=ay fn)(hx:AA (Ae fn) p=.loop x)
  (h:Bc P C K g (.code (0::p)::.code p::k) c stk R φ):Bc P C K g (.code p::k) c stk R φ:=by
 intro H E w a items ms cs fn' hfn' st hi hs he;rw[hfn] at hfn';cases hfn';have h0:AA (Ae fn) (0::p)=x:=by simp[AA,hx,child]
 cases hi with
 |code p hk=>
  have:=iw (0::p) (oU p x hx hk);rw[h0] at this;rw[hx];obtain ⟨a2,w2,v,s,H',todo,fn0,r0,r1,r2⟩:=h H E w a _ ms cs fn hfn st this hs he;exact ⟨a2,w2,v,s,H',todo,fn0,r0,.head step_loop r1,r2⟩
 |loop p y hl hk=>
  rw[hx] at hl;cases hl;have:=iw (0::p) (oU p x hx hk);rw[h0] at this;obtain ⟨a2,w2,v,s,H',todo,fn0,r0,r1,r2⟩:=h H E w a _ ms cs fn hfn st this hs he;exact ⟨a2,w2,v,s,H',todo,fn0,r0,.head step_inLoop r1,r2⟩
theorem V5:Og emp K H E w:=⟨fun _=>aK,trivial,fun _ _ h=>by cases h⟩
theorem KA(hC:A8 P C){g:Nat}{fn:Func}{F:List Sh->Tree Sh}(hfn:C.fns.get g=ay fn)(hb:fn.body.isSome=aC)
  (h:∀(H:Mem) (w:World) (AX:List Sh) (args:List Value) (φ:Sh->Prop),Dq H AX args->(F AX).All φ->∃DR:List Sh,Dq H DR args/\∃L,Bc P C (K0 H w) g [.code []] (zZ fn.ntmps DR L) [] emp φ):Aq P C.gls g F:=by
 intro H w AX args φ hon hg hr hφ;obtain ⟨DR,hr,L,hgo⟩:=h H w AX args φ hr hφ;obtain ⟨body,hbody⟩:=gy.1 hb;have hP:=hC.fn g fn hfn;intro cs;let a:Act:={tmps:=args.toArray++dX (fn.ntmps - args.toArray.size) undef,defers:=[]}
 have hlen:=hr.length;have st:St C (K0 H w) H E0 w (zZ fn.ntmps DR L) a:=by
  refine ⟨?_,⟨fun _ _ h=>by simp[zZ,zX] at h,fun _ _ _ _ _ h=>by simp[zZ,zX] at h⟩,⟨rfl,rfl,rfl,dh _,fun _ _ _=>rfl,hon,fun _ _ h=>h,fun _ h=>.inl h⟩,fun _ _ _=>rfl,hg,rfl⟩;have:a.tmps.toList=args++dR (fn.ntmps - DR.length) undef:=by simp[a,hlen]
  rw[this];exact (Jb hr).append (rF _ _ (by simp))
 have hit:BU (Ae fn) [.code []] [.code body]:=by
  have:=iw (body:=Ae fn) [] qy;have he:AA (Ae fn) []=body:=by simp[AA,Ae,hbody]
  rwa[he] at this
 obtain ⟨a',w',v,s,H',todo,fn0,q0,q1,q2,q3,q4,q5⟩:=hgo H E0 w a [.code body] [] cs fn hfn st hit trivial V5;exact ⟨.returned v,w',_,⟨v,s,H',rfl,q3,q4⟩,by rw[KG hP hbody];exact q1,rfl,rfl,q2,rfl,fn,hP,by cases hfn.symm.trans q0;exact q5⟩
end
def V6:Code->Bool
 | .loop _=>aC |_=>ak
def ZG(fn:Func):List It->Option (List It)
 | .code p::k=>bif V6 (AA (Ae fn) p) then ay (.code (0::p)::.code p::k) else aK |_=>aK
theorem Gq{P:Program}{C:Ctx}{K:Kx}{g:Nat}{fn:Func}{td tb:List It}{c:Core}{stk:List Fr}{R:Hp->Prop}{φ:Sh->Prop}(hfn:C.fns.get g=ay fn)(hx:ZG fn td=ay tb)
  (h:Bc P C K g tb c stk R φ):Bc P C K g td c stk R φ:=by
 unfold ZG at hx;split at hx
 ·rename_i p k
  cases hb:V6 (AA (Ae fn) p)<;>simp only[hb,cond_true,cond_false] at hx
  ·cases hx
  ·cases hx
   unfold V6 at hb;split at hb
   ·rename_i x he
    exact af8 hfn he h
   ·cases hb
 ·cases hx
def FW(P:Program):List Field->Nat->List SV->Bool
 |[],_,[]=>aC
 |f::r,j,.int .i64 _::z=>f.name != "_" && f.offset==j&&(match P.underlying f.type with|some (.int .i64)=>aC|_=>ak)&&FW P r (j+1) z
 |f::r,j,.bool _::z=>f.name != "_" && f.offset==j&&(match P.underlying f.type with|some .bool=>aC|_=>ak)&&FW P r (j+1) z
 |_,_,_=>ak
def aex(P:Program)(t:Nat)(z:List SV):Bool:=
 (match P.underlying t with|some (.struct fs)=>FW P fs.toList 0 z|_=>ak) && !P.stoodInHeld t && !P.eqGuardType P.depth t
theorem adf{P:Program}{t:Nat}{k:IntKind}(hu:P.underlying t=ay (.int k))(xs:List Cq)(j:Nat)(n:Int)(hj:xs[j]?=ay (.i n))(w:World):
  (part t (xs.map kM).toArray j).run P w=.ok (.int .i64 n) w:=by
 have:(xs.map kM).toArray[j]?=ay (.int .i64 n):=by simp[hj,kM]
 simp[part,isAgg,run_underlying hu,this]
theorem aaN{P:Program}{t:Nat}(hu:P.underlying t=ay .bool)(xs:List Cq)(j:Nat)(n:Bool)(hj:xs[j]?=ay (.b n))(w:World):
  (part t (xs.map kM).toArray j).run P w=.ok (.bool n) w:=by
 have:(xs.map kM).toArray[j]?=ay (.bool n):=by simp[hj,kM]
 simp[part,isAgg,run_underlying hu,this]
theorem aaO{l:List Cq}{k:IntKind}{n:Int}{z:List SV}(h:CV l (.int k n::z)=aC):∃a r,l=.i a::r/\CV r z=aC:=by
 unfold CV at h;split at h
 ·cases ‹SV.int k n::z=[]›
 ·rename_i e;cases e;exact ⟨_,_,rfl,h⟩
 ·rename_i e;cases e
 ·cases h
theorem YP{l:List Cq}{n:Bool}{z:List SV}(h:CV l (.bool n::z)=aC):∃a r,l=.b a::r/\CV r z=aC:=by
 unfold CV at h;split at h
 ·cases ‹SV.bool n::z=[]›
 ·rename_i e;cases e
 ·rename_i e;cases e;exact ⟨_,_,rfl,h⟩
 ·cases h
theorem aaP{l:List Cq}(h:CV l []=aC):l=[]:=by
 cases l with
 |nil=>rfl |cons a l=>cases a<;>simp[CV] at h
theorem Tf{α:Type}{l:List α}{j:Nat}{a:α}{r:List α}(h:l.drop j=a::r):l[j]?=ay a/\l.drop (j+1)=r:=by
 have h1:l[j]?=ay a:=by
  have:=congrArg (fun x=>x[0]?) h;simpa using this
 refine ⟨h1,?_⟩;have:=congrArg List.tail h;rw[List.tail_drop] at this;exact this
theorem PZ{P:Program}(d:Nat)(w:World)(xs ys:List Cq):∀(fs:List Field) (j:Nat) (z:List SV),FW P fs j z=aC->CV (xs.drop j) z=aC->CV (ys.drop j) z=aC->
  (oV (d+1) (xs.map kM).toArray (ys.map kM).toArray fs).run P w=.ok (decide (xs.drop j=ys.drop j)) w
 |[],j,z,h,h1,h2=>by
  cases z with
  |cons a z=>simp[FW] at h |nil=>rw[aaP h1,aaP h2];simp[oV]
 |f::fs,j,z,h,h1,h2=>by
  cases z with
  |nil=>simp[FW] at h |cons a0 z=>
  cases a0;case int k n=>
   cases k;case i64=>
    unfold FW at h;simp only[aH,bne_iff_ne,ne_eq,beq_iff_eq] at h;obtain ⟨⟨⟨a1,a2⟩,a3⟩,a4⟩:=h;have hu:P.underlying f.type=ay (.int .i64):=by
     split at a3
     ·assumption
     ·cases a3
    obtain ⟨a,r1,q1,s1⟩:=aaO h1;obtain ⟨b,r2,q2,s2⟩:=aaO h2;obtain ⟨g1,t1⟩:=Tf q1;obtain ⟨g2,t2⟩:=Tf q2;have p1:=adf hu xs j _ g1 w;have p2:=adf hu ys j _ g2 w;have q:=run_equalIn_int (P:=P) w d f.type .i64 .i64 a b hu;have ih:=PZ d w xs ys fs (j+1) z a4 (by rw[t1];exact s1) (by rw[t2];exact s2);have hn:f.name≠ "_" :=by simpa using a1
    simp only[oV,hn,ne_eq,not_false_eq_true,if_true,a2,gG,p1,p2,q,fU,zi];rw[q1,q2];rw[t1,t2] at ih;by_cases hb:a=b
    ·subst hb
     simp only[beq_self_eq_true,wR,nC,if_false];rw[ih];simp
    ·have hb':(a==b)=ak:=by simpa using hb
     simp only[hb',wG,if_true,oQ];simp[hb]
   all_goals simp[FW] at h
  case bool n=>
   unfold FW at h;simp only[aH,bne_iff_ne,ne_eq,beq_iff_eq] at h;obtain ⟨⟨⟨a1,a2⟩,a3⟩,a4⟩:=h;have hu:P.underlying f.type=ay .bool:=by
    split at a3
    ·assumption
    ·cases a3
   obtain ⟨a,r1,q1,s1⟩:=YP h1;obtain ⟨b,r2,q2,s2⟩:=YP h2;obtain ⟨g1,t1⟩:=Tf q1;obtain ⟨g2,t2⟩:=Tf q2;have p1:=aaN hu xs j _ g1 w;have p2:=aaN hu ys j _ g2 w;have q:=run_equalIn_bool' (P:=P) w d f.type a b hu;have ih:=PZ d w xs ys fs (j+1) z a4 (by rw[t1];exact s1) (by rw[t2];exact s2);have hn:f.name≠ "_" :=by simpa using a1
   simp only[oV,hn,ne_eq,not_false_eq_true,if_true,a2,gG,p1,p2,q,fU,zi];rw[q1,q2];rw[t1,t2] at ih;by_cases hb:a=b
   ·subst hb
    simp only[beq_self_eq_true,wR,nC,if_false];rw[ih];simp
   ·have hb':(a==b)=ak:=by simpa using hb
    simp only[hb',wG,if_true,oQ];simp[hb]
  all_goals simp[FW] at h
theorem XE{P:Program}{t:Nat}{z:List SV}(h:aex P t z=aC)(xs ys:List Cq)(w:World)(h1:CV xs z=aC)(h2:CV ys z=aC)(x y:Operand):
  (do eqGuard .eql t x y (.agg (xs.map kM).toArray) (.agg (ys.map kM).toArray);binOp .eql t (.agg (xs.map kM).toArray) (.agg (ys.map kM).toArray):Sem Value).run P w=.ok (.bool (decide (xs=ys))) w/\
  (do eqGuard .neq t x y (.agg (xs.map kM).toArray) (.agg (ys.map kM).toArray);binOp .neq t (.agg (xs.map kM).toArray) (.agg (ys.map kM).toArray):Sem Value).run P w=.ok (.bool (!decide (xs=ys))) w:=by
 unfold aex at h;simp only[aH,Bool.not_eq_true'] at h;obtain ⟨⟨a1,a2⟩,a3⟩:=h;split at a1
 ·rename_i fs hu
  have hf:P.fieldsOf t=fs:=by simp[Program.fieldsOf,hu]
  have he:=run_equalIn_struct (P:=P) w 9999 t (xs.map kM).toArray (ys.map kM).toArray (by rw[hf];exact hu) a2;rw[hf,PZ 9998 w xs ys fs.toList 0 z a1 (by rw[jc];exact h1) (by rw[jc];exact h2)] at he;simp only[jc] at he;have g1:=run_eqGuard_agg (P:=P) w .eql t x y (xs.map kM).toArray (ys.map kM).toArray a3;have g2:=run_eqGuard_agg (P:=P) w .neq t x y (xs.map kM).toArray (ys.map kM).toArray a3;have b1:=run_eql_struct (P:=P) w t (xs.map kM).toArray (ys.map kM).toArray;have b2:=run_neq_struct (P:=P) w t (xs.map kM).toArray (ys.map kM).toArray;rw[he] at b1 b2;constructor
  ·rw[gG,g1,fU,b1,fU]
  ·rw[gG,g2,fU,b2,fU]
 ·cases a1
def af9(P:Program):List Nat->Bool
 |[]=>aC |T::r=>(match P.info? T with|some inf=>inf.comparable|none=>ak)&&(match P.underlying T with|some (.pointer e)=>(match P.info? e with|some ie=>ie.size != 0|none=>ak) |_=>ak)&&af9 P r
theorem V7{P:Program}:∀{l:List Nat},af9 P l=aC->∀T,l.contains T=aC->∃inf e ie,P.info? T=ay inf/\inf.comparable=aC/\P.underlying T=ay (.pointer e)/\P.info? e=ay ie/\ie.size≠0
 |[],_,T,h=>by simp at h |T'::r,h,T,hT=>by
  simp only[af9,aH] at h;obtain ⟨⟨h1,h2⟩,h3⟩:=h;simp only[sN,mZ,beq_iff_eq] at hT;rcases hT with rfl|hT
  ·split at h1
   ·rename_i inf hi
    split at h2
    ·rename_i e he
     split at h2
     ·rename_i ie hie
      exact ⟨inf,e,ie,hi,h1,he,hie,by simpa using h2⟩
     ·cases h2
    ·cases h2
   ·cases h1
  ·exact V7 h3 T hT
def V8(P:Program)(tys:BT JI):List Nat->Bool
 |[]=>aC |t::r=>(match tys.get t with|some i=>aex P t i.zero|none=>aC)&&V8 P tys r
theorem P5{P:Program}{tys:BT JI}:∀{l:List Nat},V8 P tys l=aC->∀t i,l.contains t=aC->tys.get t=ay i->aex P t i.zero=aC
 |[],_,t,_,h,_=>by simp at h |t'::r,h,t,i,ht,hi=>by
  simp only[V8,aH] at h;simp only[sN,mZ,beq_iff_eq] at ht;rcases ht with rfl|ht
  ·have:=h.1;rw[hi] at this;exact this
  ·exact P5 h.2 t i ht hi
section
variable{P:Program}{C:Ctx}{H H':Mem}{E E':Env}{w w':World}
def KX(E:Env)(hp:List (Nat×SB)):Nat->Prop:=fun b=>∃id sb,zX hp id=ay sb/\AL E id sb=ay b
theorem aey{K:Kx}{hp:List (Nat×SB)}(p:Nat->Bool)(h:Ai K H E w hp):Ai K H E w (dropKey p hp):=by
 have key:∀{i:Nat} {sb:SB},zX (dropKey p hp) i=ay sb->zX hp i=ay sb:=fun {i sb} hl=>by
  rw[Kz] at hl;cases hp':p i<;>simp only[hp',cond_true,cond_false] at hl
  ·exact hl
  ·cases hl
 exact ⟨fun id sb hl=>h.ent id sb (key hl),fun id id' sb sb' b l1 l2 o1 o2=>h.FQ id id' sb sb' b (key l1) (key l2) o1 o2⟩
end
inductive ays where
 |fin (v:SV) (hp:List (Nat×SB))
 |stop (td:List It) (c:Core)
section
variable{P:Program}{C:Ctx}{K:Kx}{H H':Mem}{E E' E0:Env}{w w':World}
end
def qF(hp:List (Nat×SB))(ρ:List (Nat×Rn)):List (Int×Bool×SV)->List (Int×Bool×SV)->Option (List Bh)
 |[],[]=>ay [] |(n,p,x)::l,(n',p',x')::l'=>CO (p==p') (EK (ay [.int n n']) (EK (bif p' then qS hp ρ x x' else ay []) (qF hp ρ l l'))) |_,_=>aK
def qB2(hp:List (Nat×SB))(ρ:List (Nat×Rn))(id':Nat):SB->Option (List Bh)
 | .fm k' M' fs' us' tg'=>match zX ρ id' with
  |some (.id id)=>match zX hp id with
   |some (.fm k M fs us _)=>CO (k==k'&&tg'.isNone) (EK (ay [.mp M M']) (EK (qF hp ρ fs fs') (qF hp ρ us us'))) |_=>aK
  |_=>aK
 | .Gx e' st' n' g' more'=>match zX ρ id' with
  |some (.id id)=>match zX hp id with
   |some (.Gx e st n g more)=>CO (e==e'&&st==st'&&more.length==more'.length&&E8 more') (EK (ay [.nat n n',.get n g g']) (qL hp ρ more more')) |_=>aK
  |_=>aK
 |sb=>qB hp ρ id' sb
def qH2(hp:List (Nat×SB))(ρ:List (Nat×Rn)):List (Nat×SB)->Option (List Bh)
 |[]=>ay [] |(id',sb)::l=>EK (qB2 hp ρ id' sb) (qH2 hp ρ l)
def ZH:List (Int×Bool×SV)->List (Int×Bool×SV)->List (Nat×Rn)
 |(_,aC,x)::l,(_,aC,y)::m=>coll x y++ZH l m |_::l,_::m=>ZH l m |_,_=>[]
def aqK:Option SB->Option SB->List (Nat×Rn)
 |some (.fm _ _ fs us _),ay (.fm _ _ gs vs _)=>ZH fs gs++ZH us vs |some (.Gx _ _ _ _ l),ay (.Gx _ _ _ _ m)=>MS l m |a,b=>anf a b
def ZI(hp' hp:List (Nat×SB)):Nat->List (Nat×Rn)->List (Nat×Rn)->List (Nat×Rn)
 |0,_,acc=>acc |_,[],acc=>acc |n+1,(i,r)::t,acc=>match zX acc i with
  |some _=>ZI hp' hp n t acc |none=>match r with
   | .id j=>ZI hp' hp n (aqK (zX hp' i) (zX hp j)++t) ((i,r)::acc) | .nil=>ZI hp' hp n t ((i,r)::acc)
structure QK where
 hp:List (Nat×SB)
 keep:List Nat
def QK.rn(t:QK)(hp:List (Nat×SB)):List (Nat×Rn):=ZI t.hp hp 4000 (t.keep.map fun i=>(i,.id i)) []
def ajY(hp:List (Nat×SB))(t:QK):Option (List Bh):=CO (JX (JY (t.rn hp))&&t.keep.all fun i=>ade (zX (t.rn hp) i) i) (qH2 hp (t.rn hp) t.hp)
def ajZ(v:SV)(hp:List (Nat×SB)):Nat->List QK->Tree (SV×Nat×List Bh)
 |_,[]=>.fail |k,t::r=>match ajY hp t with
  |some l=>.leaf (v,k,l) |none=>ajZ v hp (k+1) r
def toEnd(ts:List QK):Out->Tree (SV×Nat×List Bh)
 | .done v c=>ajZ v c.hp 0 ts | .stop _ _ _=>.fail
def FX(ts:List QK)(φ:SV->Nat->Prop):SV×Nat×List Bh->Prop
 |(v,k,l)=>dF l/\φ v k
@[irreducible] def Ez (ψ:SV×Nat×List Bh->Prop) (t:Tree (SV×Nat×List Bh)):Prop:=t.All ψ
theorem BZ(ψ:SV×Nat×List Bh->Prop)(t:Tree (SV×Nat×List Bh)):Ez ψ t=t.All ψ:=by unfold Ez;rfl
section
variable{P:Program}{C:Ctx}{K:Kx}{H H':Mem}{E E':Env}{w w':World}{hp:List (Nat×SB)}{ρ:List (Nat×Rn)}
theorem aez(hh:Ai K H E w hp):∀{l l':List (Int×Bool×SV)} {q:List Bh} {r:List (Int×Option Value)},qF hp ρ l l'=ay q->dF q->F8 H E l r->F8 H (Fz ρ E) l' r
 |[],[],_,[],_,_,_=>trivial |(n,p,x)::l,(n',p',x')::l',q,(k,o)::r,hq,ha,⟨h1,h2,h3⟩=>by
  simp only[qF] at hq;obtain ⟨hp',hq⟩:=AO hq;obtain ⟨a,b,e1,e2,rfl⟩:=Bq hq;obtain ⟨c,d,e3,e4,rfl⟩:=Bq e2;cases e1;have hpp:p=p':=by simpa using hp'
  subst hpp;obtain ⟨hn,ha⟩:=ha;have hn:n=n':=hn;subst hn;have ha2:=eG (show dF (c++d) from ha);refine ⟨h1,?_,aez hh e4 ha2.2 h3⟩;cases p with
  |true=>
   cases o with
   |none=>exact h2 |some v=>exact ⟨Rh hh _ (aaG _ e3 ha2.1) h2.1,h2.2⟩
  |false=>
   cases o with
   |none=>exact h2 |some v=>exact h2
 |[],_::_,_,_,h,_,_=>by simp[qF] at h |_::_,[],_,_,h,_,_=>by simp[qF] at h |_::_,_::_,_,[],_,_,h=>h.elim |[],[],_,_::_,_,_,h=>h.elim
theorem aeA(hh:Ai K H E w hp){id':Nat}{sb:SB}{q:List Bh}(hq:qB2 hp ρ id' sb=ay q)(ha:dF q):
  Gg K H (Fz ρ E) w id' sb/\∀b,AL (Fz ρ E) id' sb=ay b->∃id s0,zX ρ id'=ay (.id id)/\zX hp id=ay s0/\AL E id s0=ay b:=by
 unfold qB2 at hq;split at hq
 ·rename_i k' M' fs' us' tg'
  split at hq
  ·rename_i id hr
   split at hq
   ·rename_i k M fs us tg hl
    obtain ⟨hk,hq⟩:=AO hq;obtain ⟨a,b,e1,e2,rfl⟩:=Bq hq;obtain ⟨c,d,e3,e4,rfl⟩:=Bq e2;cases e1;simp only[aH,beq_iff_eq,Option.isNone_iff_eq_none] at hk;obtain ⟨rfl,rfl⟩:=hk;obtain ⟨hM,ha⟩:=ha;have hM:M=M':=hM;subst hM;have ha2:=eG (show dF (c++d) from ha);obtain ⟨b,ms,clk,fv,uv,he,h1,h2,h3,h4,h5,h6,h7⟩:=hh.ent _ _ hl;refine ⟨⟨b,ms,clk,fv,uv,by rw[Dt hr];exact he,h1,aez hh e3 ha2.1 h2,aez hh e4 ha2.2 h3,h4,h5,trivial,h7⟩,fun b' hb=>⟨id,_,hr,hl,?_⟩⟩;simp only[AL,Dt hr] at hb ⊢;exact hb
   ·cases hq
  ·cases hq
 ·rename_i e' st' n' g' more'
  split at hq
  ·rename_i id hr
   split at hq
   ·rename_i e st n g more hl
    obtain ⟨hk,hq⟩:=AO hq;obtain ⟨a,b,e1,e2,rfl⟩:=Bq hq;cases e1;simp only[aH,beq_iff_eq] at hk;obtain ⟨⟨⟨rfl,rfl⟩,hlen⟩,hone⟩:=hk;obtain ⟨hn,hg,ha⟩:=ha;have hn:n=n':=hn;subst hn;have hg:∀i,i<n->g i=g' i:=hg;obtain ⟨v,xs,ys,he,h1,h2,h3,h4,h5,h6⟩:=hh.ent _ _ hl;refine ⟨⟨v,xs,ys,by rw[Dt hr];exact he,by rw[<-hlen];exact h1,Ri h2 hg,II hh _ (Oe _ e2 ha) h3,by rw[<-hlen];exact h4,hone,h6⟩,fun b' hb=>⟨id,_,hr,hl,?_⟩⟩;simp only[AL,Dt hr] at hb ⊢;exact hb
   ·cases hq
  ·cases hq
 ·exact VX hh (am9 hq ha)
theorem ZJ:∀{l:List (Nat×SB)} {q:List Bh} {i:Nat} {sb:SB},qH2 hp ρ l=ay q->dF q->zX l i=ay sb->∃q',qB2 hp ρ i sb=ay q'/\dF q'
 |[],_,_,_,_,_,h=>by simp[zX] at h |(j,x)::l,q,i,sb,hq,ha,h=>by
  simp only[qH2] at hq;obtain ⟨a,b,e1,e2,rfl⟩:=Bq hq;simp only[zX] at h;cases hj:(j==i)<;>simp only[hj,cond_true,cond_false] at h
  ·exact ZJ e2 (eG ha).2 h
  ·cases h
   obtain rfl:j=i:=by simpa using hj
   exact ⟨a,e1,(eG ha).1⟩
theorem ani(hh:Ai K H E w hp){t:QK}{q:List Bh}(hq:ajY hp t=ay q)(ha:dF q):∃E',Ai K H E' w t.hp/\∀i∈t.keep,E' i=E i:=by
 unfold ajY at hq;obtain ⟨h1,h2⟩:=AO hq;simp only[aH,dK] at h1;refine ⟨Fz (t.rn hp) E,⟨fun id sb hl=>?_,fun id id' sb sb' b l1 l2 o1 o2=>?_⟩,fun i hi=>Dt (VZ (h1.2 i hi))⟩
 ·obtain ⟨q',e1,e2⟩:=ZJ h2 ha hl
  exact (aeA hh e1 e2).1
 ·obtain ⟨q1,e1,e2⟩:=ZJ h2 ha l1
  obtain ⟨q2,e3,e4⟩:=ZJ h2 ha l2;obtain ⟨i1,s1,a1,a2,a3⟩:=(aeA hh e1 e2).2 b o1;obtain ⟨i2,s2,b1,b2,b3⟩:=(aeA hh e3 e4).2 b o2;have:=hh.FQ _ _ _ _ _ a2 b2 a3 b3;subst this;exact aev h1.1 a1 b1
theorem aga{v:SV}{φ:SV->Nat->Prop}{ts:List QK}:∀{r:List QK} {k:Nat},(∀j,r[j]?=ts[k+j]?)->(ajZ v hp k r).All (FX ts φ)->∃j t q,ts[j]?=ay t/\ajY hp t=ay q/\dF q/\φ v j
 |[],_,_,h=>h.elim |t::r,k,hk,h=>by
  unfold ajZ at h;split at h
  ·rename_i l hl
   have:=hk 0;simp only[jK,jv] at this;exact ⟨k,t,l,this.symm,hl,h.1,h.2⟩
  ·exact aga (fun j=>by have:=hk (j+1);simp only[jJ] at this;rw[this];congr 1;omega) h
theorem ait(hC:A8 P C)(hF:Bz P C){n g:Nat}{fn:Func}{c:Core}{args:Array Value}{ts:List QK}{φ:SV->Nat->Prop}(hfn:C.fns.get g=ay fn)(hb:fn.body.isSome=aC)
  (hd:Af H E c.tm (args++dX (fn.ntmps - args.size) undef).toList) (hh:Ai ⟨w,KX E c.hp,H⟩ H E w c.hp) (hon:H.on w) (hfree:Free E c) (hg:CS C.gls H)
  (h:Ez (FX ts φ) ((run C n aC g [.code []] c).bind (toEnd ts))) :
  Calls P g args w fun e w'=>∃v sv k t H' E1 E',e=.returned v/\φ sv k/\ts[k]?=ay t/\Den H' E1 sv v/\Ai ⟨w,KX E c.hp,H⟩ H' E' w' t.hp/\DX ⟨w,KX E c.hp,H⟩ H' w'/\H.le H'/\∀i∈t.keep,∀u,E i=ay u->E' i=ay u:=by
 rw[BZ] at h;intro cs;obtain ⟨body,hbody⟩:=gy.1 hb;have hP:=hC.fn g fn hfn;let b:Frame:={(default:Frame) with fn:=g,kind:=.normal}
 let a:Act:={tmps:=args++dX (fn.ntmps - args.size) undef,defers:=[]}
 have henter:gI P g args .normal=b.at a [.code body]:=by
  simp[gI,Frame.at,hP,hbody,b,a]
 have st:St C ⟨w,KX E c.hp,H⟩ H E w c a:=
  ⟨hd,hh,⟨rfl,rfl,rfl,dh _,fun _ _ _=>rfl,hon,fun _ _ h=>h,fun _ h=>.inl h⟩,hfree,hg,rfl⟩
 have hit:BU (Ae fn) [.code []] [.code body]:=by
  have:=iw (body:=Ae fn) [] qy;have he:AA (Ae fn) []=body:=by simp[AA,Ae,hbody]
  rwa[he] at this
 obtain ⟨out,h1,h2⟩:=Tc hC hF n aC g [.code []] c H E w a fn [.code body] _ hfn (iD h) st hit b cs;cases out with
 |stop g' FU c'=>exact h1.elim |done sv c'=>
  obtain ⟨a',w',H',E',v,todo,q1,q2,q3,q4,q5⟩:=h2;obtain ⟨k,t,q,r1,r2,r3,r4⟩:=aga (ts:=ts) (k:=0) (fun j=>by simp) h1;obtain ⟨E2,r5,r6⟩:=ani q2.hp r2 r3;exact ⟨.returned v,w',_,⟨v,sv,k,t,H',E',E2,rfl,r4,r1,q4,r5,q2.BI,q3.Iw,fun i hi u hu=>by rw[r6 i hi];exact q3.LH i u hu⟩,by rw[henter];exact q1,rfl,rfl,q2.defers,rfl,fn,hP,q5⟩
end
def aj0(fn:Func)(td:List It)(c:Core):Option (Nat×List SV×Option Nat×List It):=
 match td with
 | .reg p (i::r)::k=>match AA (Ae fn) p with
  | .region _ ops _=>match opAt ops.toList i with
   |some o=>match Ny ops.toList c.tm o with
    | .yes=>match o.op with
     | .call kk=>match kk.callee with
      | .value f=>match Bd c.tm f with
       | .fn g cs=>ay (g,kk.args.toList.map (Bd c.tm)++cs,o.dst,.reg p r::k) |_=>aK
      |_=>aK
     |_=>aK
    |_=>aK
   |none=>aK
  |_=>aK
 |_=>aK
def Hp.at(h:Hp)(H:Mem)(w:World):Prop:=∀b o,h b=ay o->w.heap[b]?=ay o/\H b=aK
mutual
def He:SV->Bool
 | .ptr _ _=>ak | .gs _=>ak | .gp _ _ _ _=>ak | .mp _=>ak | .ev _=>ak | .vw _ _=>ak | .fn _ l=>KY l | .agg l=>KY l | .Aj l=>KY l | .CG _ x=>He x |_=>aC
def KY:List SV->Bool
 |[]=>aC |x::l=>He x&&KY l
end
def aeB:List Fr->Bool
 |[]=>aC |f::s=>KY f.tm&&aeB s
def Ll:Env:=fun _=>aK
mutual
theorem L8{H:Mem}{E E':Env}:∀{x:SV} {v:Value},He x=aC->Den H E x v->Den H E' x v
 | .any,_,_,_=>trivial | .val _,_,_,h=>h | .int _ _,_,_,h=>h | .sym _ _,_,_,h=>h | .bool _,_,_,h=>h | .test _,_,_,h=>h | .str _,_,_,h=>h | .ptr _ _,_,h,_=>by simp[He] at h | .gs _,_,h,_=>by simp[He] at h | .gp _ _ _ _,_,h,_=>by simp[He] at h | .EJ,_,_,h=>h | .Aw,_,_,h=>h | .F7,_,_,h=>h | .DK,_,_,h=>h | .Fp,_,_,h=>h | .fn _ l,_,hn,⟨vs,h1,h2⟩=>⟨vs,h1,J3 (by simpa[He] using hn) h2⟩ | .agg l,_,hn,⟨vs,h1,h2⟩=>⟨vs,h1,J3 (by simpa[He] using hn) h2⟩ | .Aj l,_,hn,⟨vs,h1,h2⟩=>⟨vs,h1,J3 (by simpa[He] using hn) h2⟩ | .CG _ x,_,hn,⟨v,h1,h2⟩=>⟨v,h1,L8 (by simpa[He] using hn) h2⟩ | .mp _,_,h,_=>by simp[He] at h | .sh _,_,_,h=>h | .Gl _ _ _ _ _,_,_,h=>h | .glob _,_,_,h=>h | .ev _,_,h,_=>by simp[He] at h | .vw _ _,_,h,_=>by simp[He] at h
theorem J3{H:Mem}{E E':Env}:∀{l:List SV} {vs:List Value},KY l=aC->Af H E l vs->Af H E' l vs
 |[],[],_,_=>trivial |_::_,_::_,hn,⟨h1,h2⟩=>by
  simp only[KY,aH] at hn;exact ⟨L8 hn.1 h1,J3 hn.2 h2⟩
 |[],_::_,_,h=>h.elim |_::_,[],_,h=>h.elim
end
theorem adg{C:Ctx}{H:Mem}{E E':Env}:∀{s:List Fr} {ms:List Frame},aeB s=aC->FV C H E s ms->FV C H E' s ms
 |[],[],_,_=>trivial |f::s,m::ms,hn,⟨⟨fn,a,items,h1,h2,h3⟩,h4⟩=>by
  simp only[aeB,aH] at hn;exact ⟨⟨fn,a,items,h1,J3 hn.1 h2,h3⟩,adg hn.2 h4⟩
 |[],_::_,_,h=>h.elim |_::_,[],_,h=>h.elim
theorem OM{K:Kx}{H:Mem}{E:Env}{w:World}:Ai K H E w []:=⟨fun _ _ hl=>by simp[zX] at hl,fun _ _ _ _ _ hl=>by simp[zX] at hl⟩
section
variable{P:Program}{C:Ctx}{H H' H0:Mem}{E E':Env}{w w' w0:World}
def aj1(P:Program)(gls:List (Nat×Sh))(g:Nat)(args:List SV)(R:Hp->Prop)(sv:SV)(R':Hp->Prop):Prop:=
 ∀(H:Mem) (E:Env) (w:World) (vs:List Value) (h:Hp),Af H E args vs->H.on w->CS gls H->R h->h.at H w->
  Calls P g vs.toArray w fun en w'=>∃v H' h',en=.returned v/\Den H' E sv v/\R' h'/\h'.at H' w'/\H.le H'/\DX ⟨w,fun b=>h b≠aK,H⟩ H' w'/\∀b,h' b≠aK->w.heap.size<=b\/h b≠aK
theorem agb{K:Kx}{g g2:Nat}{fn:Func}{td FU:List It}{c:Core}{stk:List Fr}{R R':Hp->Prop}{φ:Sh->Prop}{args:List SV}{sv:SV}{dst:Option Nat}(hfn:C.fns.get g=ay fn)
  (hp:aj0 fn td c=ay (g2,args,dst,FU)) (hen:Enters P g2) (hn:c.hp=[]/\KY c.tm=aC/\aeB stk=aC) (hcall:aj1 P C.gls g2 args R sv R') (hgo:Bc P C K g FU {c with tm:=QA c.tm dst sv} stk R' φ):Bc P C K g td c stk R φ:=by
 intro H E1 w a items ms cs fn' hfn' st hi hs hx;rw[hfn] at hfn';cases hfn';let E:Env:=Ll
 have st:St C K H E w c a:=⟨J3 hn.2.1 st.den,by rw[hn.1];exact OM,st.BI,fun _ _ _=>rfl,st.gl,st.defers⟩;have hs:FV C H E stk ms:=adg hn.2.2 hs;have hx:Og R K H E w:=let ⟨h,h1,h2⟩:=hx;⟨h,h1,fun b o e=>⟨(h2 b o e).1,(h2 b o e).2.1,fun i hi=>by simp[E,Ll,bk] at hi,(h2 b o e).2.2.2⟩⟩;unfold aj0 at hp;split at hp;rotate_left
 ·cases hp
 rename_i p i rest k;split at hp;rotate_left
 ·cases hp
 rename_i rid ops dr hcode;split at hp;rotate_left
 ·cases hp
 rename_i o ho;split at hp;rotate_left
 ·cases hp
 rename_i hwant;split at hp;rotate_left
 ·cases hp
 rename_i kk hop;split at hp;rotate_left
 ·cases hp
 rename_i f V3;split at hp;rotate_left
 ·cases hp
 rename_i g3 caps hev;cases hp;cases hi with
 |reg p l id ops2 hc hk=>
  rw[hc] at hcode;cases hcode;rename_i k';have df:=AV (H:=H) (E:=E) st.den f;rw[hev] at df;obtain ⟨vs,ef,hvs⟩:=df;have hargs:=(MQ st.den kk.args.toList).append hvs;have ho':ops[i]?=ay o:=by simpa[opAt] using ho
  have hw':=GR (ops:=ops) st.den o;rw[hwant] at hw';have hrun:(execOp a.eval o).run P w=.ok (.enter g2 (kk.args.map a.eval++vs)) w:=by
   simp only[execOp,hop,resolve,V3];simp[jF,ef,invoke,Ht hen]
  have hg:=stepG_op (P:=P) (b:=base g) (k:=k') (cs:=ms++cs) (w:=w) (rest:=rest) ho' hw';have henter:step P (lone ((base g).at a (.inRegion ops (i::rest)::k')) (ms++cs) w)=.next (lone (gI P g2 (kk.args.map a.eval++vs) .normal) ((base g).at a (.inRegion ops (i::rest)::k')::(ms++cs)) w):=
   step_lone_go (by rw[hg];simp[gU,hrun,Frame.at])
  obtain ⟨h,hR,hb⟩:=hx;have hcl:=hcall H E w _ h hargs st.BI.on st.gl hR fun b o e=>⟨(hb b o e).1,(hb b o e).2.1⟩;have au9:(kk.args.toList.map a.eval++vs.toList).toArray=kk.args.map a.eval++vs:=by
   apply Array.toList_inj.1;simp
  rw[au9] at hcl;obtain ⟨en,w',F,⟨v,H',h',rfl,dv,hR',hat',hH,V9,asz⟩,q1,q2,q3⟩:=hcl ((base g).at a (.inRegion ops (i::rest)::k')::(ms++cs));have hleave:step P (lone F ((base g).at a (.inRegion ops (i::rest)::k')::(ms++cs)) w')=.next (lone ((base g).at (a.put o.dst v) (.inRegion ops rest::k')) (ms++cs) w'):=by
   rw[step_leave_returned q3,lV];simp[ho']
  have hno:∀{i:Nat} {b:Nat},bk E i=ay b->h b=aK:=fun {i b} hi=>by
   cases hx:h b with
   |none=>rfl |some o=>exact ((hb b o hx).2.2.1 i hi).elim
  have hun:∀{b:Nat},H b=aK->b<w.heap.size->h b=aK->H' b=aK:=fun {b} h1 h2 h3=>by
   cases hx:H' b with
   |none=>rfl |some o=>
    rcases V9.fresh b (by rw[hx];simp) with q|q|q
    ·exact (q h1).elim
    ·have q:w.heap.size<=b:=q;omega
    ·exact (q h3).elim
  have ER:∀{b:Nat},h b≠aK->K.w0.heap.size<=b\/K.own b:=fun {b} hb'=>by
   cases hx:h b with
   |none=>exact (hb' hx).elim |some o=>exact (hb b o hx).2.2.2
  have hhp:Ai K H' E w' c.hp:=⟨fun id sb hl=>by
   have hent:=st.hp.ent id sb hl;exact hent.kept hH (fun _ _ e=>e) (fun b ho=>V9.kept b (hent.lt ho).1 (by have:=hno (Gh ho);simp[this])) fun b ho=>hun (hent.lt ho).2.1 (hent.lt ho).1 (hno (Gh ho)),st.hp.FQ⟩
  have hW:DX K H' w':=⟨V9.os.trans st.BI.os,V9.tape.trans st.BI.tape,V9.output.trans st.BI.output,iH st.BI.size V9.size,fun b hb1 hn=>by
   rw[V9.kept b (lu hb1 st.BI.size) fun hq=>by rcases ER hq with q|q;omega;exact hn q]
   exact st.BI.kept b hb1 hn,V9.on,fun b o e=>hH b o (st.BI.le b o e),fun b hb1=>by
    rcases V9.fresh b hb1 with q|q|q
    ·exact st.BI.fresh b q
    ·exact .inr (.inl (iH st.BI.size q))
    ·exact .inr (ER q)⟩
  have st3:St C K H' E w' {c with tm:=QA c.tm o.dst sv} (a.put o.dst v):=
   ⟨Ju (c:=c) (st.den.le hH fun _ _ e=>e) _ dv,hhp,hW,st.free,st.gl.le hH,by rw[put_defers];exact st.defers⟩
  have hx3:Og R' K H' E w':=by
   refine ⟨h',hR',fun b o e=>⟨(hat' b o e).1,(hat' b o e).2,fun i hi=>?_,?_⟩⟩
   ·simp[E,Ll,bk] at hi
   ·rcases asz b (by rw[e];simp) with q|q
    ·exact .inl (iH st.BI.size q)
    ·exact ER q
  obtain ⟨a2,w2,v2,s,H2,aaJ,fn0,r1,r2,r3⟩:=hgo H' E w' _ _ ms cs fn hfn st3 (.reg p rest _ ops hc hk) (hs.le hH fun _ _ e=>e) hx3;exact ⟨a2,w2,v2,s,H2,aaJ,fn0,r1,(Steps.head henter (q1.trans (.one hleave))).trans r2,r3⟩
def aaQ(i:Nat)(u:Value)(x:SV):SV:=match x with
 | .ptr j 0=>bif j==i then .val u else .any |_=>bif He x then x else .any
theorem aiu{E':Env}{i:Nat}{b:Nat}(he:E i=ay (.pointer (ay ⟨b,0,aK⟩))){x:SV}{v:Value}(h:Den H E x v):Den H E' (aaQ i (.pointer (ay ⟨b,0,aK⟩)) x) v:=by
 unfold aaQ;split
 ·rename_i j
  cases hj:(j==i)<;>simp only[cond_true,cond_false]
  ·trivial
  ·obtain ⟨b',h1,h2⟩:=h
   obtain rfl:j=i:=by simpa using hj
   rw[he] at h1;simp[Ah] at h1;subst h1;exact ⟨h2,rfl⟩
 ·cases hn:He x<;>simp only[cond_true,cond_false]
  ·trivial
  ·exact L8 hn h
theorem Rl{E':Env}{i:Nat}{b:Nat}(he:E i=ay (.pointer (ay ⟨b,0,aK⟩))):∀{l:List SV} {vs:List Value},Af H E l vs->Af H E' (l.map (aaQ i (.pointer (ay ⟨b,0,aK⟩)))) vs
 |[],[],_=>trivial |_::_,_::_,⟨h1,h2⟩=>⟨aiu he h1,Rl he h2⟩ |[],_::_,h=>h.elim |_::_,[],h=>h.elim
def Wh(i:Nat)(u:Value):List Fr->List Fr
 |[]=>[] |f::s=>{f with tm:=f.tm.map (aaQ i u)}::Wh i u s
theorem aaR{E':Env}{i:Nat}{b:Nat}(he:E i=ay (.pointer (ay ⟨b,0,aK⟩))):∀{s:List Fr} {ms:List Frame},FV C H E s ms->FV C H E' (Wh i (.pointer (ay ⟨b,0,aK⟩)) s) ms
 |[],[],_=>trivial |_::_,_::_,⟨⟨fn,a,items,h1,h2,h3⟩,h4⟩=>⟨⟨fn,a,items,h1,Rl he h2,h3⟩,aaR he h4⟩ |[],_::_,h=>h.elim |_::_,[],h=>h.elim
theorem YQ{i:Nat}{u:Value}:∀{s:List Fr} {g:Nat},QC g (Wh i u s)=QC g s
 |[],_=>rfl |f::s,_=>by simp only[Wh,QC];exact YQ
def Wi(E:Env)(w:World)(hp:List (Nat×SB)):Hp->Prop:=fun h=>(∀b o,h b=ay o->w.heap[b]?=ay o)/\∀b,(∃id sb,zX hp id=ay sb/\AL E id sb=ay b)↔h b≠aK
theorem aiv{K:Kx}{hp:List (Nat×SB)}(hh:Ai K H E w hp):∃h,Wi E w hp h:=by
 classical
 refine ⟨fun b=>if ∃id sb,zX hp id=ay sb/\AL E id sb=ay b then w.heap[b]? else aK,fun b o e=>?_,fun b=>⟨fun hq=>?_,fun hq=>?_⟩⟩
 ·dsimp only at e
  split at e
  ·exact e
  ·cases e
 ·have:=hq
  obtain ⟨id,sb,h1,h2⟩:=hq;have hlt:=((hh.ent _ _ h1).lt h2).1;simp only[if_pos this];rw[Array.getElem?_eq_getElem hlt];simp
 ·dsimp only at hq
  split at hq
  ·assumption
  ·simp at hq
theorem YR{K:Kx}{g i0:Nat}{td:List It}{c:Core}{stk:List Fr}{R:Hp->Prop}{R':Nat->Hp->Prop}{φ:Sh->Prop}(q:Nat->Bool)
  (hR:∀H E w h,H.on w->Ai K H E w (dropKey q c.hp)->Wi E w (dropKey q c.hp) h->∃b,E i0=ay (.pointer (ay ⟨b,0,aK⟩))/\R' b h)
  (hgo:∀b,Bc P C K g td {tm:=c.tm.map (aaQ i0 (.pointer (ay ⟨b,0,aK⟩))),hp:=[],nx:=0,lim:=c.lim,tc:=[]} (Wh i0 (.pointer (ay ⟨b,0,aK⟩)) stk) (R' b) φ):Bc P C K g td c stk R φ:=by
 intro H E w a items ms cs fn' hfn' st hi hs hx;have hd:=aey q st.hp;obtain ⟨h,hh⟩:=aiv hd;obtain ⟨b,he,hR'⟩:=hR H E w h st.BI.on hd hh;have:=hgo b H Ll w a items ms cs fn' hfn' ⟨Rl he st.den,OM,st.BI,fun _ _ _=>rfl,st.gl,st.defers⟩ hi (aaR he hs) ⟨h,hR',fun b' o e=>by
  obtain ⟨id,sb,h1,h2⟩:=(hh.2 b').2 (by rw[e];simp);have:=((hd.ent _ _ h1).lt h2).2;exact ⟨hh.1 b' o e,this.1,fun i hi=>by simp[Ll,bk] at hi,this.2⟩⟩
 rw[YQ] at this;exact this
theorem agc{x y:SV}:∀{l:List SV} {vs:List Value} {i:Nat},l[i]?=ay x->(∀v,Den H E x v->Den H E y v)->Af H E l vs->Af H E (l.set i y) vs
 |[],_,_,h,_,_=>by simp at h |_::_,[],_,_,_,h=>h.elim |_::_,_::_,0,h,hf,⟨h1,h2⟩=>by
  simp at h;subst h;exact ⟨hf _ h1,h2⟩
 |_::_,_::_,i+1,h,hf,⟨h1,h2⟩=>⟨h1,agc (by simpa using h) hf h2⟩
def Mem.with(H:Mem)(h:Hp):Mem:=fun b=>match h b with|some o=>ay o|none=>H b
theorem agd{K:Kx}{g:Nat}{td:List It}{c:Core}{stk:List Fr}{R:Hp->Prop}{φ:Sh->Prop}{u:Value}{X:Type}{y:X->SV}(hR:∀H E h w,R h->H.on w->h.at H w->∃x,Den (H.with h) E (y x) u)
  {i:Nat} (hi:c.tm[i]?=ay (.val u)) (hgo:∀x,Bc P C K g td {c with tm:=c.tm.set i (y x)} stk emp φ):Bc P C K g td c stk R φ:=by
 intro H E w a items ms cs fn' hfn' st hit hs ⟨h,hR',hb⟩;have hat:h.at H w:=fun b o e=>⟨(hb b o e).1,(hb b o e).2.1⟩;have hle:H.le (H.with h):=fun b o e=>by
  unfold Mem.with;cases hx:h b with
  |none=>exact e |some o'=>rw[(hat b o' hx).2] at e;cases e
 have hw:DX K (H.with h) w:=⟨st.BI.os,st.BI.tape,st.BI.output,st.BI.size,st.BI.kept,fun b o e=>by
  unfold Mem.with at e;cases hx:h b with
  |none=>rw[hx] at e;exact st.BI.on b o e |some o'=>rw[hx] at e;cases e;exact (hat b _ hx).1,fun b o e=>hle b o (st.BI.le b o e),fun b hb1=>by
  unfold Mem.with at hb1;cases hx:h b with
  |none=>rw[hx] at hb1;exact st.BI.fresh b hb1 |some o'=>exact .inr (hb b o' hx).2.2.2⟩
 have hhp:Ai K (H.with h) E w c.hp:=⟨fun id sb hl=>(st.hp.ent id sb hl).kept hle (fun _ _ e=>e) (fun _ _=>rfl) fun b ho=>by
  unfold Mem.with;cases hx:h b with
  |none=>exact ((st.hp.ent id sb hl).lt ho).2.1 |some o=>exact ((hb b o hx).2.2.1 id (Gh ho)).elim,st.hp.FQ⟩
 obtain ⟨x,hx⟩:=hR H E h w hR' st.BI.on hat;exact hgo x _ E w a items ms cs fn' hfn' ⟨agc hi (fun v hv=>by obtain ⟨rfl,_⟩:=hv;exact hx) (st.den.le hle fun _ _ e=>e),hhp,hw,st.free,st.gl.le hle,st.defers⟩ hit (hs.le hle fun _ _ e=>e) V5
inductive Fe3 where
 |ret (s:Sh)
 |raw (g:Nat) (td:List It) (c:Core) (stk:List Fr)
def anj:aaH->Tree Fe3
 | .fin v c=>match finish c v with
  |some s=>.leaf (.ret s) |none=>.fail
 | .stop g td c stk=>.leaf (.raw g td c stk)
def arQ(C:Ctx)(hold:Nat->Bool)(m n g:Nat)(td:List It)(c:Core)(stk:List Fr):Tree Fe3:=(YN C hold m n g td c stk).bind anj
def asB(P:Program)(C:Ctx)(K:Kx)(R:Hp->Prop)(φ:Sh->Prop):Fe3->Prop
 | .ret s=>φ s | .raw g td c stk=>Bc P C K g td c stk R φ
@[irreducible] def aeC (ψ:Fe3->Prop) (t:Tree Fe3):Prop:=t.All ψ
theorem aaS(ψ:Fe3->Prop)(t:Tree Fe3):aeC ψ t=t.All ψ:=by unfold aeC;rfl
theorem agh(hC:A8 P C)(hF:Bz P C){hold:Nat->Bool}{m n g:Nat}{td:List It}{c:Core}{stk:List Fr}{R:Hp->Prop}{φ:Sh->Prop}
  (h:aeC (asB P C (K0 H0 w0) R φ) (arQ C hold m n g td c stk)):Bc P C (K0 H0 w0) g td c stk R φ:=by
 rw[aaS] at h;refine JZ hC hF (hold:=hold) (m:=m) (n:=n) ((iD h).mono fun o ho=>?_);cases o with
 |fin v c=>
  simp only[anj] at ho;split at ho
  ·rename_i s hs
   exact ⟨s,hs,ho⟩
  ·exact ho.elim
 |stop g td c stk=>exact ho
end
def aj2:List (Nat×SB)->List Nat
 |[]=>[] |(_,.Gx _ _ _ _ more)::l=>Jo more++aj2 l |_::l=>aj2 l
def Ro(A:Prim)(hp:List (Nat×SB)):SB->SB
 | .Gx e st n g more=>match H8 hp more with
  |some l=>.own e st (A.addN n (more.length / st)) (A.snoc g n (AQ (chunks st (more.length / st) l))) |none=>.Gx e st n g more
 |sb=>sb
def Wj(A:Prim)(hp:List (Nat×SB)):List (Nat×SB)->List (Nat×SB)
 |[]=>[] |(i,sb)::l=>(i,Ro A hp sb)::Wj A hp l
def settle(A:Prim)(hp:List (Nat×SB)):Option (List (Nat×SB)):=(freeze hp (aj2 hp)).map fun hp=>Wj A hp hp
section
variable{P:Program}{C:Ctx}{K:Kx}{H H' H0:Mem}{E E':Env}{w w' w0:World}
theorem P6{A:Prim}{hp:List (Nat×SB)}{i:Nat}:∀{l:List (Nat×SB)},zX (Wj A hp l) i=(zX l i).map (Ro A hp)
 |[]=>rfl |(j,sb)::l=>by
  simp only[Wj,zX];cases h:j==i<;>simp only[cond_true,cond_false,Option.map_some]
  exact P6
theorem Rq{hp:List (Nat×SB)}(hh:Ai K H E w hp){i:Nat}{sb:SB}(h:Gg K H E w i sb):Gg K H E w i (Ro zV hp sb)/\AL E i (Ro zV hp sb)=AL E i sb:=by
 unfold Ro;split
 ·rename_i e st n g more
  split
  ·rename_i l hl
   obtain ⟨v,xs,ys,he,h1,h2,h3,h4,h5,h6⟩:=h;refine ⟨⟨v,xs++ys,he,h1,?_,h6⟩,by simp[AL]⟩;have hlen:=h3.length;have hm:=Nat.div_add_mod more.length st;rw[h4,jv,Nat.mul_comm] at hm;exact aaj h2 (Jr (show ys.length=more.length / st*st by rw[hm];exact hlen) (Eb hh hl h3) (ES h5 h3))
  ·exact ⟨h,rfl⟩
 ·exact ⟨h,rfl⟩
theorem aiw{hp hp':List (Nat×SB)}(h:settle zV hp=ay hp')(hh:Ai K H E w hp)(hw:DX K H w):∃H',H.le H'/\Ai K H' E w hp'/\DX K H' w:=by
 unfold settle at h;cases hf:freeze hp (aj2 hp) with
 |none=>rw[hf] at h;cases h |some hp1=>
  rw[hf] at h;cases h;obtain ⟨H',h1,h2,h3,_⟩:=MO hf hh hw;refine ⟨H',h1,⟨fun id sb hl=>?_,fun id id' sb sb' b l1 l2 o1 o2=>?_⟩,h3⟩
  ·rw[P6] at hl
   cases hx:zX hp1 id with
   |none=>rw[hx] at hl;cases hl |some s0=>
    rw[hx] at hl;cases hl;exact (Rq h2 (h2.ent _ _ hx)).1
  ·rw[P6] at l1 l2
   cases hx:zX hp1 id with
   |none=>rw[hx] at l1;cases l1 |some s0=>
    cases hy:zX hp1 id' with
    |none=>rw[hy] at l2;cases l2 |some s1=>
     rw[hx] at l1;rw[hy] at l2;cases l1;cases l2;rw[(Rq h2 (h2.ent _ _ hx)).2] at o1;rw[(Rq h2 (h2.ent _ _ hy)).2] at o2;exact h2.FQ _ _ _ _ _ hx hy o1 o2
theorem acF{g:Nat}{td:List It}{c:Core}{stk:List Fr}{φ:Sh->Prop}{hp':List (Nat×SB)}(h:settle zV c.hp=ay hp')(hgo:Bc P C K g td {c with hp:=hp'} stk emp φ):Bc P C K g td c stk emp φ:=by
 intro H E w a items ms cs fn hfn st hi hs hx;obtain ⟨H',h1,h2,h3⟩:=aiw h st.hp st.BI;exact hgo H' E w a items ms cs fn hfn ⟨st.den.le h1 fun _ _ e=>e,h2,h3,st.free,st.gl.le h1,st.defers⟩ hi (hs.le h1 fun _ _ e=>e) V5
def aix(A:Prim)(ts:List Ns):aaH->Tree D7
 | .fin v c=>match finish c v with
  |some s=>.leaf (.ret s) |none=>.fail
 | .stop g td c stk=>match settle A c.hp with
  |some hp=>V4 g td {c with hp:=hp} stk 0 ts
  |none=>.fail
def arR(C:Ctx)(hold:Nat->Bool)(m n g:Nat)(td:List It)(c:Core)(stk:List Fr)(ts:List Ns):Tree D7:=(YN C hold m n g td c stk).bind (aix C.A ts)
theorem agi(hC:A8 P C)(hF:Bz P C){hold:Nat->Bool}{m n g:Nat}{td:List It}{c:Core}{stk:List Fr}{ts:List Ns}{φ:Sh->Prop}
  (h:(arR C hold m n g td c stk ts).All (Jw P C (K0 H0 w0) ts emp φ)):Bc P C (K0 H0 w0) g td c stk emp φ:=by
 refine JZ hC hF (hold:=hold) (m:=m) (n:=n) ((iD h).mono fun o ho=>?_);cases o with
 |fin v c=>
  simp only[aix] at ho;split at ho
  ·rename_i s hs
   exact ⟨s,hs,ho⟩
  ·exact ho.elim
 |stop g td c stk=>
  simp only[aix,hC.A] at ho;split at ho
  ·rename_i hp hs
   exact acF hs (UF (k:=0) (fun j=>by simp) ho)
  ·exact ho.elim
end
def Wn(g:Nat)(td:List It)(c:Core)(stk:List Fr):Nat->List Ns->Tree D7
 |_,[]=>.fail |k,t::r=>bif g==t.g&&IZ td t.td&&Rk stk t.stk then match EK (qC (t.rn c stk) c t.c) (aaK c.hp (t.rn c stk) stk t.stk) with
   |some l=>.leaf (.at_ k l) |none=>Wn g td c stk (k+1) r
  else Wn g td c stk (k+1) r
def ank(ts:List Ns):aaH->Tree D7
 | .fin v c=>match finish c v with
  |some s=>.leaf (.ret s) |none=>.fail
 | .stop g td c stk=>Wn g td c stk 0 ts
section
variable{P:Program}{C:Ctx}{K:Kx}{H0:Mem}{w0:World}
theorem UG{R:Hp->Prop}{φ:Sh->Prop}{ts:List Ns}{g:Nat}{td:List It}{c:Core}{stk:List Fr}:∀{r:List Ns} {k:Nat},(∀j,r[j]?=ts[k+j]?)->(Wn g td c stk k r).All (Jw P C K ts R φ)->Bc P C K g td c stk R φ
 |[],_,_,h=>h.elim |t::r,k,hk,h=>by
  have hr:∀j,r[j]?=ts[k+1+j]?:=fun j=>by have:=hk (j+1);simp only[jJ] at this;rw[this];congr 1;omega
  unfold Wn at h;cases hb:(g==t.g&&IZ td t.td&&Rk stk t.stk)<;>simp only[hb,cond_true,cond_false] at h
  ·exact UG hr h
  ·simp only[aH,beq_iff_eq] at hb
   obtain ⟨⟨h1,h2⟩,h3⟩:=hb;split at h
   ·rename_i l hl
    obtain ⟨a,b,q1,q2,rfl⟩:=Bq hl;obtain ⟨hl,t',ht,hg⟩:=h;have:=hk 0;simp only[jK,jv] at this;rw[<-this] at ht;cases ht;have h2:=L6 h2;subst h1 h2;exact YO (t.rn c stk) (air q1 (eG hl).1) (aaM q2 (eG hl).2) hg
   ·exact UG hr h
end
def adh(C:Ctx)(pause:Nat->List It->Bool)(hold:Nat->Bool)(m:Nat):Nat->Nat->List It->Core->List Fr->Tree aaH
 |0,g,td,c,stk=>.leaf (.stop g td c stk) |n+1,g,td,c,stk=>match C.fns.get g with
  |none=>.fail |some fn=>bif pause g td||holdB hold fn td c then .leaf (.stop g td c stk) else match PY C fn td c with
   |some r=>adh C pause hold m n r.1 [.code []] {c with tm:=r.2.2++dR (r.2.1.ntmps - r.2.2.length) .any} ({g,td,tm:=c.tm}::stk)
   |none=>(QW C (LV C (run C m ak)) aC g fn td c).bind fun s=>match s with
    | .go td c=>adh C pause hold m n g td c stk | .halt td c=>.leaf (.stop g td c stk) | .done v c=>match stk with
     |[]=>.leaf (.fin v c) |f::stk=>match Rj C f v c with
      |some r=>adh C pause hold m n f.g r.1 r.2 stk |none=>.fail
section
variable{P:Program}{C:Ctx}{K:Kx}{H H' Oa H0:Mem}{E E' Oc E1:Env}{w w' w'' w0:World}
theorem NH(hC:A8 P C)(hF:Bz P C){pause:Nat->List It->Bool}{hold:Nat->Bool}{m:Nat}{R:Hp->Prop}{φ:Sh->Prop}:∀{n g:Nat} {td:List It} {c:Core} {stk:List Fr},(adh C pause hold m n g td c stk).All (ajW P C (K0 H0 w0) R φ)->Bc P C (K0 H0 w0) g td c stk R φ
 |0,g,td,c,stk,h=>h |n+1,g,td,c,stk,h=>by
  intro H E w a items ms cs fn hfn st hi hs hx;simp only[adh,hfn] at h;cases ais:(pause g td||holdB hold fn td c)<;>simp only[ais,cond_true,cond_false] at h
  rotate_left
  ·exact h H E w a items ms cs fn hfn st hi hs hx
  split at h
  ·
   rename_i r hr;unfold PY at hr;split at hr
   ·rename_i p i rest k
    split at hr
    ·rename_i rid ops dr hcode
     split at hr
     ·rename_i o ho
      split at hr
      ·rename_i hwant
       split at hr
       ·rename_i kk hop
        split at hr
        ·rename_i f V3
         split at hr
         ·rename_i g2 caps hev
          split at hr
          ·cases hr
          ·rename_i hspec
           split at hr
           ·rename_i EW hfn2
            cases hb:(gV (kk.args.toList.map (Bd c.tm)++caps).length EW.ntmps&&EW.body.isSome)<;>simp only[hb,cond_true,cond_false] at hr
            ·cases hr
            cases hr;simp only[aH] at hb;obtain ⟨body2,Jv⟩:=gy.1 hb.2;have ih:=NH hC hF h;have hP2:=hC.fn g2 EW hfn2;cases hi with
            |reg p l id ops2 hc hk=>
             rw[hc] at hcode;cases hcode;rename_i k';have df:=AV (H:=H) (E:=E) st.den f;rw[hev] at df;obtain ⟨vs,ef,hvs⟩:=df;have hargs:=(MQ st.den kk.args.toList).append hvs;have ho':ops[i]?=ay o:=by simpa[opAt] using ho
             have hw':=GR (ops:=ops) st.den o;rw[hwant] at hw';have hent:=hF.en g2 (.inr (by rw[hfn2];rfl));have hrun:(execOp a.eval o).run P w=.ok (.enter g2 (kk.args.map a.eval++vs)) w:=by
              simp only[execOp,hop,resolve,V3];simp[jF,ef,invoke,Ht hent]
             have hg:=stepG_op (P:=P) (b:=base g) (k:=k') (cs:=ms++cs) (w:=w) (rest:=rest) ho' hw';have henter:step P (lone ((base g).at a (.inRegion ops (i::rest)::k')) (ms++cs) w)=.next (lone (gI P g2 (kk.args.map a.eval++vs) .normal) ((base g).at a (.inRegion ops (i::rest)::k')::(ms++cs)) w):=
              step_lone_go (by rw[hg];simp[gU,hrun,Frame.at])
             rw[KG hP2 Jv] at henter;have hl:=hargs.length;have hlen:(kk.args.map a.eval++vs).size=(kk.args.toList.map (Bd c.tm)++caps).length:=by
              rw[<-hl];simp
             have st2:St C (K0 H0 w0) H E w {c with tm:=(kk.args.toList.map (Bd c.tm)++caps)++dR (EW.ntmps - (kk.args.toList.map (Bd c.tm)++caps).length) .any} {tmps:=(kk.args.map a.eval++vs)++dX (EW.ntmps - (kk.args.map a.eval++vs).size) undef,defers:=[]}:=by
              refine ⟨?_,st.hp,st.BI,st.free,st.gl,rfl⟩;have:((kk.args.map a.eval++vs)++dX (EW.ntmps - (kk.args.map a.eval++vs).size) undef).toList=(kk.args.toList.map a.eval++vs.toList)++dR (EW.ntmps - (kk.args.toList.map (Bd c.tm)++caps).length) undef:=by
               rw[hlen];simp
              simp only[this];exact hargs.append (rF _ _ (by simp))
             have hit2:BU (Ae EW) [.code []] [.code body2]:=by
              have:=iw (body:=Ae EW) [] qy;have he:AA (Ae EW) []=body2:=by simp[AA,Ae,Jv]
              rwa[he] at this
             have hs2:FV C H E ({g,td:=.reg p (i::rest)::k,tm:=c.tm}::stk) ((base g).at a (.inRegion ops (i::rest)::k')::ms):=
              ⟨⟨fn,a,_,hfn,st.den,st.defers,.reg p (i::rest) _ ops hc hk,rfl⟩,hs⟩
             obtain ⟨a',w',v,s,H',todo,fn0,q1,q2,q3⟩:=ih H E w _ _ (_::ms) cs EW hfn2 st2 hit2 hs2 hx;exact ⟨a',w',v,s,H',todo,fn0,q1,.head henter q2,q3⟩
           ·cases hr
         ·cases hr
        ·cases hr
       ·cases hr
      ·cases hr
     ·cases hr
    ·cases hr
   ·cases hr
  ·have hK:=S9 (K:=QJ H E w c.hp) hC hF (Tc hC hF m)
   obtain ⟨sig,h1,h2⟩:=XB hC hF hK (iD h) st.re hi (base g) (ms++cs);cases sig with
   |go FU c'=>
    obtain ⟨a',w',H',E',items',q1,q2,q3,q4⟩:=h2;obtain ⟨a2,w2,v,s,H2,todo,fn0,r1,r2,r3⟩:=NH hC hF h1 H' E' w' a' items' ms cs fn hfn (st.un q2) q4 (hs.le q3.Iw q3.LH) (hx.keep st q2 q3);exact ⟨a2,w2,v,s,H2,todo,fn0,r1,q1.trans r2,r3⟩
   |halt FU c'=>
    obtain ⟨a',w',H',E',items',q1,q2,q3,q4⟩:=h2;obtain ⟨a2,w2,v,s,H2,todo,fn0,r1,r2,r3⟩:=h1 H' E' w' a' items' ms cs fn hfn (st.un q2) q4 (hs.le q3.Iw q3.LH) (hx.keep st q2 q3);exact ⟨a2,w2,v,s,H2,todo,fn0,r1,q1.trans r2,r3⟩
   |done sv c'=>
    obtain ⟨a',w',H',E',v,todo,q1,q2,q3,q4,q5⟩:=h2;cases stk with
    |nil=>
     cases ms with
     |cons _ _=>exact hs.elim |nil=>
      obtain ⟨s,e1,e2⟩:=h1;obtain ⟨H2,r⟩:=PW (st.un q2) e1 q4;exact ⟨a',w',v,s,H2,todo,fn,hfn,q1,q2.defers,e2,r,q5⟩
    |cons f stk=>
     cases ms with
     |nil=>exact hs.elim |cons mf ms=>
      simp only at h1;split at h1
      ·rename_i r hr
       unfold Rj at hr;split at hr
       ·rename_i Oh af6
        split at hr
        ·rename_i p i rest k htd
         split at hr
         ·rename_i rid ops dr hcode
          cases hr;obtain ⟨⟨fn3,a3,ajX,g1,g2,g3,g4,g5⟩,hs'⟩:=hs.le q3.Iw q3.LH;rw[af6] at g1;cases g1;rw[htd] at g4;cases g4 with
          |reg p l id ops2 hc hk=>
           rw[hc] at hcode;cases hcode;rename_i k';subst g5;have hleave:step P (lone {(base g).at a' todo with mode:=.returning} ((base f.g).at a3 (.inRegion ops (i::rest)::k')::(ms++cs)) w')=.next (lone ((base f.g).at (a3.put ((opAt ops.toList i).bind (·.dst)) v) (.inRegion ops rest::k')) (ms++cs) w'):=by
            rw[step_leave_returned (v:=v) ⟨rfl,q2.defers,rfl,fn,hC.fn g fn hfn,q5⟩,lV];simp[opAt]
           have st3:St C (K0 H0 w0) H' E' w' {c' with tm:=QA f.tm ((opAt ops.toList i).bind (·.dst)) sv} (a3.put ((opAt ops.toList i).bind (·.dst)) v):=
            ⟨Ju (c:={c' with tm:=f.tm}) g2 _ q4,(st.un q2).hp,(st.un q2).BI,q2.free,q2.gl,by rw[put_defers];exact g3⟩
           obtain ⟨a2,w2,v2,s,H2,aaJ,fn0,r1,r2,r3⟩:=NH hC hF h1 H' E' w' _ _ ms cs Oh af6 st3 (.reg p rest _ ops hc hk) hs' (hx.keep st q2 q3);exact ⟨a2,w2,v2,s,H2,aaJ,fn0,r1,(q1.trans (.one hleave)).trans r2,r3⟩
         ·cases hr
        ·cases hr
       ·cases hr
      ·exact h1.elim
def arS(C:Ctx)(pause:Nat->List It->Bool)(m n g:Nat)(td:List It)(c:Core)(stk:List Fr)(ts:List Ns):Tree D7:=(adh C pause (fun _=>ak) m n g td c stk).bind (ank ts)
theorem agj(hC:A8 P C)(hF:Bz P C){pause:Nat->List It->Bool}{m n g:Nat}{td:List It}{c:Core}{stk:List Fr}{ts:List Ns}{φ:Sh->Prop}{R:Hp->Prop}
  (h:(arS C pause m n g td c stk ts).All (Jw P C (K0 H0 w0) ts R φ)):Bc P C (K0 H0 w0) g td c stk R φ:=by
 refine NH hC hF (pause:=pause) (hold:=fun _=>ak) (m:=m) (n:=n) ((iD h).mono fun o ho=>?_);cases o with
 |fin v c=>
  simp only[ank] at ho;split at ho
  ·rename_i s hs
   exact ⟨s,hs,ho⟩
  ·exact ho.elim
 |stop g td c stk=>exact UG (k:=0) (fun j=>by simp) ho
end
def BR(b:Frame)(a:Act)(todo:List Item):Frame:=
 {fn:=b.fn,tmps:=a.tmps,todo,defers:=a.defers++b.defers,mode:=.run,kind:=b.kind,roundOf:=b.roundOf}
def Rt(b:Frame)(a:Act):Act:={a with defers:=a.defers++b.defers}
theorem Dh(b:Frame)(a:Act)(todo:List Item):BR b a todo=b.atR (Rt b a) todo:=rfl
theorem P7(b:Frame)(a:Act):(Rt b a).eval=a.eval:=funext fun x=>by cases x<;>rfl
theorem adi(b:Frame)(a:Act)(d:Option Nat)(v:Value):(Rt b a).put d v=Rt b (a.put d v):=by cases d<;>rfl
def bq(g:Nat)(r:Option Nat)(ds:List Deferred):Frame:={(default:Frame) with fn:=g,kind:=.normal,roundOf:=r,defers:=ds}
theorem XF(g:Nat)(a:Act)(todo:List Item):BR (bq g aK []) a todo=(base g).at a todo:=by simp[BR,Frame.at,bq,base]
theorem Ru(b:Frame)(a:Act)(ops:Array Oper)(i:Nat)(rest:List Nat)(k:List Item)(v:Value):
  (BR b a (.inRegion ops (i::rest)::k)).finish v=BR b (a.put ((ops[i]?).bind (·.dst)) v) (.inRegion ops rest::k):=by
 rw[Dh,Frame.finish_atR,adi,<-Dh]
section moves
variable{P:Program}{b:Frame}{a:Act}{k:List Item}{cs:List Frame}{w:World}{ops:Array Oper}
theorem anl:step P (lone (BR b a (.code .skip::k)) cs w)=.next (lone (BR b a k) cs w):=by rw[Dh,Dh];exact stepR_skip
theorem agk{id:Nat}:step P (lone (BR b a (.inBlock id::k)) cs w)=.next (lone (BR b a k) cs w):=by rw[Dh,Dh];exact stepR_inBlock
theorem aqL{x y:Code}:step P (lone (BR b a (.code (.seq x y)::k)) cs w)=.next (lone (BR b a (.code x::.code y::k)) cs w):=by rw[Dh,Dh];exact stepR_seq
theorem anm{c:Operand}{x y:Code}{t:Bool}(h:a.eval c=.bool t):step P (lone (BR b a (.code (.cond c x y)::k)) cs w)=.next (lone (BR b a (.code (if t then x else y)::k)) cs w):=by
 rw[Dh,Dh];exact stepR_cond (by rw[P7];exact h)
theorem ali{id:Nat}{c:Code}:step P (lone (BR b a (.code (.block id c)::k)) cs w)=.next (lone (BR b a (.code c::.inBlock id::k)) cs w):=by rw[Dh,Dh];exact stepR_block
theorem agl{c:Code}:step P (lone (BR b a (.code (.loop c)::k)) cs w)=.next (lone (BR b a (.code c::.inLoop c::k)) cs w):=by rw[Dh,Dh];exact stepR_loop
theorem aaT{c:Code}:step P (lone (BR b a (.inLoop c::k)) cs w)=.next (lone (BR b a (.code c::.inLoop c::k)) cs w):=by rw[Dh,Dh];exact stepR_inLoop
theorem ano{id:Nat}{k':List Item}(h:exitTo id k=ay k'):step P (lone (BR b a (.code (.exit id)::k)) cs w)=.next (lone (BR b a k') cs w):=by rw[Dh,Dh];exact stepR_exit h
theorem aqM(hb:b.roundOf=aK):step P (lone (BR b a (.code .ret::k)) cs w)=.next (lone {BR b a (.code .ret::k) with mode:=.returning} cs w):=by rw[Dh];exact stepR_ret hb
theorem aqN(hb:b.roundOf=aK):step P (lone (BR b a []) cs w)=.next (lone {BR b a [] with mode:=.returning} cs w):=by rw[Dh];exact stepR_end hb
theorem aiy{id:Nat}:step P (lone (BR b a (.code (.region id ops ak)::k)) cs w)=.next (lone (BR b a (.inRegion ops (aX ops.size)::k)) cs w):=by rw[Dh,Dh];exact stepR_region
theorem Rw:step P (lone (BR b a (.inRegion ops []::k)) cs w)=.next (lone (BR b a k) cs w):=by rw[Dh,Dh];exact stepR_region_end
theorem Zm{id:Nat}:step P (lone (BR b a (.code (.region id ops aC)::k)) cs w) =
   .next (lone (BR b a (.inRegion ops (oh (P.follows .mixedOrders) ops (w.tape w.drawn (.order b.fn id)))::k)) cs {w with drawn:=w.drawn+1}):=by rw[Dh,Dh];exact stepR_region_draw
end moves
def aiz:Op->Bool
 | .defer _=>ak |_=>aC
def DZ:Code->Bool
 | .seq a b=>DZ a&&DZ b | .cond _ a b=>DZ a&&DZ b | .block _ b=>DZ b | .loop b=>DZ b | .rangeFunc _ _ a b=>DZ a&&DZ b | .region _ ops _=>ops.toList.all fun o=>aiz o.op |_=>aC
theorem aaU{c:Code}(h:DZ c=aC)(i:Nat):DZ (child c i)=aC:=by
 unfold child;split<;>simp_all [DZ]
theorem Rx{c:Code}(h:DZ c=aC):∀p:List Nat,DZ (AA c p)=aC
 |[]=>h |i::p=>aaU (Rx h p) i
theorem Wp{id:Nat}{ops:Array Oper}{dr:Bool}(h:DZ (.region id ops dr)=aC){i:Nat}{o:Oper}(ho:ops[i]?=ay o):∀c,o.op≠.defer c:=by
 intro c hc;simp only[DZ] at h;have hm:o∈ops.toList:=by
  rw[<-Array.getElem?_toList] at ho;exact List.mem_of_getElem? ho
 have:=dK.1 h o hm;rw[hc] at this;cases this
section
variable{P:Program}{C:Ctx}{K:Kx}{H H' Oa:Mem}{E E' Oc:Env}{w w' w'':World}
theorem agm{ops:Array Oper}{i:Nat}{rest:List Nat}{Q:Exit->Act->World->Prop}{next:Act->World->Prop}{a:Act}(hnd:∀o,ops[i]?=ay o->∀c,o.op≠.defer c)(hQ:∀e a w,Q e a w->e=.normal)
  (h:wpOp P ops Q i next a w) (b:Frame) (k:List Item) (cs:List Frame) :
  ∃a' w',next a' w'/\Steps P (lone (BR b a (.inRegion ops (i::rest)::k)) cs w) (lone (BR b a' (.inRegion ops rest::k)) cs w'):=by
 unfold wpOp at h;cases ho:ops[i]? with
 |none=>
  simp only[ho] at h;have hs:=stepR_op_skip (P:=P) (b:=b) (a:=Rt b a) (k:=k) (cs:=cs) (w:=w) (ops:=ops) (i:=i) (rest:=rest) (by simp[ho]);simp only[ho,Option.bind_none,Act.put] at hs;exact ⟨a,w,h,.one hs⟩
 |some o=>
  simp only[ho] at h;by_cases hw:Region.wanted o (yielded ops a.tmps)=aC
  ·simp only[hw,if_true] at h
   rcases h with h|⟨_,_,_,hq⟩
   case inr=>cases hQ _ _ _ hq
   simp only[Oper.wp] at h;have hg:=stepGR_op (P:=P) (b:=b) (a:=Rt b a) (k:=k) (cs:=cs) (w:=w) (rest:=rest) ho hw;rw[Oper.semAt_eq _ _ _ (hnd o ho),P7,<-Dh] at hg;have hfin:∀v,(BR b a (.inRegion ops (i::rest)::k)).finish v=BR b (a.put o.dst v) (.inRegion ops rest::k):=by
    intro v;rw[Ru,ho];rfl
   generalize hr:(execOp a.eval o).run P w=r at h;cases r with
   |ok n w'=>
    cases n<;>simp only[wQ] at h
    case value v=>
     refine ⟨_,_,h,.one (step_lone_go ?_)⟩;rw[hg,<-hfin];simp[gU,hr]
    case skip=>
     refine ⟨_,_,h,.one (step_lone_go ?_)⟩;rw[hg,<-hfin];simp[gU,hr]
    case defer d=>
     refine ⟨_,_,h,.one (step_lone_go ?_)⟩;have:({BR b a (.inRegion ops (i::rest)::k) with defers:=d::(a.defers++b.defers)}:Frame).finish undef =
       BR b ({a with defers:=d::a.defers}.put o.dst undef) (.inRegion ops rest::k):=by
      have:=Ru b {a with defers:=d::a.defers} ops i rest k undef
      rw[ho] at this;exact this
     rw[hg];simp only[gU,Sem.runT_eq,hr,GStep.bare_after];exact congrArg (fun fr=>GStep.go {frame:=fr,callers:=cs,status:=.running,dying:=aK} w') this
    case enter f args=>
     obtain ⟨e,w'',fr,hR,hsteps,_,hleave⟩:=h (BR b a (.inRegion ops (i::rest)::k)::cs);have henter:step P (lone (BR b a (.inRegion ops (i::rest)::k)) cs w) =
       .next (lone (gI P f args .normal) (BR b a (.inRegion ops (i::rest)::k)::cs) w'):=
      step_lone_go (by rw[hg];simp[gU,hr,BR])
     cases e with
     |returned v=>
      refine ⟨_,_,hR,.head henter (hsteps.trans (.one ?_))⟩;rw[<-hfin];exact step_leave_returned hleave
     |panicked chain=>cases hQ _ _ _ hR |outgrown=>obtain ⟨_,_,hq⟩:=hR;cases hQ _ _ _ hq
    case row row args=>
     obtain ⟨v,w'',hR,hsteps⟩:=h (BR b a (.inRegion ops (i::rest)::k)) cs;have henter:step P (lone (BR b a (.inRegion ops (i::rest)::k)) cs w) =
       .next (lone (Frame.ofRow P row args .normal) (BR b a (.inRegion ops (i::rest)::k)::cs) w'):=
      step_lone_go (by rw[hg];simp[gU,hr,BR])
     refine ⟨_,_,hR,.head henter ?_⟩;rw[<-hfin];exact hsteps
    all_goals first|exact h.elim|cases hQ _ _ _ h
   |halt x w'=>
    cases x<;>simp only[wQ] at h
    all_goals first|exact h.elim|cases hQ _ _ _ h
  ·simp only[hw,if_false,nC] at h
   have hs:=stepR_op_skip (P:=P) (b:=b) (a:=Rt b a) (k:=k) (cs:=cs) (w:=w) (ops:=ops) (i:=i) (rest:=rest)
    (by simp[ho];simpa[Rt] using hw)
   simp only[ho,Option.bind_some] at hs;rw[adi] at hs;exact ⟨_,_,h,.one hs⟩
theorem agn{ops:Array Oper}{Q:Exit->Act->World->Prop}(hnd:∀(i:Nat) (o:Oper),ops[i]?=ay o->∀c,o.op≠.defer c)(hQ:∀e a w,Q e a w->e=.normal)(b:Frame)(k:List Item)(cs:List Frame):∀(l:List Nat) (a:Act) (w:World),wpOps P ops Q l a w->
  ∃a' w',Q .normal a' w'/\Steps P (lone (BR b a (.inRegion ops l::k)) cs w) (lone (BR b a' k) cs w')
 |[],a,w,h=>⟨a,w,h,.one Rw⟩ |i::l,a,w,h=>by
  rw[wpOps_cons] at h;obtain ⟨a1,w1,h1,h2⟩:=agm (hnd i) hQ h b k cs;obtain ⟨a2,w2,h3,h4⟩:=agn hnd hQ b k cs l a1 w1 h1;exact ⟨a2,w2,h3,h2.trans h4⟩
theorem aqO{call:Nat->List SV->Core->Tree (SV×Core)}(hC:A8 P C)(hF:Bz P C)(hK:G8 P C K call){c:Core}{a:Act}{φ:Core->Prop}{ops:Array Oper}{id:Nat}(hnd:∀(i:Nat) (o:Oper),ops[i]?=ay o->∀c,o.op≠.defer c)
  (st:St C K H E w c a) {g:Nat} (h:(drawn C call g ops c).All φ) (b:Frame) (k:List Item) (cs:List Frame) :
  ∃c' a' H' E' w',φ c'/\St C K H' E' w' c' a'/\Mv K H E w c H' E' w' c'/\Steps P (lone (BR b a (.code (.region id ops aC)::k)) cs w) (lone (BR b a' k) cs w'):=by
 have h1:=aax hC hF hK st h;have hm:=hC.mixed;have hs:∀t,wpOps P ops _ (oh (P.follows .mixedOrders) ops t) a {w with drawn:=w.drawn+1}:=fun t=>by
  simp only[oh,hm,Bool.true_or,if_true];exact wpAny_sound ops.size t _ a _ h1
 obtain ⟨a',w',⟨_,c',H',E',e1,e2,e3⟩,e4⟩:=agn hnd (fun _ _ _ h=>h.1) b k cs _ a _ (hs (w.tape w.drawn (.order b.fn id)));exact ⟨c',a',H',E',w',e1,e2,e3,.head Zm e4⟩
theorem aeD{fn:Func}{c:Core}{φ:Out->Prop}(h:(result C fn c).All φ):∃sv,result C fn c=.leaf (.done sv c)/\φ (.done sv c):=by
 unfold result at h ⊢;split
 ·rename_i sv hs;rw[hs] at h;exact ⟨sv,rfl,h⟩
 ·rename_i l hne hs
  split at h
  ·rename_i sv hs2;rw[hs] at hs2;cases hs2;exact (hne sv rfl).elim
  ·rename_i l2 hne2 hs2;rw[hs] at hs2;cases hs2;exact ⟨_,rfl,h⟩
  ·exact h.elim
 ·rename_i hs;rw[hs] at h;exact h.elim
def anp(P:Program)(C:Ctx)(fn:Func)(H:Mem)(E:Env)(sv:SV)(c:Core)(a:Act):Prop:=
 ∀(K:Kx) (w:World),St C K H E w c a->∃v,Den H E sv v/\(results fn a.tmps).run P w=.ok v w
theorem alj(hC:A8 P C){fn:Func}{c:Core}{a:Act}{sv:SV}(h:result C fn c=.leaf (.done sv c)):anp P C fn H E sv c a:=fun K w st=>by
 obtain ⟨sv',v,h1,h2,h3⟩:=aay (φ:=fun o=>o=.done sv c) hC st (by rw[h];exact rfl);cases h1;exact ⟨v,h2,h3⟩
def anq(P:Program)(C:Ctx)(K:Kx)(fn:Func)(H:Mem)(E:Env)(w:World)(c:Core)(m:Machine)(b:Frame)(cs:List Frame):Sig->Prop
 | .done sv c'=>∃(a':Act) (w':World) (H':Mem) (E':Env) (todo:List Item),Steps P m (lone {BR b a' todo with mode:=.returning} cs w')/\St C K H' E' w' c' a'/\Mv K H E w c H' E' w' c'/\anp P C fn H' E' sv c' a'
 | .go FU c'=>∃(a':Act) (w':World) (H':Mem) (E':Env) (items':List Item),Steps P m (lone (BR b a' items') cs w')/\St C K H' E' w' c' a'/\Mv K H E w c H' E' w' c'/\BU (Ae fn) FU items' | .halt FU c'=>∃(a':Act) (w':World) (H':Mem) (E':Env) (items':List Item),Steps P m (lone (BR b a' items') cs w')/\St C K H' E' w' c' a'/\Mv K H E w c H' E' w' c'/\BU (Ae fn) FU items'
def endsB(fn:Func):List It->Bool
 |[]=>aC | .code p::_=>match AA (Ae fn) p with
  | .ret=>aC |_=>ak
 |_=>ak
theorem alk(hC:A8 P C)(hF:Bz P C){call:Nat->List SV->Core->Tree (SV×Core)}(hK:G8 P C K call){top:Bool}{g:Nat}{fn:Func}{td:List It}{c:Core}{a:Act}{items:List Item}{φ:Sig->Prop}(hnd:DZ (Ae fn)=aC)
  (h:(QW C call top g fn td c).All φ) (st:St C K H E w c a) (hi:BU (Ae fn) td items) (b:Frame) (cs:List Frame) (hr:b.roundOf=aK\/endsB fn td=ak) :
  ∃sig,φ sig/\anq P C K fn H E w c (lone (BR b a items) cs w) b cs sig:=by
 have KU:Mv K H E w c H E w c:=IG st rfl rfl rfl rfl;have go:∀{FU:List It} {c':Core} {H':Mem} {E':Env} {w':World} {a':Act} {items':List Item},φ (.go FU c')->St C K H' E' w' c' a'->Mv K H E w c H' E' w' c'->BU (Ae fn) FU items'->
   Steps P (lone (BR b a items) cs w) (lone (BR b a' items') cs w')->∃sig,φ sig/\anq P C K fn H E w c (lone (BR b a items) cs w) b cs sig:=fun h1 h2 h3 h4 h5=>⟨_,h1,_,_,_,_,_,h5,h2,h3,h4⟩
 have fin:∀(todo:List Item),((result C fn c).bind aec).All φ->step P (lone (BR b a items) cs w)=.next (lone {BR b a todo with mode:=.returning} cs w)->∃sig,φ sig/\anq P C K fn H E w c (lone (BR b a items) cs w) b cs sig:=fun todo hr hs=>by
  obtain ⟨sv,h1,h2⟩:=aeD (iD hr);exact ⟨_,h2,a,w,H,E,todo,.one hs,st,KU,alj hC h1⟩
 unfold QW at h;split at h
 ·cases hi
  have hb:b.roundOf=aK:=by
   rcases hr with hr|hr
   ·exact hr
   ·cases hr
  exact fin _ h (aqN hb)
 ·cases hi with
  |inBlock id hk=>exact go h st KU hk (.one agk)
 ·exact h.elim
 ·cases hi with
  |reg p l id ops hc hk=>exact go h (st.MK g) (IG st rfl rfl rfl rfl) hk (.one Rw)
 ·rename_i p i r k
  cases hi with
  |reg p l id ops hc hk=>
   have hd:DZ (.region id ops ak)=aC:=by rw[<-hc];exact Rx hnd p
   rw[hc] at h;simp only at h;obtain ⟨a',w',h1,h2⟩:=agm (fun o ho=>Wp hd ho) (fun _ _ _ h=>h.elim) (Ux hC hF hK st (iD h) (fun a' w'=>∃c' H' E',φ (.go (.reg p r::k) c')/\St C K H' E' w' c' a'/\Mv K H E w c H' E' w' c') (fun _ _ _=>False)
    fun c' a' H' E' w' e1 e2 e3 _=>⟨c',H',E',e1,e2,e3⟩) b _ cs
   obtain ⟨c',H',E',e1,e2,e3⟩:=h1;exact go e1 e2 e3 (.reg p r id ops hc hk) h2
 ·rename_i p k
  have hloop:∀{x:Code},AA (Ae fn) p=x->(∀y,x≠.loop y)->∃k',items=.code x::k'/\BU (Ae fn) k k':=fun {x} hx hne=>by
   cases hi with
   |code p hk=>exact ⟨_,by rw[hx],hk⟩ |loop p y hl hk=>exact (hne y (hx.symm.trans hl)).elim
  split at h
  ·rename_i hx
   obtain ⟨k',rfl,hk⟩:=hloop hx (by simp);exact go h st KU hk (.one anl)
  ·rename_i hx
   obtain ⟨k',rfl,hk⟩:=hloop hx (by simp);have hb:b.roundOf=aK:=by
    rcases hr with hr|hr
    ·exact hr
    ·simp[endsB,hx] at hr
   exact fin _ h (aqM hb)
  ·rename_i x y hx
   obtain ⟨k',rfl,hk⟩:=hloop hx (by simp);have h0:AA (Ae fn) (0::p)=x:=by simp[AA,hx,child]
   have h1:AA (Ae fn) (1::p)=y:=by simp[AA,hx,child]
   have:=iw (0::p) (iw (1::p) hk);rw[h0,h1] at this;exact go h st KU this (.one aqL)
  ·rename_i id x hx
   obtain ⟨k',rfl,hk⟩:=hloop hx (by simp);have h0:AA (Ae fn) (0::p)=x:=by simp[AA,hx,child]
   have:=iw (0::p) (BU.inBlock id hk);rw[h0] at this;exact go h st KU this (.one ali)
  ·rename_i x hx
   have h0:AA (Ae fn) (0::p)=x:=by simp[AA,hx,child]
   cases hst:C.LU g p<;>simp only[hst,cond_true,cond_false] at h
   ·cases hi with
    |code p hk=>
     have:=iw (0::p) (oU p x hx hk);rw[h0] at this;rw[hx] at go ⊢;exact go h st KU this (.one agl)
    |loop p y hl hk=>
     rw[hx] at hl;cases hl;have:=iw (0::p) (oU p x hx hk);rw[h0] at this;exact go h st KU this (.one aaT)
   ·exact ⟨_,h,a,w,H,E,items,.refl _ _,st,KU,hi⟩
  ·rename_i id hx
   obtain ⟨k',rfl,hk⟩:=hloop hx (by simp);split at h
   ·rename_i k2 he
    obtain ⟨k3,h1,h2⟩:=afW hk he;exact go h st KU h2 (.one (ano h1))
   ·exact h.elim
  ·rename_i x y z hx
   obtain ⟨k',rfl,hk⟩:=hloop hx (by simp);have h0:=iw (0::p) hk;have h1:=iw (1::p) hk;have e0:AA (Ae fn) (0::p)=y:=by simp[AA,hx,child]
   have e1:AA (Ae fn) (1::p)=z:=by simp[AA,hx,child]
   rw[e0] at h0;rw[e1] at h1;have dx:=AV (H:=H) (E:=E) st.den x;have cnd:∀t:Bool,a.eval x=.bool t->step P (lone (BR b a (.code (.cond x y z)::k')) cs w)=.next (lone (BR b a (.code (if t then y else z)::k')) cs w):=fun t ht=>anm ht
   split at h
   ·rename_i hv
    rw[hv] at dx;exact go h st KU h0 (.one (cnd aC dx))
   ·rename_i hv
    rw[hv] at dx;exact go h st KU h1 (.one (cnd ak dx))
   ·rename_i t hv
    rw[hv] at dx;have st':∀v,t=v->St C K H E w (c.put (Vs x) (.bool v)) a:=fun v hv2=>by
     subst hv2;cases x with
     |tmp d=>exact st.know hv |const u=>exact ⟨st.den,st.hp,st.BI,st.free,st.gl,st.defers⟩ |global u=>exact ⟨st.den,st.hp,st.BI,st.free,st.gl,st.defers⟩ |func u=>exact ⟨st.den,st.hp,st.BI,st.free,st.gl,st.defers⟩
    have mv':∀v:Bool,Mv K H E w c H E w (c.put (Vs x) (.bool v)):=fun v=>IG st rfl rfl rfl rfl
    cases t with
    |true=>exact go (h.1 rfl) (st' aC rfl) (mv' aC) h0 (.one (cnd aC dx)) |false=>exact go (h.2 rfl) (st' ak rfl) (mv' ak) h1 (.one (cnd ak dx))
   ·exact h.elim
  ·rename_i id ops dr hx
   obtain ⟨k',rfl,hk⟩:=hloop hx (by simp);have hd:DZ (.region id ops dr)=aC:=by rw[<-hx];exact Rx hnd p
   cases dr with
   |false=>
    simp only[cond_false] at h;exact go h st KU (.reg p (aX ops.size) id ops hx hk) (.one aiy)
   |true=>
    simp only[cond_true] at h;have key:∀(f:Core->Tree Sig),((drawn C call g ops c).bind f).All φ->∃c' a' H' E' w',(f c').All φ/\St C K H' E' w' c' a'/\Mv K H E w c H' E' w' c'/\Steps P (lone (BR b a (.code (.region id ops aC)::k')) cs w) (lone (BR b a' k') cs w'):=fun f hf=>
     aqO (id:=id) hC hF hK (fun i o ho=>Wp hd ho) st (iD hf) b k' cs
    cases hl:(top && !(drawn C call g ops c).lone)<;>simp only[hl,cond_true,cond_false] at h
    ·obtain ⟨c',a',H',E',w',h1,h2,h3,h4⟩:=key _ h
     exact go h1 h2 h3 hk h4
    ·obtain ⟨c',a',H',E',w',h1,h2,h3,h4⟩:=key _ h
     exact ⟨_,h1,a',w',H',E',k',h4,h2,h3,hk⟩
  ·exact h.elim
end
inductive Oi where
 |ready|busy|done (q:List Nat)
structure Fw where
 g:Nat
 r:Option (Nat×Nat)
 td:List It
 tm:List SV
 lp:Option (Nat×List Nat×Oi)
def J4:Oi->LoopState
 | .ready=>.ready | .busy=>.busy | .done _=>.done
def FK(body:Code):Oi->Option Code
 | .done q=>ay (AA body q) |_=>aK
def marks(rs:List Nat):List Deferred:=rs.map fun r=>{target:=.collected r,args:=#[]}
def TK(r:Option (Nat×Nat)):Option Nat:=r.map (·.1)
def QL(f:Fw):List Nat:=match f.lp with
 |some (l,_,_)=>[l] |none=>[]
def agp(fn:Func)(g:Nat)(tmps:Array Value)(p:List Nat)(s:Oi)(o:Obj):Prop:=
 ∃x ps ca cb df,AA (Ae fn) p=.rangeFunc x ps ca cb/\o=.loop {state:=J4 s,pending:=FK (Ae fn) s,fn:=g,tmps,params:=ps,assign:=ca,body:=cb,defers:=df}
def YS(C:Ctx)(H:Mem)(E:Env)(h:Hp)(f:Fw)(mf:Frame)(rs:List Nat):Prop:=
 ∃fn a items,C.fns.get f.g=ay fn/\Af H E f.tm a.tmps.toList/\a.defers=[]/\BU (Ae fn) f.td items/\(∀x∈rs,h x=ay (.deferred (ay [])))/\
  match f.lp with
  |none=>mf=BR (bq f.g (TK f.r) (marks rs)) a items |some (l,p,s)=>mf=BR (bq f.g (TK f.r) (marks rs)) a (.inRangeFunc l::items)/\∃o,h l=ay o/\agp fn f.g a.tmps p s o
def Fq(C:Ctx)(H:Mem)(E:Env)(h:Hp):List Fw->List Frame->List Nat->Prop
 |[],[],B=>B=[] |f::s,mf::ms,B=>∃rs B',B=rs++QL f++B'/\YS C H E h f mf rs/\Fq C H E h s ms B' |_,_,_=>False
def Ib(h:Hp)(K:Kx)(H:Mem)(E:Env)(w:World)(hp:List (Nat×SB)):Prop:=
 ∀b o,h b=ay o->w.heap[b]?=ay o/\H b=aK/\(∀id sb,zX hp id=ay sb->AL E id sb≠ay b)/\(K.w0.heap.size<=b\/K.own b)
def QD(g:Nat):List Fw->Nat
 |[]=>g |f::s=>QD f.g s
def agq(P:Program)(C:Ctx)(K:Kx)(bot:Nat)(φ:Sh->Prop)(m:Machine)(cs:List Frame):Prop:=
 ∃(a':Act) (w':World) (v:Value) (s:Sh) (H':Mem) (todo:List Item) (fn0:Func),C.fns.get bot=ay fn0/\Steps P m (lone {(base bot).at a' todo with mode:=.returning} cs w')/\
   a'.defers=[]/\φ s/\Eh K.H0 K.w0 s v H' w'/\(results fn0 a'.tmps).run P w'=.ok v w'
theorem agq.of{P:Program}{C:Ctx}{K:Kx}{bot:Nat}{φ:Sh->Prop}{m m':Machine}{cs:List Frame}(h1:Steps P m m')(h2:agq P C K bot φ m' cs):agq P C K bot φ m cs:=by
 obtain ⟨a',w',v,s,H',todo,fn0,q1,q2,q3⟩:=h2;exact ⟨a',w',v,s,H',todo,fn0,q1,h1.trans q2,q3⟩
def FB(P:Program)(C:Ctx)(K:Kx)(g:Nat)(r:Option (Nat×Nat))(td:List It)(c:Core)(stk:List Fw)(φ:Sh->Prop):Prop:=
 ∀(H:Mem) (E:Env) (w:World) (a:Act) (items:List Item) (rs B:List Nat) (ms cs:List Frame) (fn:Func) (h:Hp),C.fns.get g=ay fn->St C K H E w c a->BU (Ae fn) td items->
  (∀x∈rs,h x=ay (.deferred (ay [])))->Fq C H E h stk ms B->(rs++B).Nodup->Ib h K H E w c.hp->
  agq P C K (QD g stk) φ (lone (BR (bq g (TK r) (marks rs)) a items) (ms++cs) w) cs
section
variable{P:Program}{C:Ctx}{K:Kx}{H H' Oa H0:Mem}{E E' Oc E1:Env}{w w' w'' w0:World}{h:Hp}
theorem YS.le(hH:H.le H')(hE:E.le E'){f:Fw}{mf:Frame}{rs:List Nat}(x:YS C H E h f mf rs):YS C H' E' h f mf rs:=by
 obtain ⟨fn,a,items,h1,h2,h3⟩:=x;exact ⟨fn,a,items,h1,h2.le hH hE,h3⟩
theorem Fq.le(hH:H.le H')(hE:E.le E'):∀{s:List Fw} {ms:List Frame} {B:List Nat},Fq C H E h s ms B->Fq C H' E' h s ms B
 |[],[],_,x=>x |_::_,_::_,_,⟨rs,B',h1,h2,h3⟩=>⟨rs,B',h1,h2.le hH hE,Fq.le hH hE h3⟩ |[],_::_,_,x=>x.elim |_::_,[],_,x=>x.elim
theorem Ib.keep{c c':Core}{a a':Act}(hx:Ib h K H E w c.hp)(st:St C K H E w c a)(st':St C (QJ H E w c.hp) H' E' w' c' a'):Ib h K H' E' w' c'.hp:=by
 intro b o e;obtain ⟨h1,h2,h3,h4⟩:=hx b o e;have hlt:=(bG.1 h1).1;have hno:¬(QJ H E w c.hp).own b:=fun ⟨id,sb,q1,q⟩=>h3 id sb q1 q;refine ⟨by rw[st'.BI.kept b hlt hno];exact h1,?_,fun id sb hl ho=>?_,h4⟩
 ·cases hx:H' b with
  |none=>rfl |some o'=>
   rcases st'.BI.fresh b (by rw[hx];simp) with q|q|q
   ·exact (q h2).elim
   ·have q:w.heap.size<=b:=q;omega
   ·exact (hno q).elim
 ·obtain ⟨_,_,q⟩:=(st'.hp.ent id sb hl).lt ho
  rcases q with q|q
  ·have q:w.heap.size<=b:=q;omega
  ·exact hno q
theorem Ib.weak{ρ:List (Nat×Rn)}{c c':Core}{a:Act}(hx:Ib h K H E w c.hp)(st:St C K H E w c a)(hle:leC ρ c c'):Ib h K H (Fz ρ E) w c'.hp:=by
 intro b o e;obtain ⟨h1,h2,h3,h4⟩:=hx b o e;refine ⟨h1,h2,fun id sb hl ho=>?_,h4⟩;obtain ⟨id0,s0,_,q1,q2⟩:=(VX st.hp (VY hle.2.1 hl)).2 b ho;exact h3 id0 s0 q1 q2
def Iy(h:Hp)(b:Nat)(o:Obj):Hp:=fun x=>if x=b then ay o else h x
theorem MV{b:Nat}{o:Obj}:Iy h b o b=ay o:=by simp[Iy]
theorem EL{b x:Nat}{o:Obj}(hne:x≠b):Iy h b o x=h x:=by simp[Iy,hne]
theorem St.putObj{c:Core}{a:Act}(st:St C K H E w c a){b:Nat}{o o':Obj}(hx:Ib h K H E w c.hp)(hb:h b=ay o):St C K H E (w.putObj b o') c a:=by
 obtain ⟨h1,h2,h3,h4⟩:=hx b o hb;refine ⟨st.den,⟨fun id sb hl=>(st.hp.ent id sb hl).kept (fun _ _ e=>e) (fun _ _ e=>e) (fun b' hb'=>?_) fun b' hb'=>((st.hp.ent id sb hl).lt hb').2.1,st.hp.FQ⟩,?_,st.free,st.gl,st.defers⟩
 ·exact jC (fun e=>h3 id sb hl (e ▸ hb'))
 ·refine ⟨st.BI.os,st.BI.tape,st.BI.output,by rw[World.putObj_size];exact st.BI.size,fun b' hlt hno=>?_,fun b' o2 hb'=>?_,st.BI.le,st.BI.fresh⟩
  ·rw[jC]
   ·exact st.BI.kept b' hlt hno
   ·intro e
    subst e;rcases h4 with q|q
    ·omega
    ·exact hno q
  ·rw[jC]
   ·exact st.BI.on b' o2 hb'
   ·intro e;rw[e,h2] at hb';cases hb'
theorem Ib.put{hp:List (Nat×SB)}{b:Nat}{o o':Obj}(hx:Ib h K H E w hp)(hb:h b=ay o):Ib (Iy h b o') K H E (w.putObj b o') hp:=by
 intro x o2 e;by_cases hxb:x=b
 ·subst hxb
  rw[MV] at e;cases e;obtain ⟨h1,h2⟩:=hx x o hb;exact ⟨World.putObj_heap_same (bG.1 h1).1,h2⟩
 ·rw[EL hxb] at e
  obtain ⟨h1,h2⟩:=hx x o2 e;exact ⟨by rw[jC hxb];exact h1,h2⟩
theorem heap_alloc_old(w:World)(o:Obj)(x:Nat)(h:x<w.heap.size):(w.alloc o).heap[x]?=w.heap[x]?:=by
 show (w.heap.push o)[x]?=_;simp[Array.getElem?_push,Nat.ne_of_lt h]
theorem St.XG{c:Core}{a:Act}(st:St C K H E w c a)(o:Obj):St C K H E (w.alloc o) c a:=
 ⟨st.den,⟨fun id sb hl=>(st.hp.ent id sb hl).kept (fun _ _ e=>e) (fun _ _ e=>e) (fun b hb=>heap_alloc_old w o b ((st.hp.ent id sb hl).lt hb).1) fun _ hb=>((st.hp.ent id sb hl).lt hb).2.1,st.hp.FQ⟩,
  st.BI.alloc o,st.free,st.gl,st.defers⟩
theorem Ib.alloc{c:Core}{a:Act}(hx:Ib h K H E w c.hp)(st:St C K H E w c a)(o:Obj):Ib (Iy h w.heap.size o) K H E (w.alloc o) c.hp:=by
 intro x o2 e;by_cases hxb:x=w.heap.size
 ·subst hxb
  rw[MV] at e;cases e;refine ⟨World.alloc_heap_new w o,?_,fun id sb hl ho=>?_,.inl st.BI.size⟩
  ·cases hH:H w.heap.size with
   |none=>rfl |some o'=>have:=(bG.1 (st.BI.on _ _ hH)).1;omega
  ·have:=((st.hp.ent id sb hl).lt ho).1;omega
 ·rw[EL hxb] at e
  obtain ⟨h1,h2⟩:=hx x o2 e;exact ⟨by rw[heap_alloc_old w o x (bG.1 h1).1];exact h1,h2⟩
theorem YS.put{f:Fw}{mf:Frame}{rs:List Nat}(x:YS C H E h f mf rs){b:Nat}{o:Obj}(h1:b ∉ rs)(h2:b ∉ QL f):YS C H E (Iy h b o) f mf rs:=by
 obtain ⟨fn,a,items,q1,q2,q3,q4,q5,q6⟩:=x;refine ⟨fn,a,items,q1,q2,q3,q4,fun y hy=>by rw[EL (fun e=>h1 (by rw[<-e];exact hy))];exact q5 y hy,?_⟩;unfold QL at h2;split at q6
 ·exact q6
 ·rename_i l p s hl
  rw[hl] at h2;obtain ⟨q7,o',q8,q9⟩:=q6;exact ⟨q7,o',by rw[EL (fun e=>h2 (by simp[e]))];exact q8,q9⟩
theorem Fq.put{b:Nat}{o:Obj}:∀{s:List Fw} {ms:List Frame} {B:List Nat},Fq C H E h s ms B->b ∉ B->Fq C H E (Iy h b o) s ms B
 |[],[],_,x,_=>x |f::_,_::_,B,⟨rs,B',h1,h2,h3⟩,hb=>by
  subst h1;simp only[bK,not_or] at hb;exact ⟨rs,B',rfl,h2.put hb.1.1 hb.1.2,Fq.put h3 hb.2⟩
 |[],_::_,_,x,_=>x.elim |_::_,[],_,x,_=>x.elim
theorem Fq.len:∀{s:List Fw} {ms:List Frame} {B:List Nat},Fq C H E h s ms B->s.length=ms.length
 |[],[],_,_=>rfl |_::_,_::_,_,⟨_,_,_,_,h3⟩=>by simp[Fq.len h3] |[],_::_,_,x=>x.elim |_::_,[],_,x=>x.elim
theorem Fq.has:∀{s:List Fw} {ms:List Frame} {B:List Nat},Fq C H E h s ms B->∀x∈B,∃o,h x=ay o
 |[],[],_,e,x,hx=>by have e:_=[]:=e;subst e;cases hx |f::_,_::_,B,⟨rs,B',h1,h2,h3⟩,x,hx=>by
  subst h1;obtain ⟨fn,a,items,q1,q2,q3,q4,q5,q6⟩:=h2;simp only[bK] at hx;rcases hx with (hx|hx) |hx
  ·exact ⟨_,q5 x hx⟩
  ·unfold QL at hx
   split at q6
   ·rename_i hl;rw[hl] at hx;cases hx
   ·rename_i l p s hl
    rw[hl] at hx;obtain ⟨_,o,q8,_⟩:=q6;have:x=l:=by simpa using hx
    exact ⟨o,this ▸ q8⟩
  ·exact Fq.has h3 x hx
 |[],_::_,_,e,_,_=>e.elim |_::_,[],_,e,_,_=>e.elim
theorem collects{c:Core}{a:Act}:∀{rs:List Nat} {B:List Nat} {h:Hp} {w:World} {s:List Fw} {ms:List Frame} (g:Nat) (todo:List Item) (cs:List Frame),St C K H E w c a->Ib h K H E w c.hp->(∀x∈rs,h x=ay (.deferred (ay [])))->Fq C H E h s ms B->(rs++B).Nodup->
  ∃w' h',Steps P (lone {BR (bq g aK (marks rs)) a todo with mode:=.returning} cs w) (lone {(base g).at a todo with mode:=.returning} cs w')/\St C K H E w' c a/\Ib h' K H E w' c.hp/\Fq C H E h' s ms B
 |[],B,h,w,s,ms,g,todo,cs,st,hx,_,hs,_=>⟨w,h,by rw[<-XF];exact .refl _ _,st,hx,hs⟩ |r::rs,B,h,w,s,ms,g,todo,cs,st,hx,hm,hs,hnd=>by
  have h0:=hm r (List.mem_cons_self ..);have hw:=(hx r _ h0).1;simp only[List.cons_append,List.nodup_cons,bK,not_or] at hnd;have hstep:step P (lone {BR (bq g aK (marks (r::rs))) a todo with mode:=.returning} cs w)=.next (lone {BR (bq g aK (marks rs)) a todo with mode:=.returning} cs (w.putObj r (.deferred aK))):=by
   have:=step_collected (P:=P) (fr:={BR (bq g aK (marks (r::rs))) a todo with mode:=.returning}) (cs:=cs) (w:=w) (d:={target:=.collected r,args:=#[]}) (r:=r) (ds:=marks rs) (calls:=[]) (by simp)
    (by simp[BR,bq,marks,st.defers]) rfl (run_takeDeferred hw)
   rw[this];simp[BR,bq,marks,st.defers]
  obtain ⟨w',h',q1,q2,q3,q4⟩:=collects g todo cs (st.putObj (o':=.deferred aK) hx h0) (hx.put (o':=.deferred aK) h0) (fun x hxm=>by
   rw[EL (fun e=>hnd.1.1 (by rw[<-e];exact hxm))];exact hm x (List.mem_cons_of_mem _ hxm)) (hs.put hnd.1.2) hnd.2
  exact ⟨w',h',.head hstep q1,q2,q3,q4⟩
end
end Go.Sx
