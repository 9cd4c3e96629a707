/- Own work. -/
import Derived.Test.YthehnhaoiijkhaaGreatDoorL04
open Int (ofNat)
open Bool renaming true->aC,and_eq_true->aI,not_eq_true'->fH,false->ay
open Go.Sx.BT renaming TN->zH
open Option renaming some->ak,none->aK
namespace Go.Sx
section
variable{P:Program}{C:Ctx}{K:Kx}{H H' OQ H0:Mem}{E E' OT E1:Env}{w w' w'' w0:World}{hp:List (Nat×SB)}{ρ:List (Nat×Rn)}
def F6(ρ:List (Nat×Rn))(E:Env):Env:=fun i'=>match Ak ρ i' with
 |some (.id i)=>E i |some .nil=>ak (.slice aK 0 0) |none=>aK
theorem DN{i i':Nat}(h:Ak ρ i'=ak (.id i)):F6 ρ E i'=E i:=by simp[F6,h]
theorem Vf{i':Nat}(h:Ak ρ i'=ak .nil):F6 ρ E i'=ak (.slice aK 0 0):=by simp[F6,h]
mutual
theorem Sj(hh:AO K H E w hp):∀{x:SV} (y:SV) {u:Value},EW hp ρ x y->Den H E x u->Den H (F6 ρ E) y u
 |x,.any,u,_,_=>trivial |x,.sym k m,u,h,hd=>by
  cases x<;>simp only[EW] at h
  all_goals first|exact h.elim|(obtain ⟨rfl,rfl⟩:=h;exact hd)
 |x,.test b,u,h,hd=>by
  cases x<;>simp only[EW] at h
  all_goals first|exact h.elim|(subst h;exact hd)
 |x,.gs id',u,h,hd=>by
  cases x<;>simp only[EW] at h
  case gs id=>exact ⟨by rw[DN h];exact hd.1,hd.2⟩
  case A8=>obtain rfl:u=_:=hd;exact ⟨Vf h,_,_,_,rfl⟩
 |x,.ptr id' off',u,h,hd=>by
  cases x<;>simp only[EW] at h
  case ptr id off=>obtain ⟨h,rfl⟩:=h;obtain ⟨b,h1,h2⟩:=hd;exact ⟨b,by rw[DN h];exact h1,h2⟩
 |x,.mp id',u,h,hd=>by
  cases x<;>simp only[EW] at h
  case mp id=>obtain ⟨b,h1,h2⟩:=hd;exact ⟨b,by rw[DN h];exact h1,h2⟩
 |x,.fn f' l',u,h,hd=>by
  cases x<;>simp only[EW] at h
  case fn f l=>obtain ⟨rfl,h⟩:=h;obtain ⟨vs,rfl,hl⟩:=hd;exact ⟨vs,rfl,Jb hh l' h hl⟩
 |x,.agg l',u,h,hd=>by
  cases x<;>simp only[EW] at h
  case agg l=>obtain ⟨vs,rfl,hl⟩:=hd;exact ⟨vs,rfl,Jb hh l' h hl⟩
 |x,.AQ l',u,h,hd=>by
  cases x<;>simp only[EW] at h
  case AQ l=>obtain ⟨vs,rfl,hl⟩:=hd;exact ⟨vs,rfl,Jb hh l' h hl⟩
 |x,.C9 t' y,u,h,hd=>by
  cases x<;>simp only[EW] at h
  case C9 t z=>obtain ⟨rfl,h⟩:=h;obtain ⟨v,rfl,hl⟩:=hd;exact ⟨v,rfl,Sj hh y h hl⟩
 |x,.sh s,u,h,hd=>by
  have key:D6 hp x=ak s\/(x=.A8/\∃st g,s=.sl st 0 g):=by
   unfold EW at h;split at h<;>first|exact h.elim|skip
   all_goals simp_all
  rcases key with h|⟨rfl,st,g,rfl⟩
  ·exact MW hh h hd
  ·obtain rfl:u=_:=hd
   exact .sl0 _ _ _ _ (Nat.zero_le _)
 |x,.int k n,u,h,hd=>by
  cases x<;>simp only[EW] at h
  case int k' n'=>obtain ⟨rfl,rfl⟩:=h;exact hd
  case sym k' n'=>obtain ⟨rfl,rfl⟩:=h;exact hd
 |x,.bool b,u,h,hd=>by
  cases x<;>simp only[EW] at h
  case bool b'=>subst h;exact hd
  case test b'=>subst h;exact hd
 |x,.EZ,u,h,hd=>by
  cases x<;>simp only[EW] at h
  case EZ=>exact hd
 |x,.A8,u,h,hd=>by
  cases x<;>simp only[EW] at h
  case A8=>exact hd
 |x,.Gy,u,h,hd=>by
  cases x<;>simp only[EW] at h
  case Gy=>exact hd
 |x,.DT,u,h,hd=>by
  cases x<;>simp only[EW] at h
  case DT=>exact hd
 |x,.FY,u,h,hd=>by
  cases x<;>simp only[EW] at h
  case FY=>exact hd
 |x,.glob g,u,h,hd=>by
  cases x<;>simp only[EW] at h
  case glob g'=>subst h;exact hd
 |x,.str l,u,h,hd=>by
  cases x<;>simp only[EW] at h
  case str l'=>subst h;exact hd
 |x,.val v,u,h,hd=>by
  cases x<;>simp only[EW] at h
  case val v'=>subst h;exact hd
 |x,.GX st n g i off,u,h,hd=>by
  have key:(∃st' n' g' i' off',x=.GX st' n' g' i' off'/\st'=st/\n'=n/\g'=g/\i'=i/\off'=off)\/(D6 hp x=ak (.pt (g i))/\off=0/\(g i).length=st/\i<n):=by
   cases x<;>simp only[EW] at h
   case GX=>exact .inl ⟨_,_,_,_,_,rfl,h⟩
   all_goals exact .inr h
  rcases key with ⟨_,_,_,_,_,rfl,rfl,rfl,rfl,rfl,rfl⟩ |⟨h9,rfl,h2,h3⟩
  ·exact hd
  ·have hr:=MW hh h9 hd
   cases hr with
   |pt _ b off2 c a1 a2 a3=>exact ⟨b,off2,c,rfl,h3,h2,fun j hj=>⟨a1 j (by omega),a2 j (by omega)⟩,a3⟩
 |x,.gp id st i off,u,h,hd=>by
  cases x<;>simp only[EW] at h
 |x,.ev id,u,h,hd=>by
  cases x<;>simp only[EW] at h
 |x,.vw id n,u,h,hd=>by
  cases x<;>simp only[EW] at h
theorem Jb(hh:AO K H E w hp):∀{l:List SV} (l':List SV) {vs:List Value},leL hp ρ l l'->AA H E l vs->AA H (F6 ρ E) l' vs
 |[],[],[],_,_=>trivial |_::_,y::l',_::_,⟨h1,h2⟩,⟨d1,d2⟩=>⟨Sj hh y h1 d1,Jb hh l' h2 d2⟩ |[],_::_,_,h,_=>h.elim |_::_,[],_,h,_=>h.elim |_::_,_::_,[],_,hd=>hd.elim |[],[],_::_,_,hd=>hd.elim
end
theorem agl(hh:AO K H E w hp):∀{l l':List (SV×SV)} {ms:List MapEntry},leM hp ρ l l'->Oh H E l ms->Oh H (F6 ρ E) l' ms
 |[],[],[],_,_=>trivial |(_,_)::_,(a,b)::_,_::_,⟨h1,h2,h3⟩,⟨d1,d2,d3⟩=>⟨Sj hh a h1 d1,Sj hh b h2 d2,agl hh h3 d3⟩ |[],_::_,_,h,_=>h.elim |(_,_)::_,[],_,h,_=>h.elim |(_,_)::_,(_,_)::_,[],_,hd=>hd.elim |[],[],_::_,_,hd=>hd.elim
theorem Sl{st n:Nat}{g g':Nat->List Sh}{xs:List Value}(h:Ci H st n g xs)(hg:∀i,i<n->g i=g' i):Ci H st n g' xs:=
 ⟨h.1,fun i hi=>by rw[<-hg i hi];exact h.2.1 i hi,h.2.2.1,fun i j s v hi e1 e2=>h.2.2.2 i j s v hi (by rw[hg i hi];exact e1) e2⟩
theorem WQ(hh:AO K H E w hp){id':Nat}{sb:SB}(h:leB hp ρ id' sb):GI K H (F6 ρ E) w id' sb/\∀b,Bd (F6 ρ E) id' sb=ak b->∃id s0,Ak ρ id'=ak (.id id)/\Ak hp id=ak s0/\Bd E id s0=ak b:=by
 cases sb with
 |box cells' e'=>
  simp only[leB] at h;split at h
  ·rename_i id hr
   split at h
   ·rename_i cells e hl
    obtain ⟨rfl,h⟩:=h;obtain ⟨b,cs,h1,h2,h3,h4⟩:=hh.ent _ _ hl;refine ⟨⟨b,cs,by rw[DN hr];exact h1,h2,Jb hh _ h h3,h4⟩,fun b' hb=>⟨id,_,hr,hl,?_⟩⟩;simp only[Bd,DN hr] at hb ⊢;exact hb
   ·exact h.elim
  ·exact h.elim
 |row cells' e' st' n'=>
  simp only[leB] at h;split at h
  ·rename_i id hr
   split at h
   ·rename_i cells e st n hl
    obtain ⟨rfl,rfl,rfl,h⟩:=h;obtain ⟨v,xs,h1,h2,h3,h4⟩:=hh.ent _ _ hl;refine ⟨⟨v,xs,by rw[DN hr];exact h1,h2,Jb hh _ h h3,h4⟩,fun b' hb=>⟨id,_,hr,hl,?_⟩⟩;simp only[Bd,DN hr] at hb ⊢;exact hb
   ·exact h.elim
  ·exact h.elim
 |own e' st' n' g'=>
  simp only[leB] at h;split at h
  ·rename_i id hr
   split at h
   ·rename_i e st n g hl
    obtain ⟨rfl,rfl,rfl,h⟩:=h;obtain ⟨⟨v,xs,h1,h2,h3,h4⟩,sb0,h5,h6⟩:=aa5 hh hl;refine ⟨⟨v,xs,by rw[DN hr];exact h1,h2,Sl h3 h,h4⟩,fun b' hb=>⟨id,_,hr,h5,h6 b' ?_⟩⟩;simp only[Bd,DN hr] at hb;exact hb
   ·exact h.elim
  ·rename_i hr
   subst h;refine ⟨⟨_,[],Vf hr,PG _ _ _,KA _ _,fun b hb=>by simp[AL] at hb⟩,fun b hb=>?_⟩;simp[Bd,Vf hr,AL] at hb
  ·exact h.elim
 |map es'=>
  simp only[leB] at h;split at h
  ·rename_i id hr
   split at h
   ·rename_i es hl
    obtain ⟨b,ms,clk,h1,h2,h3,h4⟩:=hh.ent _ _ hl;refine ⟨⟨b,ms,clk,by rw[DN hr];exact h1,h2,agl hh h h3,h4⟩,fun b' hb=>⟨id,_,hr,hl,?_⟩⟩;simp only[Bd,DN hr] at hb ⊢;exact hb
   ·exact h.elim
  ·exact h.elim
 |fz st n g=>exact h.elim |Rw l=>exact h.elim |Hf e st n g m=>exact h.elim |fm k M fs us t=>exact h.elim |pm vt' M' us'=>
  simp only[leB] at h;split at h
  ·rename_i id hr
   split at h
   ·rename_i vt M us hl
    obtain ⟨rfl,rfl,h1⟩:=h;obtain ⟨b,ms,clk,uv,he,q1,d2,hT,hL,hok,h4⟩:=hh.ent _ _ hl;refine ⟨⟨b,ms,clk,[],by rw[DN hr];exact he,q1,trivial,adE hT hL h1,(fun _ h=>by cases h),?_,h4⟩,fun b' hb=>⟨id,_,hr,hl,?_⟩⟩
    ·have:=agk h1 d2
     rw[this] at hok;exact hok
    ·simp only[Bd,DN hr] at hb ⊢;exact hb
   ·exact h.elim
  ·exact h.elim
 |buf e l=>
  simp only[leB] at h;split at h
  ·rename_i id hr
   split at h
   ·rename_i e1 l1 hl
    obtain ⟨rfl,rfl⟩:=h;obtain ⟨v,he,h1,h3⟩:=hh.ent _ _ hl;refine ⟨⟨v,by rw[DN hr];exact he,h1,h3⟩,fun b hb=>⟨id,_,hr,hl,?_⟩⟩;simp only[Bd,DN hr] at hb ⊢;exact hb
   ·exact h.elim
  ·exact h.elim
theorem WR:∀{l:List (Nat×SB)} {i:Nat} {sb:SB},leH hp ρ l->Ak l i=ak sb->leB hp ρ i sb
 |[],_,_,_,h=>by simp[Ak] at h |(j,x)::l,i,sb,⟨h1,h2⟩,h=>by
  simp only[Ak] at h;cases hj:(j==i)<;>simp only[hj,cond_true,cond_false] at h
  ·exact WR h2 h
  ·cases h
   obtain rfl:j=i:=by simpa using hj
   exact h1
theorem agm{nx:Nat}:∀{ρ:List (Nat×Rn)} {i:Nat} {r:Rn},akk nx ρ=aC->Ak ρ i=ak r->i<nx
 |[],_,_,_,h=>by simp[Ak] at h |(j,x)::l,i,r,hu,h=>by
  simp only[akk,aI] at hu;simp only[Ak] at h;cases hj:(j==i)<;>simp only[hj,cond_true,cond_false] at h
  ·exact agm hu.2 h
  ·obtain rfl:j=i:=by simpa using hj
   exact Fj hu.1
theorem Vg:∀{ρ:List (Nat×Rn)} {i k:Nat},Ak ρ i=ak (.id k)->k∈KE ρ
 |[],_,_,h=>by simp[Ak] at h |(j,x)::l,i,k,h=>by
  simp only[Ak] at h;cases hj:(j==i)<;>simp only[hj,cond_true,cond_false] at h
  ·have:=Vg h
   cases x<;>simp[KE,this]
  ·cases h
   simp[KE]
theorem aeW:∀{ρ:List (Nat×Rn)} {i j k:Nat},KD (KE ρ)=aC->Ak ρ i=ak (.id k)->Ak ρ j=ak (.id k)->i=j
 |[],_,_,_,_,h,_=>by simp[Ak] at h |(m,x)::l,i,j,k,hn,h1,h2=>by
  simp only[Ak] at h1 h2;have tail:KD (KE l)=aC:=by
   cases x with
   |id a=>simp only[KE,KD,aI] at hn;exact hn.2 |nil=>exact hn
  have head:∀a,x=.id a->a∈KE l->False:=fun a hx ha=>by
   subst hx;simp only[KE,KD,aI,fH] at hn;have:(KE l).contains a=aC:=by simpa using ha
   rw[this] at hn;exact absurd hn.1 (by simp)
  cases hi:(m==i)<;>cases hj:(m==j)<;>simp only[hi,hj,cond_true,cond_false] at h1 h2
  ·exact aeW tail h1 h2
  ·cases h2
   exact (head k rfl (Vg h1)).elim
  ·cases h1
   exact (head k rfl (Vg h2)).elim
  ·have e1:m=i:=by simpa using hi
   have e2:m=j:=by simpa using hj
   rw[<-e1,<-e2]
theorem St.weak{c c':Core}{a:Act}(st:St C K H E w c a)(h:leC ρ c c'):St C K H (F6 ρ E) w c' a:=by
 obtain ⟨h1,h2,h3⟩:=h;simp only[anx,aI] at h3;refine ⟨Jb st.hp _ h1 st.den,⟨fun id sb hl=>(WQ st.hp (WR h2 hl)).1,fun id id' sb sb' b l1 l2 o1 o2=>?_⟩,st.BZ,fun i hi _=>?_,st.gl,st.defers⟩
 ·obtain ⟨i1,s1,a1,a2,a3⟩:=(WQ st.hp (WR h2 l1)).2 b o1
  obtain ⟨i2,s2,b1,b2,b3⟩:=(WQ st.hp (WR h2 l2)).2 b o2;have:=st.hp.Gq _ _ _ _ _ a2 b2 a3 b3;subst this;exact aeW h3.1 a1 b1
 ·unfold F6
  cases hr:Ak ρ i with
  |none=>rfl |some r=>have:=agm h3.2 hr;omega
end
def anA:SV->Value->Bool
 | .int k n,.int k' m=>k==k'&&n==m | .bool b,.bool c=>b==c | .str [],.string s=>s.data.toList.isEmpty | .EZ,.pointer aK=>aC | .A8,.slice aK 0 0=>aC | .Gy,.nilFunc=>aC | .DT,.nilIface=>aC | .FY,.map aK=>aC |_,_=>ay
def X8:List SV->List Value->Bool
 |[],[]=>aC |x::l,v::vs=>anA x v&&X8 l vs |_,_=>ay
def fieldsB(P:Program):List Field->List (Nat×Nat×Bool)->Bool
 |[],[]=>aC |f::r,p::q=>f.offset==p.1&&(match P.info? f.type with|some inf=>inf.size==p.2.1|none=>ay) &&
   (match P.underlying f.type with|some (.struct _)=>p.2.2|some (.array _ _)=>p.2.2|some _=>!p.2.2|none=>ay)&&fieldsB P r q
 |_,_=>ay
def aiM(P:Program)(t:Nat):Ty->Bool
 | .int k=>match P.underlying t with|some (.int k')=>k==k' |_=>ay
 | .bool=>match P.underlying t with|some .bool=>aC|_=>ay
 | .str=>match P.underlying t with|some .string=>aC|_=>ay
 | .ptr e=>match P.underlying t with|some (.pointer e')=>e==e' |_=>ay
 | .fn=>match P.underlying t with|some (.func _ _ _)=>aC|_=>ay
 | .iface=>match P.underlying t with|some (.interface _)=>aC|_=>ay
 | .map k e=>match P.underlying t with|some (.map k' e')=>k==k'&&e==e' |_=>ay
 | .slice e=>match P.underlying t with|some (.slice e')=>e==e' |_=>ay
 | .struct fs=>match P.underlying t with|some (.struct fields)=>fieldsB P fields.toList fs|_=>ay
 | .arr n e=>match P.underlying t with|some (.array n' e')=>n==n'&&e==e' |_=>ay
 | .other=>ay
def aiN(agg:Bool)(size:Nat):Value->Bool
 | .agg _=>agg |v=>!agg&&size==1&&v.oneCell'
def tyB(P:Program)(t:Nat)(i:J9):Bool:=
 aiM P t i.ty&&match P.info? t with
  |some inf=>inf.size==i.size&&inf.bytes==i.bytes&&match inf.zero with
   |some z=>X8 i.zero z.cells.toList&&z.cells.size==i.size&&aiN i.ty.isAgg i.size z |none=>ay
  |none=>ay
def asv(P:Program)(t:BT J9):Bool:=t.allB (tyB P)
theorem anB{x:SV}{v:Value}(h:anA x v=aC){H:Mem}{E:Env}:Den H E x v:=by
 unfold anA at h;split at h
 ·simp only[aI,beq_iff_eq] at h
  obtain ⟨rfl,rfl⟩:=h;rfl
 ·simp only[beq_iff_eq] at h
  subst h;rfl
 ·rename_i s
  have:s.data.toList=[]:=by simpa using h
  obtain ⟨⟨l⟩⟩:=s;simp at this;subst this;rfl
 all_goals first|rfl|cases h
theorem adF{H:Mem}{E:Env}:∀{l:List SV} {vs:List Value},X8 l vs=aC->AA H E l vs
 |[],[],_=>trivial |x::l,v::vs,h=>by
  simp only[X8,aI] at h;exact ⟨anB h.1,adF h.2⟩
 |[],_::_,h=>by simp[X8] at h |_::_,[],h=>by simp[X8] at h
theorem Zf{P:Program}:∀{fields:List Field} {fs:List (Nat×Nat×Bool)},fieldsB P fields fs=aC->fields.length=fs.length/\∀(j:Nat) (f:Field),fields[j]?=ak f->∃inf:TypeInfo,P.info? f.type=ak inf/\
  fs[j]?=ak (f.offset,inf.size,match P.underlying f.type with|some (.struct _) |some (.array _ _)=>aC|_=>ay)/\(P.underlying f.type).isSome=aC
 |[],[],_=>⟨rfl,fun _ _ h=>by simp at h⟩ |f::r,p::q,h=>by
  simp only[fieldsB,aI,beq_iff_eq] at h;obtain ⟨⟨⟨h1,h2⟩,h3⟩,h4⟩:=h;obtain ⟨h5,h6⟩:=Zf h4;refine ⟨by simp[h5],fun j f' hj=>?_⟩;cases j with
  |zero=>
   simp at hj;subst hj;split at h2
   ·rename_i inf hi
    simp only[beq_iff_eq] at h2;refine ⟨inf,hi,?_,?_⟩
    ·obtain ⟨p1,p2,p3⟩:=p
     simp only at h1 h2 h3;subst h1 h2;simp only[List.getElem?_cons_zero];congr 3;cases hu:P.underlying f.type with
     |none=>rw[hu] at h3;cases h3 |some d=>rw[hu] at h3;cases d<;>simpa using h3
    ·split at h3
     ·rename_i e;rw[e];rfl
     ·rename_i e;rw[e];rfl
     ·rename_i e;rw[e];rfl
     ·cases h3
   ·cases h2
  |succ j=>
   obtain ⟨inf,a1,a2,a3⟩:=h6 j f' (by simpa using hj);exact ⟨inf,a1,by simpa using a2,a3⟩
 |[],_::_,h=>by simp[fieldsB] at h |_::_,[],h=>by simp[fieldsB] at h
theorem alK{P:Program}{t:Nat}{ty:Ty}(h:aiM P t ty=aC):aeH P t ty:=by
 unfold aiM at h;cases ty;case other=>cases h
 case arr=>simp only at h;split at h;rename_i hu;simp only[aI,beq_iff_eq] at h;obtain ⟨rfl,rfl⟩:=h;exact hu;cases h
 case int=>simp only at h;split at h;rename_i hu;simp only[beq_iff_eq] at h;subst h;exact hu;cases h
 case bool=>simp only at h;split at h;rename_i hu;exact hu;cases h
 case str=>simp only at h;split at h;rename_i hu;exact hu;cases h
 case ptr=>simp only at h;split at h;rename_i hu;simp only[beq_iff_eq] at h;subst h;exact hu;cases h
 case fn=>simp only at h;split at h;rename_i hu;exact ⟨_,_,_,hu⟩;cases h
 case iface=>simp only at h;split at h;rename_i hu;exact ⟨_,hu⟩;cases h
 case map=>simp only at h;split at h;rename_i hu;simp only[aI,beq_iff_eq] at h;obtain ⟨rfl,rfl⟩:=h;exact hu;cases h
 case slice=>simp only at h;split at h;rename_i hu;simp only[beq_iff_eq] at h;subst h;exact hu;cases h
 case struct=>
  simp only at h;split at h
  ·rename_i fields hu
   have:=Zf h;exact ⟨fields,hu,by simpa using this.1,fun j f hj=>this.2 j f (by simpa using hj)⟩
  ·cases h
theorem ard{P:Program}{t:Nat}{i:J9}(h:tyB P t i=aC):Oi P t i:=by
 unfold tyB at h;simp only[aI] at h;obtain ⟨h1,h2⟩:=h;refine ⟨alK h1,?_⟩;split at h2
 ·rename_i inf hi
  simp only[aI,beq_iff_eq] at h2;obtain ⟨⟨a1,a2⟩,h3⟩:=h2;split at h3
  ·rename_i z hz
   simp only[aI,beq_iff_eq] at h3;obtain ⟨⟨b1,b2⟩,b3⟩:=h3;refine ⟨inf,z,hi,a1,a2,hz,adF b1,b2,fun ha=>?_,fun ha=>?_⟩
   ·unfold aiN at b3
    split at b3
    ·exact ⟨_,rfl⟩
    ·rw[ha] at b3;simp at b3
   ·unfold aiN at b3
    split at b3
    ·rw[ha] at b3;cases b3
    ·simp only[aI,beq_iff_eq] at b3
     exact ⟨b3.1.2,b3.2⟩
  ·cases h3
 ·cases h2
theorem aa8{P:Program}{l:BT J9}(h:asv P l=aC)(t:Nat)(i:J9)(hl:l.get t=ak i):Oi P t i:=ard ((zH h).get hl)
def aeX(P:Program)(l:BT Func):Prop:=l.All fun g fn=>P.funcs[g]?=ak fn
theorem Qy{P:Program}{l:BT Func}(h:aeX P l)(g:Nat)(fn:Func)(hl:l.get g=ak fn):P.funcs[g]?=ak fn:=BT.All.get h hl
def agn(l:BT Func):Bool:=l.allB fun _ fn=>fn.body.isSome && !(fn.name == "runtime.NumGoroutine")
theorem Hq{P:Program}{l:BT Func}(h:aeX P l)(he:agn l=aC)(g:Nat)(hl:(l.get g).isSome=aC):∃fn,P.funcs[g]?=ak fn/\fn.body.isSome=aC/\fn.name≠ "runtime.NumGoroutine" :=by
 obtain ⟨fn,hf⟩:=Option.isSome_iff_exists.1 hl;have h1:=(zH he).get hf;simp only[aI,fH,beq_eq_false_iff_ne] at h1;exact ⟨fn,Qy h g fn hf,h1.1,h1.2⟩
end Go.Sx
