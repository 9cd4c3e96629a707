/- Own work. -/
import Derived.Test.YthehnhaoiijkhaaGreatDoorS04
open Int (ofNat)
open Bool renaming true->aF,and_eq_true->aJ,not_eq_true'->iw,false->aA
open Go.Sx.BT renaming TF->zO
open Option renaming some->ay,none->aN
namespace Go.Sx
section
variable{P:Program}{C:Ctx}{K:Kx}{H H' OL H0:Mem}{E E' OM E1:Env}{w w' w'' w0:World}{hp:List (Nat×SB)}{ρ:List (Nat×Rn)}
def Gf(ρ:List (Nat×Rn))(E:Env):Env:=fun i'=>match AA ρ i' with
 |some (.id i)=>E i |some .nil=>ay (.slice aN 0 0) |none=>aN
theorem DY{i i':Nat}(h:AA ρ i'=ay (.id i)):Gf ρ E i'=E i:=by simp[Gf,h]
theorem Vb{i':Nat}(h:AA ρ i'=ay .nil):Gf ρ E i'=ay (.slice aN 0 0):=by simp[Gf,h]
mutual
theorem RX(hh:AZ K H E w hp):∀{x:SV} (y:SV) {u:Value},Fa hp ρ x y->Den H E x u->Den H (Gf ρ E) y u
 |x,.any,u,_,_=>trivial |x,.sym k m,u,h,hd=>by
  cases x<;>simp only[Fa] at h
  all_goals first|exact h.elim|(obtain ⟨rfl,rfl⟩:=h;exact hd)
 |x,.test b,u,h,hd=>by
  cases x<;>simp only[Fa] at h
  all_goals first|exact h.elim|(subst h;exact hd)
 |x,.gs id',u,h,hd=>by
  cases x<;>simp only[Fa] at h
  case gs id=>exact ⟨by rw[DY h];exact hd.1,hd.2⟩
  case Bj=>obtain rfl:u=_:=hd;exact ⟨Vb h,_,_,_,rfl⟩
 |x,.ptr id' off',u,h,hd=>by
  cases x<;>simp only[Fa] at h
  case ptr id off=>obtain ⟨h,rfl⟩:=h;obtain ⟨b,h1,h2⟩:=hd;exact ⟨b,by rw[DY h];exact h1,h2⟩
 |x,.mp id',u,h,hd=>by
  cases x<;>simp only[Fa] at h
  case mp id=>obtain ⟨b,h1,h2⟩:=hd;exact ⟨b,by rw[DY h];exact h1,h2⟩
 |x,.fn f' l',u,h,hd=>by
  cases x<;>simp only[Fa] at h
  case fn f l=>obtain ⟨rfl,h⟩:=h;obtain ⟨vs,rfl,hl⟩:=hd;exact ⟨vs,rfl,Je hh l' h hl⟩
 |x,.agg l',u,h,hd=>by
  cases x<;>simp only[Fa] at h
  case agg l=>obtain ⟨vs,rfl,hl⟩:=hd;exact ⟨vs,rfl,Je hh l' h hl⟩
 |x,.Ba l',u,h,hd=>by
  cases x<;>simp only[Fa] at h
  case Ba l=>obtain ⟨vs,rfl,hl⟩:=hd;exact ⟨vs,rfl,Je hh l' h hl⟩
 |x,.Dv t' y,u,h,hd=>by
  cases x<;>simp only[Fa] at h
  case Dv t z=>obtain ⟨rfl,h⟩:=h;obtain ⟨v,rfl,hl⟩:=hd;exact ⟨v,rfl,RX hh y h hl⟩
 |x,.sh s,u,h,hd=>by
  have key:Ee hp x=ay s\/(x=.Bj/\∃st g,s=.sl st 0 g):=by
   unfold Fa at h;split at h<;>first|exact h.elim|skip
   all_goals simp_all
  rcases key with h|⟨rfl,st,g,rfl⟩
  ·exact MV hh h hd
  ·obtain rfl:u=_:=hd
   exact .sl0 _ _ _ _ (Nat.zero_le _)
 |x,.int k n,u,h,hd=>by
  cases x<;>simp only[Fa] at h
  case int k' n'=>obtain ⟨rfl,rfl⟩:=h;exact hd
  case sym k' n'=>obtain ⟨rfl,rfl⟩:=h;exact hd
 |x,.bool b,u,h,hd=>by
  cases x<;>simp only[Fa] at h
  case bool b'=>subst h;exact hd
  case test b'=>subst h;exact hd
 |x,.Fg,u,h,hd=>by
  cases x<;>simp only[Fa] at h
  case Fg=>exact hd
 |x,.Bj,u,h,hd=>by
  cases x<;>simp only[Fa] at h
  case Bj=>exact hd
 |x,.GN,u,h,hd=>by
  cases x<;>simp only[Fa] at h
  case GN=>exact hd
 |x,.Ed,u,h,hd=>by
  cases x<;>simp only[Fa] at h
  case Ed=>exact hd
 |x,.F6,u,h,hd=>by
  cases x<;>simp only[Fa] at h
  case F6=>exact hd
 |x,.glob g,u,h,hd=>by
  cases x<;>simp only[Fa] at h
  case glob g'=>subst h;exact hd
 |x,.str l,u,h,hd=>by
  cases x<;>simp only[Fa] at h
  case str l'=>subst h;exact hd
 |x,.val v,u,h,hd=>by
  cases x<;>simp only[Fa] at h
  case val v'=>subst h;exact hd
 |x,.G5 st n g i off,u,h,hd=>by
  have key:(∃st' n' g' i' off',x=.G5 st' n' g' i' off'/\st'=st/\n'=n/\g'=g/\i'=i/\off'=off)\/(Ee hp x=ay (.pt (g i))/\off=0/\(g i).length=st/\i<n):=by
   cases x<;>simp only[Fa] at h
   case G5=>exact .inl ⟨_,_,_,_,_,rfl,h⟩
   all_goals exact .inr h
  rcases key with ⟨_,_,_,_,_,rfl,rfl,rfl,rfl,rfl,rfl⟩ |⟨h9,rfl,h2,h3⟩
  ·exact hd
  ·have hr:=MV hh h9 hd
   cases hr with
   |pt _ b off2 c a1 a2 a3=>exact ⟨b,off2,c,rfl,h3,h2,fun j hj=>⟨a1 j (by omega),a2 j (by omega)⟩,a3⟩
 |x,.gp id st i off,u,h,hd=>by
  cases x<;>simp only[Fa] at h
 |x,.ev id,u,h,hd=>by
  cases x<;>simp only[Fa] at h
 |x,.vw id n,u,h,hd=>by
  cases x<;>simp only[Fa] at h
theorem Je(hh:AZ K H E w hp):∀{l:List SV} (l':List SV) {vs:List Value},leL hp ρ l l'->AV H E l vs->AV H (Gf ρ E) l' vs
 |[],[],[],_,_=>trivial |_::_,y::l',_::_,⟨h1,h2⟩,⟨d1,d2⟩=>⟨RX hh y h1 d1,Je hh l' h2 d2⟩ |[],_::_,_,h,_=>h.elim |_::_,[],_,h,_=>h.elim |_::_,_::_,[],_,hd=>hd.elim |[],[],_::_,_,hd=>hd.elim
end
theorem agK(hh:AZ K H E w hp):∀{l l':List (SV×SV)} {ms:List MapEntry},leM hp ρ l l'->Oc H E l ms->Oc H (Gf ρ E) l' ms
 |[],[],[],_,_=>trivial |(_,_)::_,(a,b)::_,_::_,⟨h1,h2,h3⟩,⟨d1,d2,d3⟩=>⟨RX hh a h1 d1,RX hh b h2 d2,agK hh h3 d3⟩ |[],_::_,_,h,_=>h.elim |(_,_)::_,[],_,h,_=>h.elim |(_,_)::_,(_,_)::_,[],_,hd=>hd.elim |[],[],_::_,_,hd=>hd.elim
theorem RY{st n:Nat}{g g':Nat->List Sh}{xs:List Value}(h:CQ H st n g xs)(hg:∀i,i<n->g i=g' i):CQ H st n g' xs:=
 ⟨h.1,fun i hi=>by rw[<-hg i hi];exact h.2.1 i hi,h.2.2.1,fun i j s v hi e1 e2=>h.2.2.2 i j s v hi (by rw[hg i hi];exact e1) e2⟩
theorem WM(hh:AZ K H E w hp){id':Nat}{sb:SB}(h:leB hp ρ id' sb):GV K H (Gf ρ E) w id' sb/\∀b,Bv (Gf ρ E) id' sb=ay b->∃id s0,AA ρ id'=ay (.id id)/\AA hp id=ay s0/\Bv E id s0=ay b:=by
 cases sb with
 |box cells' e'=>
  simp only[leB] at h;split at h
  ·rename_i id hr
   split at h
   ·rename_i cells e hl
    obtain ⟨rfl,h⟩:=h;obtain ⟨b,cs,h1,h2,h3,h4⟩:=hh.ent _ _ hl;refine ⟨⟨b,cs,by rw[DY hr];exact h1,h2,Je hh _ h h3,h4⟩,fun b' hb=>⟨id,_,hr,hl,?_⟩⟩;simp only[Bv,DY hr] at hb ⊢;exact hb
   ·exact h.elim
  ·exact h.elim
 |row cells' e' st' n'=>
  simp only[leB] at h;split at h
  ·rename_i id hr
   split at h
   ·rename_i cells e st n hl
    obtain ⟨rfl,rfl,rfl,h⟩:=h;obtain ⟨v,xs,h1,h2,h3,h4⟩:=hh.ent _ _ hl;refine ⟨⟨v,xs,by rw[DY hr];exact h1,h2,Je hh _ h h3,h4⟩,fun b' hb=>⟨id,_,hr,hl,?_⟩⟩;simp only[Bv,DY hr] at hb ⊢;exact hb
   ·exact h.elim
  ·exact h.elim
 |own e' st' n' g'=>
  simp only[leB] at h;split at h
  ·rename_i id hr
   split at h
   ·rename_i e st n g hl
    obtain ⟨rfl,rfl,rfl,h⟩:=h;obtain ⟨⟨v,xs,h1,h2,h3,h4⟩,sb0,h5,h6⟩:=aa9 hh hl;refine ⟨⟨v,xs,by rw[DY hr];exact h1,h2,RY h3 h,h4⟩,fun b' hb=>⟨id,_,hr,h5,h6 b' ?_⟩⟩;simp only[Bv,DY hr] at hb;exact hb
   ·exact h.elim
  ·rename_i hr
   subst h;refine ⟨⟨_,[],Vb hr,Po _ _ _,KD _ _,fun b hb=>by simp[AY] at hb⟩,fun b hb=>?_⟩;simp[Bv,Vb hr,AY] at hb
  ·exact h.elim
 |map es'=>
  simp only[leB] at h;split at h
  ·rename_i id hr
   split at h
   ·rename_i es hl
    obtain ⟨b,ms,clk,h1,h2,h3,h4⟩:=hh.ent _ _ hl;refine ⟨⟨b,ms,clk,by rw[DY hr];exact h1,h2,agK hh h h3,h4⟩,fun b' hb=>⟨id,_,hr,hl,?_⟩⟩;simp only[Bv,DY hr] at hb ⊢;exact hb
   ·exact h.elim
  ·exact h.elim
 |fz st n g=>exact h.elim |Rt l=>exact h.elim |Hl e st n g m=>exact h.elim |fm k M fs us t=>exact h.elim |pm vt' M' us'=>
  simp only[leB] at h;split at h
  ·rename_i id hr
   split at h
   ·rename_i vt M us hl
    obtain ⟨rfl,rfl,h1⟩:=h;obtain ⟨b,ms,clk,uv,he,q1,d2,hT,hL,hok,h4⟩:=hh.ent _ _ hl;refine ⟨⟨b,ms,clk,[],by rw[DY hr];exact he,q1,trivial,adR hT hL h1,(fun _ h=>by cases h),?_,h4⟩,fun b' hb=>⟨id,_,hr,hl,?_⟩⟩
    ·have:=agJ h1 d2
     rw[this] at hok;exact hok
    ·simp only[Bv,DY hr] at hb ⊢;exact hb
   ·exact h.elim
  ·exact h.elim
 |buf e l=>
  simp only[leB] at h;split at h
  ·rename_i id hr
   split at h
   ·rename_i e1 l1 hl
    obtain ⟨rfl,rfl⟩:=h;obtain ⟨v,he,h1,h3⟩:=hh.ent _ _ hl;refine ⟨⟨v,by rw[DY hr];exact he,h1,h3⟩,fun b hb=>⟨id,_,hr,hl,?_⟩⟩;simp only[Bv,DY hr] at hb ⊢;exact hb
   ·exact h.elim
  ·exact h.elim
theorem WO:∀{l:List (Nat×SB)} {i:Nat} {sb:SB},leH hp ρ l->AA l i=ay sb->leB hp ρ i sb
 |[],_,_,_,h=>by simp[AA] at h |(j,x)::l,i,sb,⟨h1,h2⟩,h=>by
  simp only[AA] at h;cases hj:(j==i)<;>simp only[hj,cond_true,cond_false] at h
  ·exact WO h2 h
  ·cases h
   obtain rfl:j=i:=by simpa using hj
   exact h1
theorem agL{nx:Nat}:∀{ρ:List (Nat×Rn)} {i:Nat} {r:Rn},akG nx ρ=aF->AA ρ i=ay r->i<nx
 |[],_,_,_,h=>by simp[AA] at h |(j,x)::l,i,r,hu,h=>by
  simp only[akG,aJ] at hu;simp only[AA] at h;cases hj:(j==i)<;>simp only[hj,cond_true,cond_false] at h
  ·exact agL hu.2 h
  ·obtain rfl:j=i:=by simpa using hj
   exact Fv hu.1
theorem Vd:∀{ρ:List (Nat×Rn)} {i k:Nat},AA ρ i=ay (.id k)->k∈KG ρ
 |[],_,_,h=>by simp[AA] at h |(j,x)::l,i,k,h=>by
  simp only[AA] at h;cases hj:(j==i)<;>simp only[hj,cond_true,cond_false] at h
  ·have:=Vd h
   cases x<;>simp[KG,this]
  ·cases h
   simp[KG]
theorem ae8:∀{ρ:List (Nat×Rn)} {i j k:Nat},KF (KG ρ)=aF->AA ρ i=ay (.id k)->AA ρ j=ay (.id k)->i=j
 |[],_,_,_,_,h,_=>by simp[AA] at h |(m,x)::l,i,j,k,hn,h1,h2=>by
  simp only[AA] at h1 h2;have tail:KF (KG l)=aF:=by
   cases x with
   |id a=>simp only[KG,KF,aJ] at hn;exact hn.2 |nil=>exact hn
  have head:∀a,x=.id a->a∈KG l->False:=fun a hx ha=>by
   subst hx;simp only[KG,KF,aJ,iw] at hn;have:(KG l).contains a=aF:=by simpa using ha
   rw[this] at hn;exact absurd hn.1 (by simp)
  cases hi:(m==i)<;>cases hj:(m==j)<;>simp only[hi,hj,cond_true,cond_false] at h1 h2
  ·exact ae8 tail h1 h2
  ·cases h2
   exact (head k rfl (Vd h1)).elim
  ·cases h1
   exact (head k rfl (Vd h2)).elim
  ·have e1:m=i:=by simpa using hi
   have e2:m=j:=by simpa using hj
   rw[<-e1,<-e2]
theorem St.weak{c c':Core}{a:Act}(st:St C K H E w c a)(h:leC ρ c c'):St C K H (Gf ρ E) w c' a:=by
 obtain ⟨h1,h2,h3⟩:=h;simp only[anP,aJ] at h3;refine ⟨Je st.hp _ h1 st.den,⟨fun id sb hl=>(WM st.hp (WO h2 hl)).1,fun id id' sb sb' b l1 l2 o1 o2=>?_⟩,st.Cm,fun i hi _=>?_,st.gl,st.defers⟩
 ·obtain ⟨i1,s1,a1,a2,a3⟩:=(WM st.hp (WO h2 l1)).2 b o1
  obtain ⟨i2,s2,b1,b2,b3⟩:=(WM st.hp (WO h2 l2)).2 b o2;have:=st.hp.Gu _ _ _ _ _ a2 b2 a3 b3;subst this;exact ae8 h3.1 a1 b1
 ·unfold Gf
  cases hr:AA ρ i with
  |none=>rfl |some r=>have:=agL h3.2 hr;omega
end
def anR:SV->Value->Bool
 | .int k n,.int k' m=>k==k'&&n==m | .bool b,.bool c=>b==c | .str [],.string s=>s.data.toList.isEmpty | .Fg,.pointer aN=>aF | .Bj,.slice aN 0 0=>aF | .GN,.nilFunc=>aF | .Ed,.nilIface=>aF | .F6,.map aN=>aF |_,_=>aA
def X9:List SV->List Value->Bool
 |[],[]=>aF |x::l,v::vs=>anR x v&&X9 l vs |_,_=>aA
def fieldsB(P:Program):List Field->List (Nat×Nat×Bool)->Bool
 |[],[]=>aF |f::r,p::q=>f.offset==p.1&&(match P.info? f.type with|some inf=>inf.size==p.2.1|none=>aA) &&
   (match P.underlying f.type with|some (.struct _)=>p.2.2|some (.array _ _)=>p.2.2|some _=>!p.2.2|none=>aA)&&fieldsB P r q
 |_,_=>aA
def aja(P:Program)(t:Nat):Ty->Bool
 | .int k=>match P.underlying t with|some (.int k')=>k==k' |_=>aA
 | .bool=>match P.underlying t with|some .bool=>aF|_=>aA
 | .str=>match P.underlying t with|some .string=>aF|_=>aA
 | .ptr e=>match P.underlying t with|some (.pointer e')=>e==e' |_=>aA
 | .fn=>match P.underlying t with|some (.func _ _ _)=>aF|_=>aA
 | .iface=>match P.underlying t with|some (.interface _)=>aF|_=>aA
 | .map k e=>match P.underlying t with|some (.map k' e')=>k==k'&&e==e' |_=>aA
 | .slice e=>match P.underlying t with|some (.slice e')=>e==e' |_=>aA
 | .struct fs=>match P.underlying t with|some (.struct fields)=>fieldsB P fields.toList fs|_=>aA
 | .arr n e=>match P.underlying t with|some (.array n' e')=>n==n'&&e==e' |_=>aA
 | .other=>aA
def ajb(agg:Bool)(size:Nat):Value->Bool
 | .agg _=>agg |v=>!agg&&size==1&&v.oneCell'
def tyB(P:Program)(t:Nat)(i:Kr):Bool:=
 aja P t i.ty&&match P.info? t with
  |some inf=>inf.size==i.size&&inf.bytes==i.bytes&&match inf.zero with
   |some z=>X9 i.zero z.cells.toList&&z.cells.size==i.size&&ajb i.ty.isAgg i.size z |none=>aA
  |none=>aA
def asL(P:Program)(t:BT Kr):Bool:=t.allB (tyB P)
theorem anS{x:SV}{v:Value}(h:anR x v=aF){H:Mem}{E:Env}:Den H E x v:=by
 unfold anR at h;split at h
 ·simp only[aJ,beq_iff_eq] at h
  obtain ⟨rfl,rfl⟩:=h;rfl
 ·simp only[beq_iff_eq] at h
  subst h;rfl
 ·rename_i s
  have:s.data.toList=[]:=by simpa using h
  obtain ⟨⟨l⟩⟩:=s;simp at this;subst this;rfl
 all_goals first|rfl|cases h
theorem adS{H:Mem}{E:Env}:∀{l:List SV} {vs:List Value},X9 l vs=aF->AV H E l vs
 |[],[],_=>trivial |x::l,v::vs,h=>by
  simp only[X9,aJ] at h;exact ⟨anS h.1,adS h.2⟩
 |[],_::_,h=>by simp[X9] at h |_::_,[],h=>by simp[X9] at h
theorem Zh{P:Program}:∀{fields:List Field} {fs:List (Nat×Nat×Bool)},fieldsB P fields fs=aF->fields.length=fs.length/\∀(j:Nat) (f:Field),fields[j]?=ay f->∃inf:TypeInfo,P.info? f.type=ay inf/\
  fs[j]?=ay (f.offset,inf.size,match P.underlying f.type with|some (.struct _) |some (.array _ _)=>aF|_=>aA)/\(P.underlying f.type).isSome=aF
 |[],[],_=>⟨rfl,fun _ _ h=>by simp at h⟩ |f::r,p::q,h=>by
  simp only[fieldsB,aJ,beq_iff_eq] at h;obtain ⟨⟨⟨h1,h2⟩,h3⟩,h4⟩:=h;obtain ⟨h5,h6⟩:=Zh h4;refine ⟨by simp[h5],fun j f' hj=>?_⟩;cases j with
  |zero=>
   simp at hj;subst hj;split at h2
   ·rename_i inf hi
    simp only[beq_iff_eq] at h2;refine ⟨inf,hi,?_,?_⟩
    ·obtain ⟨p1,p2,p3⟩:=p
     simp only at h1 h2 h3;subst h1 h2;simp only[List.getElem?_cons_zero];congr 3;cases hu:P.underlying f.type with
     |none=>rw[hu] at h3;cases h3 |some d=>rw[hu] at h3;cases d<;>simpa using h3
    ·split at h3
     ·rename_i e;rw[e];rfl
     ·rename_i e;rw[e];rfl
     ·rename_i e;rw[e];rfl
     ·cases h3
   ·cases h2
  |succ j=>
   obtain ⟨inf,a1,a2,a3⟩:=h6 j f' (by simpa using hj);exact ⟨inf,a1,by simpa using a2,a3⟩
 |[],_::_,h=>by simp[fieldsB] at h |_::_,[],h=>by simp[fieldsB] at h
theorem al2{P:Program}{t:Nat}{ty:Ty}(h:aja P t ty=aF):aeT P t ty:=by
 unfold aja at h;cases ty;case other=>cases h
 case arr=>simp only at h;split at h;rename_i hu;simp only[aJ,beq_iff_eq] at h;obtain ⟨rfl,rfl⟩:=h;exact hu;cases h
 case int=>simp only at h;split at h;rename_i hu;simp only[beq_iff_eq] at h;subst h;exact hu;cases h
 case bool=>simp only at h;split at h;rename_i hu;exact hu;cases h
 case str=>simp only at h;split at h;rename_i hu;exact hu;cases h
 case ptr=>simp only at h;split at h;rename_i hu;simp only[beq_iff_eq] at h;subst h;exact hu;cases h
 case fn=>simp only at h;split at h;rename_i hu;exact ⟨_,_,_,hu⟩;cases h
 case iface=>simp only at h;split at h;rename_i hu;exact ⟨_,hu⟩;cases h
 case map=>simp only at h;split at h;rename_i hu;simp only[aJ,beq_iff_eq] at h;obtain ⟨rfl,rfl⟩:=h;exact hu;cases h
 case slice=>simp only at h;split at h;rename_i hu;simp only[beq_iff_eq] at h;subst h;exact hu;cases h
 case struct=>
  simp only at h;split at h
  ·rename_i fields hu
   have:=Zh h;exact ⟨fields,hu,by simpa using this.1,fun j f hj=>this.2 j f (by simpa using hj)⟩
  ·cases h
theorem arA{P:Program}{t:Nat}{i:Kr}(h:tyB P t i=aF):Oe P t i:=by
 unfold tyB at h;simp only[aJ] at h;obtain ⟨h1,h2⟩:=h;refine ⟨al2 h1,?_⟩;split at h2
 ·rename_i inf hi
  simp only[aJ,beq_iff_eq] at h2;obtain ⟨⟨a1,a2⟩,h3⟩:=h2;split at h3
  ·rename_i z hz
   simp only[aJ,beq_iff_eq] at h3;obtain ⟨⟨b1,b2⟩,b3⟩:=h3;refine ⟨inf,z,hi,a1,a2,hz,adS b1,b2,fun ha=>?_,fun ha=>?_⟩
   ·unfold ajb at b3
    split at b3
    ·exact ⟨_,rfl⟩
    ·rw[ha] at b3;simp at b3
   ·unfold ajb at b3
    split at b3
    ·rw[ha] at b3;cases b3
    ·simp only[aJ,beq_iff_eq] at b3
     exact ⟨b3.1.2,b3.2⟩
  ·cases h3
 ·cases h2
theorem abe{P:Program}{l:BT Kr}(h:asL P l=aF)(t:Nat)(i:Kr)(hl:l.get t=ay i):Oe P t i:=arA ((zO h).get hl)
def ae9(P:Program)(l:BT Func):Prop:=l.All fun g fn=>P.funcs[g]?=ay fn
theorem Qu{P:Program}{l:BT Func}(h:ae9 P l)(g:Nat)(fn:Func)(hl:l.get g=ay fn):P.funcs[g]?=ay fn:=BT.All.get h hl
def agM(l:BT Func):Bool:=l.allB fun _ fn=>fn.body.isSome && !(fn.name == "runtime.NumGoroutine")
theorem Ht{P:Program}{l:BT Func}(h:ae9 P l)(he:agM l=aF)(g:Nat)(hl:(l.get g).isSome=aF):∃fn,P.funcs[g]?=ay fn/\fn.body.isSome=aF/\fn.name≠ "runtime.NumGoroutine" :=by
 obtain ⟨fn,hf⟩:=Option.isSome_iff_exists.1 hl;have h1:=(zO he).get hf;simp only[aJ,iw,beq_eq_false_iff_ne] at h1;exact ⟨fn,Qu h g fn hf,h1.1,h1.2⟩
end Go.Sx
