/- Own work. -/
import Derived.Test.YthehnhaoiijkhaaGreatDoorM04
open Int (ofNat)
open Bool renaming true->aC,and_eq_true->aH,not_eq_true'->dW,false->ak
open Go.Sx.BT renaming SI->zn
open Option renaming some->ay,none->aK
namespace Go.Sx
section
variable{P:Program}{C:Ctx}{K:Kx}{H H' Oa H0:Mem}{E E' Oc E1:Env}{w w' w'' w0:World}{hp:List (Nat×SB)}{ρ:List (Nat×Rn)}
def Fz(ρ:List (Nat×Rn))(E:Env):Env:=fun i'=>match zX ρ i' with
 |some (.id i)=>E i |some .nil=>ay (.slice aK 0 0) |none=>aK
theorem Dt{i i':Nat}(h:zX ρ i'=ay (.id i)):Fz ρ E i'=E i:=by simp[Fz,h]
theorem UD{i':Nat}(h:zX ρ i'=ay .nil):Fz ρ E i'=ay (.slice aK 0 0):=by simp[Fz,h]
mutual
theorem Rh(hh:Ai K H E w hp):∀{x:SV} (y:SV) {u:Value},EG hp ρ x y->Den H E x u->Den H (Fz ρ E) y u
 |x,.any,u,_,_=>trivial |x,.sym k m,u,h,hd=>by
  cases x<;>simp only[EG] at h
  all_goals first|exact h.elim|(obtain ⟨rfl,rfl⟩:=h;exact hd)
 |x,.test b,u,h,hd=>by
  cases x<;>simp only[EG] at h
  all_goals first|exact h.elim|(subst h;exact hd)
 |x,.gs id',u,h,hd=>by
  cases x<;>simp only[EG] at h
  case gs id=>exact ⟨by rw[Dt h];exact hd.1,hd.2⟩
  case Aw=>obtain rfl:u=_:=hd;exact ⟨UD h,_,_,_,rfl⟩
 |x,.ptr id' off',u,h,hd=>by
  cases x<;>simp only[EG] at h
  case ptr id off=>obtain ⟨h,rfl⟩:=h;obtain ⟨b,h1,h2⟩:=hd;exact ⟨b,by rw[Dt h];exact h1,h2⟩
 |x,.mp id',u,h,hd=>by
  cases x<;>simp only[EG] at h
  case mp id=>obtain ⟨b,h1,h2⟩:=hd;exact ⟨b,by rw[Dt h];exact h1,h2⟩
 |x,.fn f' l',u,h,hd=>by
  cases x<;>simp only[EG] at h
  case fn f l=>obtain ⟨rfl,h⟩:=h;obtain ⟨vs,rfl,hl⟩:=hd;exact ⟨vs,rfl,II hh l' h hl⟩
 |x,.agg l',u,h,hd=>by
  cases x<;>simp only[EG] at h
  case agg l=>obtain ⟨vs,rfl,hl⟩:=hd;exact ⟨vs,rfl,II hh l' h hl⟩
 |x,.Aj l',u,h,hd=>by
  cases x<;>simp only[EG] at h
  case Aj l=>obtain ⟨vs,rfl,hl⟩:=hd;exact ⟨vs,rfl,II hh l' h hl⟩
 |x,.CG t' y,u,h,hd=>by
  cases x<;>simp only[EG] at h
  case CG t z=>obtain ⟨rfl,h⟩:=h;obtain ⟨v,rfl,hl⟩:=hd;exact ⟨v,rfl,Rh hh y h hl⟩
 |x,.sh s,u,h,hd=>by
  have key:DL hp x=ay s\/(x=.Aw/\∃st g,s=.sl st 0 g):=by
   unfold EG at h;split at h<;>first|exact h.elim|skip
   all_goals simp_all
  rcases key with h|⟨rfl,st,g,rfl⟩
  ·exact LZ hh h hd
  ·obtain rfl:u=_:=hd
   exact .sl0 _ _ _ _ (Nat.zero_le _)
 |x,.int k n,u,h,hd=>by
  cases x<;>simp only[EG] at h
  case int k' n'=>obtain ⟨rfl,rfl⟩:=h;exact hd
  case sym k' n'=>obtain ⟨rfl,rfl⟩:=h;exact hd
 |x,.bool b,u,h,hd=>by
  cases x<;>simp only[EG] at h
  case bool b'=>subst h;exact hd
  case test b'=>subst h;exact hd
 |x,.EJ,u,h,hd=>by
  cases x<;>simp only[EG] at h
  case EJ=>exact hd
 |x,.Aw,u,h,hd=>by
  cases x<;>simp only[EG] at h
  case Aw=>exact hd
 |x,.F7,u,h,hd=>by
  cases x<;>simp only[EG] at h
  case F7=>exact hd
 |x,.DK,u,h,hd=>by
  cases x<;>simp only[EG] at h
  case DK=>exact hd
 |x,.Fp,u,h,hd=>by
  cases x<;>simp only[EG] at h
  case Fp=>exact hd
 |x,.glob g,u,h,hd=>by
  cases x<;>simp only[EG] at h
  case glob g'=>subst h;exact hd
 |x,.str l,u,h,hd=>by
  cases x<;>simp only[EG] at h
  case str l'=>subst h;exact hd
 |x,.val v,u,h,hd=>by
  cases x<;>simp only[EG] at h
  case val v'=>subst h;exact hd
 |x,.Gl st n g i off,u,h,hd=>by
  have key:(∃st' n' g' i' off',x=.Gl st' n' g' i' off'/\st'=st/\n'=n/\g'=g/\i'=i/\off'=off)\/(DL hp x=ay (.pt (g i))/\off=0/\(g i).length=st/\i<n):=by
   cases x<;>simp only[EG] at h
   case Gl=>exact .inl ⟨_,_,_,_,_,rfl,h⟩
   all_goals exact .inr h
  rcases key with ⟨_,_,_,_,_,rfl,rfl,rfl,rfl,rfl,rfl⟩ |⟨h9,rfl,h2,h3⟩
  ·exact hd
  ·have hr:=LZ hh h9 hd
   cases hr with
   |pt _ b off2 c a1 a2 a3=>exact ⟨b,off2,c,rfl,h3,h2,fun j hj=>⟨a1 j (by omega),a2 j (by omega)⟩,a3⟩
 |x,.gp id st i off,u,h,hd=>by
  cases x<;>simp only[EG] at h
 |x,.ev id,u,h,hd=>by
  cases x<;>simp only[EG] at h
 |x,.vw id n,u,h,hd=>by
  cases x<;>simp only[EG] at h
theorem II(hh:Ai K H E w hp):∀{l:List SV} (l':List SV) {vs:List Value},leL hp ρ l l'->Af H E l vs->Af H (Fz ρ E) l' vs
 |[],[],[],_,_=>trivial |_::_,y::l',_::_,⟨h1,h2⟩,⟨d1,d2⟩=>⟨Rh hh y h1 d1,II hh l' h2 d2⟩ |[],_::_,_,h,_=>h.elim |_::_,[],_,h,_=>h.elim |_::_,_::_,[],_,hd=>hd.elim |[],[],_::_,_,hd=>hd.elim
end
theorem afY(hh:Ai K H E w hp):∀{l l':List (SV×SV)} {ms:List MapEntry},leM hp ρ l l'->Nz H E l ms->Nz H (Fz ρ E) l' ms
 |[],[],[],_,_=>trivial |(_,_)::_,(a,b)::_,_::_,⟨h1,h2,h3⟩,⟨d1,d2,d3⟩=>⟨Rh hh a h1 d1,Rh hh b h2 d2,afY hh h3 d3⟩ |[],_::_,_,h,_=>h.elim |(_,_)::_,[],_,h,_=>h.elim |(_,_)::_,(_,_)::_,[],_,hd=>hd.elim |[],[],_::_,_,hd=>hd.elim
theorem Ri{st n:Nat}{g g':Nat->List Sh}{xs:List Value}(h:BN H st n g xs)(hg:∀i,i<n->g i=g' i):BN H st n g' xs:=
 ⟨h.1,fun i hi=>by rw[<-hg i hi];exact h.2.1 i hi,h.2.2.1,fun i j s v hi e1 e2=>h.2.2.2 i j s v hi (by rw[hg i hi];exact e1) e2⟩
theorem VX(hh:Ai K H E w hp){id':Nat}{sb:SB}(h:leB hp ρ id' sb):Gg K H (Fz ρ E) w id' sb/\∀b,AL (Fz ρ E) id' sb=ay b->∃id s0,zX ρ id'=ay (.id id)/\zX hp id=ay s0/\AL E id s0=ay b:=by
 cases sb with
 |box cells' e'=>
  simp only[leB] at h;split at h
  ·rename_i id hr
   split at h
   ·rename_i cells e hl
    obtain ⟨rfl,h⟩:=h;obtain ⟨b,cs,h1,h2,h3,h4⟩:=hh.ent _ _ hl;refine ⟨⟨b,cs,by rw[Dt hr];exact h1,h2,II hh _ h h3,h4⟩,fun b' hb=>⟨id,_,hr,hl,?_⟩⟩;simp only[AL,Dt hr] at hb ⊢;exact hb
   ·exact h.elim
  ·exact h.elim
 |row cells' e' st' n'=>
  simp only[leB] at h;split at h
  ·rename_i id hr
   split at h
   ·rename_i cells e st n hl
    obtain ⟨rfl,rfl,rfl,h⟩:=h;obtain ⟨v,xs,h1,h2,h3,h4⟩:=hh.ent _ _ hl;refine ⟨⟨v,xs,by rw[Dt hr];exact h1,h2,II hh _ h h3,h4⟩,fun b' hb=>⟨id,_,hr,hl,?_⟩⟩;simp only[AL,Dt hr] at hb ⊢;exact hb
   ·exact h.elim
  ·exact h.elim
 |own e' st' n' g'=>
  simp only[leB] at h;split at h
  ·rename_i id hr
   split at h
   ·rename_i e st n g hl
    obtain ⟨rfl,rfl,rfl,h⟩:=h;obtain ⟨⟨v,xs,h1,h2,h3,h4⟩,sb0,h5,h6⟩:=aaB hh hl;refine ⟨⟨v,xs,by rw[Dt hr];exact h1,h2,Ri h3 h,h4⟩,fun b' hb=>⟨id,_,hr,h5,h6 b' ?_⟩⟩;simp only[AL,Dt hr] at hb;exact hb
   ·exact h.elim
  ·rename_i hr
   subst h;refine ⟨⟨_,[],UD hr,OI _ _ _,JV _ _,fun b hb=>by simp[Ah] at hb⟩,fun b hb=>?_⟩;simp[AL,UD hr,Ah] at hb
  ·exact h.elim
 |map es'=>
  simp only[leB] at h;split at h
  ·rename_i id hr
   split at h
   ·rename_i es hl
    obtain ⟨b,ms,clk,h1,h2,h3,h4⟩:=hh.ent _ _ hl;refine ⟨⟨b,ms,clk,by rw[Dt hr];exact h1,h2,afY hh h h3,h4⟩,fun b' hb=>⟨id,_,hr,hl,?_⟩⟩;simp only[AL,Dt hr] at hb ⊢;exact hb
   ·exact h.elim
  ·exact h.elim
 |fz st n g=>exact h.elim |QI l=>exact h.elim |Gx e st n g m=>exact h.elim |fm k M fs us t=>exact h.elim |pm vt' M' us'=>
  simp only[leB] at h;split at h
  ·rename_i id hr
   split at h
   ·rename_i vt M us hl
    obtain ⟨rfl,rfl,h1⟩:=h;obtain ⟨b,ms,clk,uv,he,q1,d2,hT,hL,hok,h4⟩:=hh.ent _ _ hl;refine ⟨⟨b,ms,clk,[],by rw[Dt hr];exact he,q1,trivial,ada hT hL h1,(fun _ h=>by cases h),?_,h4⟩,fun b' hb=>⟨id,_,hr,hl,?_⟩⟩
    ·have:=afX h1 d2
     rw[this] at hok;exact hok
    ·simp only[AL,Dt hr] at hb ⊢;exact hb
   ·exact h.elim
  ·exact h.elim
 |buf e l=>
  simp only[leB] at h;split at h
  ·rename_i id hr
   split at h
   ·rename_i e1 l1 hl
    obtain ⟨rfl,rfl⟩:=h;obtain ⟨v,he,h1,h3⟩:=hh.ent _ _ hl;refine ⟨⟨v,by rw[Dt hr];exact he,h1,h3⟩,fun b hb=>⟨id,_,hr,hl,?_⟩⟩;simp only[AL,Dt hr] at hb ⊢;exact hb
   ·exact h.elim
  ·exact h.elim
theorem VY:∀{l:List (Nat×SB)} {i:Nat} {sb:SB},leH hp ρ l->zX l i=ay sb->leB hp ρ i sb
 |[],_,_,_,h=>by simp[zX] at h |(j,x)::l,i,sb,⟨h1,h2⟩,h=>by
  simp only[zX] at h;cases hj:(j==i)<;>simp only[hj,cond_true,cond_false] at h
  ·exact VY h2 h
  ·cases h
   obtain rfl:j=i:=by simpa using hj
   exact h1
theorem afZ{nx:Nat}:∀{ρ:List (Nat×Rn)} {i:Nat} {r:Rn},ajV nx ρ=aC->zX ρ i=ay r->i<nx
 |[],_,_,_,h=>by simp[zX] at h |(j,x)::l,i,r,hu,h=>by
  simp only[ajV,aH] at hu;simp only[zX] at h;cases hj:(j==i)<;>simp only[hj,cond_true,cond_false] at h
  ·exact afZ hu.2 h
  ·obtain rfl:j=i:=by simpa using hj
   exact EO hu.1
theorem UE:∀{ρ:List (Nat×Rn)} {i k:Nat},zX ρ i=ay (.id k)->k∈JY ρ
 |[],_,_,h=>by simp[zX] at h |(j,x)::l,i,k,h=>by
  simp only[zX] at h;cases hj:(j==i)<;>simp only[hj,cond_true,cond_false] at h
  ·have:=UE h
   cases x<;>simp[JY,this]
  ·cases h
   simp[JY]
theorem aev:∀{ρ:List (Nat×Rn)} {i j k:Nat},JX (JY ρ)=aC->zX ρ i=ay (.id k)->zX ρ j=ay (.id k)->i=j
 |[],_,_,_,_,h,_=>by simp[zX] at h |(m,x)::l,i,j,k,hn,h1,h2=>by
  simp only[zX] at h1 h2;have tail:JX (JY l)=aC:=by
   cases x with
   |id a=>simp only[JY,JX,aH] at hn;exact hn.2 |nil=>exact hn
  have head:∀a,x=.id a->a∈JY l->False:=fun a hx ha=>by
   subst hx;simp only[JY,JX,aH,dW] at hn;have:(JY l).contains a=aC:=by simpa using ha
   rw[this] at hn;exact absurd hn.1 (by simp)
  cases hi:(m==i)<;>cases hj:(m==j)<;>simp only[hi,hj,cond_true,cond_false] at h1 h2
  ·exact aev tail h1 h2
  ·cases h2
   exact (head k rfl (UE h1)).elim
  ·cases h1
   exact (head k rfl (UE h2)).elim
  ·have e1:m=i:=by simpa using hi
   have e2:m=j:=by simpa using hj
   rw[<-e1,<-e2]
theorem St.weak{c c':Core}{a:Act}(st:St C K H E w c a)(h:leC ρ c c'):St C K H (Fz ρ E) w c' a:=by
 obtain ⟨h1,h2,h3⟩:=h;simp only[am4,aH] at h3;refine ⟨II st.hp _ h1 st.den,⟨fun id sb hl=>(VX st.hp (VY h2 hl)).1,fun id id' sb sb' b l1 l2 o1 o2=>?_⟩,st.BI,fun i hi _=>?_,st.gl,st.defers⟩
 ·obtain ⟨i1,s1,a1,a2,a3⟩:=(VX st.hp (VY h2 l1)).2 b o1
  obtain ⟨i2,s2,b1,b2,b3⟩:=(VX st.hp (VY h2 l2)).2 b o2;have:=st.hp.FQ _ _ _ _ _ a2 b2 a3 b3;subst this;exact aev h3.1 a1 b1
 ·unfold Fz
  cases hr:zX ρ i with
  |none=>rfl |some r=>have:=afZ h3.2 hr;omega
end
def am6:SV->Value->Bool
 | .int k n,.int k' m=>k==k'&&n==m | .bool b,.bool c=>b==c | .str [],.string s=>s.data.toList.isEmpty | .EJ,.pointer aK=>aC | .Aw,.slice aK 0 0=>aC | .F7,.nilFunc=>aC | .DK,.nilIface=>aC | .Fp,.map aK=>aC |_,_=>ak
def XD:List SV->List Value->Bool
 |[],[]=>aC |x::l,v::vs=>am6 x v&&XD l vs |_,_=>ak
def fieldsB(P:Program):List Field->List (Nat×Nat×Bool)->Bool
 |[],[]=>aC |f::r,p::q=>f.offset==p.1&&(match P.info? f.type with|some inf=>inf.size==p.2.1|none=>ak) &&
   (match P.underlying f.type with|some (.struct _)=>p.2.2|some (.array _ _)=>p.2.2|some _=>!p.2.2|none=>ak)&&fieldsB P r q
 |_,_=>ak
def aip(P:Program)(t:Nat):Ty->Bool
 | .int k=>match P.underlying t with|some (.int k')=>k==k' |_=>ak
 | .bool=>match P.underlying t with|some .bool=>aC|_=>ak
 | .str=>match P.underlying t with|some .string=>aC|_=>ak
 | .ptr e=>match P.underlying t with|some (.pointer e')=>e==e' |_=>ak
 | .fn=>match P.underlying t with|some (.func _ _ _)=>aC|_=>ak
 | .iface=>match P.underlying t with|some (.interface _)=>aC|_=>ak
 | .map k e=>match P.underlying t with|some (.map k' e')=>k==k'&&e==e' |_=>ak
 | .slice e=>match P.underlying t with|some (.slice e')=>e==e' |_=>ak
 | .struct fs=>match P.underlying t with|some (.struct fields)=>fieldsB P fields.toList fs|_=>ak
 | .arr n e=>match P.underlying t with|some (.array n' e')=>n==n'&&e==e' |_=>ak
 | .other=>ak
def aiq(agg:Bool)(size:Nat):Value->Bool
 | .agg _=>agg |v=>!agg&&size==1&&v.oneCell'
def tyB(P:Program)(t:Nat)(i:JI):Bool:=
 aip P t i.ty&&match P.info? t with
  |some inf=>inf.size==i.size&&inf.bytes==i.bytes&&match inf.zero with
   |some z=>XD i.zero z.cells.toList&&z.cells.size==i.size&&aiq i.ty.isAgg i.size z |none=>ak
  |none=>ak
def arP(P:Program)(t:BT JI):Bool:=t.allB (tyB P)
theorem am7{x:SV}{v:Value}(h:am6 x v=aC){H:Mem}{E:Env}:Den H E x v:=by
 unfold am6 at h;split at h
 ·simp only[aH,beq_iff_eq] at h
  obtain ⟨rfl,rfl⟩:=h;rfl
 ·simp only[beq_iff_eq] at h
  subst h;rfl
 ·rename_i s
  have:s.data.toList=[]:=by simpa using h
  obtain ⟨⟨l⟩⟩:=s;simp at this;subst this;rfl
 all_goals first|rfl|cases h
theorem adb{H:Mem}{E:Env}:∀{l:List SV} {vs:List Value},XD l vs=aC->Af H E l vs
 |[],[],_=>trivial |x::l,v::vs,h=>by
  simp only[XD,aH] at h;exact ⟨am7 h.1,adb h.2⟩
 |[],_::_,h=>by simp[XD] at h |_::_,[],h=>by simp[XD] at h
theorem YM{P:Program}:∀{fields:List Field} {fs:List (Nat×Nat×Bool)},fieldsB P fields fs=aC->fields.length=fs.length/\∀(j:Nat) (f:Field),fields[j]?=ay f->∃inf:TypeInfo,P.info? f.type=ay inf/\
  fs[j]?=ay (f.offset,inf.size,match P.underlying f.type with|some (.struct _) |some (.array _ _)=>aC|_=>ak)/\(P.underlying f.type).isSome=aC
 |[],[],_=>⟨rfl,fun _ _ h=>by simp at h⟩ |f::r,p::q,h=>by
  simp only[fieldsB,aH,beq_iff_eq] at h;obtain ⟨⟨⟨h1,h2⟩,h3⟩,h4⟩:=h;obtain ⟨h5,h6⟩:=YM h4;refine ⟨by simp[h5],fun j f' hj=>?_⟩;cases j with
  |zero=>
   simp at hj;subst hj;split at h2
   ·rename_i inf hi
    simp only[beq_iff_eq] at h2;refine ⟨inf,hi,?_,?_⟩
    ·obtain ⟨p1,p2,p3⟩:=p
     simp only at h1 h2 h3;subst h1 h2;simp only[List.getElem?_cons_zero];congr 3;cases hu:P.underlying f.type with
     |none=>rw[hu] at h3;cases h3 |some d=>rw[hu] at h3;cases d<;>simpa using h3
    ·split at h3
     ·rename_i e;rw[e];rfl
     ·rename_i e;rw[e];rfl
     ·rename_i e;rw[e];rfl
     ·cases h3
   ·cases h2
  |succ j=>
   obtain ⟨inf,a1,a2,a3⟩:=h6 j f' (by simpa using hj);exact ⟨inf,a1,by simpa using a2,a3⟩
 |[],_::_,h=>by simp[fieldsB] at h |_::_,[],h=>by simp[fieldsB] at h
theorem alh{P:Program}{t:Nat}{ty:Ty}(h:aip P t ty=aC):aee P t ty:=by
 unfold aip at h;cases ty;case other=>cases h
 case arr=>simp only at h;split at h;rename_i hu;simp only[aH,beq_iff_eq] at h;obtain ⟨rfl,rfl⟩:=h;exact hu;cases h
 case int=>simp only at h;split at h;rename_i hu;simp only[beq_iff_eq] at h;subst h;exact hu;cases h
 case bool=>simp only at h;split at h;rename_i hu;exact hu;cases h
 case str=>simp only at h;split at h;rename_i hu;exact hu;cases h
 case ptr=>simp only at h;split at h;rename_i hu;simp only[beq_iff_eq] at h;subst h;exact hu;cases h
 case fn=>simp only at h;split at h;rename_i hu;exact ⟨_,_,_,hu⟩;cases h
 case iface=>simp only at h;split at h;rename_i hu;exact ⟨_,hu⟩;cases h
 case map=>simp only at h;split at h;rename_i hu;simp only[aH,beq_iff_eq] at h;obtain ⟨rfl,rfl⟩:=h;exact hu;cases h
 case slice=>simp only at h;split at h;rename_i hu;simp only[beq_iff_eq] at h;subst h;exact hu;cases h
 case struct=>
  simp only at h;split at h
  ·rename_i fields hu
   have:=YM h;exact ⟨fields,hu,by simpa using this.1,fun j f hj=>this.2 j f (by simpa using hj)⟩
  ·cases h
theorem aqH{P:Program}{t:Nat}{i:JI}(h:tyB P t i=aC):NC P t i:=by
 unfold tyB at h;simp only[aH] at h;obtain ⟨h1,h2⟩:=h;refine ⟨alh h1,?_⟩;split at h2
 ·rename_i inf hi
  simp only[aH,beq_iff_eq] at h2;obtain ⟨⟨a1,a2⟩,h3⟩:=h2;split at h3
  ·rename_i z hz
   simp only[aH,beq_iff_eq] at h3;obtain ⟨⟨b1,b2⟩,b3⟩:=h3;refine ⟨inf,z,hi,a1,a2,hz,adb b1,b2,fun ha=>?_,fun ha=>?_⟩
   ·unfold aiq at b3
    split at b3
    ·exact ⟨_,rfl⟩
    ·rw[ha] at b3;simp at b3
   ·unfold aiq at b3
    split at b3
    ·rw[ha] at b3;cases b3
    ·simp only[aH,beq_iff_eq] at b3
     exact ⟨b3.1.2,b3.2⟩
  ·cases h3
 ·cases h2
theorem aaE{P:Program}{l:BT JI}(h:arP P l=aC)(t:Nat)(i:JI)(hl:l.get t=ay i):NC P t i:=aqH ((zn h).get hl)
def aew(P:Program)(l:BT Func):Prop:=l.All fun g fn=>P.funcs[g]?=ay fn
theorem PX{P:Program}{l:BT Func}(h:aew P l)(g:Nat)(fn:Func)(hl:l.get g=ay fn):P.funcs[g]?=ay fn:=BT.All.get h hl
def af0(l:BT Func):Bool:=l.allB fun _ fn=>fn.body.isSome && !(fn.name == "runtime.NumGoroutine")
theorem GI{P:Program}{l:BT Func}(h:aew P l)(he:af0 l=aC)(g:Nat)(hl:(l.get g).isSome=aC):∃fn,P.funcs[g]?=ay fn/\fn.body.isSome=aC/\fn.name≠ "runtime.NumGoroutine" :=by
 obtain ⟨fn,hf⟩:=Option.isSome_iff_exists.1 hl;have h1:=(zn he).get hf;simp only[aH,dW,beq_eq_false_iff_ne] at h1;exact ⟨fn,PX h g fn hf,h1.1,h1.2⟩
end Go.Sx
