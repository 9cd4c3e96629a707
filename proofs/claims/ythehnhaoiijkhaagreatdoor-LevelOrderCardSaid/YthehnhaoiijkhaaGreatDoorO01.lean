/- Own work. -/
import Derived.OrdersHeld
import Derived.Calls
import Derived.Laws.AppendOwn
import Derived.Laws.OwnMore
import Derived.Below
import Derived.WalkKit
open Int (ofNat)
open Array renaming length_toList->bD,getElem?_toList->cI
open BitVec renaming ofInt->bS
open Bool renaming true->aj,false->ag
open ByteArray renaming mk->i6,size->lY
open Go.Addr renaming add_zero'->kc,add_lit->bF
open Go.Instr renaming sureAddr->dF,fieldAt->gA
open Go.Region renaming binds->dW,ready->du,free->fI
open Go.Result renaming andThen_ok->cH
open Go.Sem renaming run_bind->cn
open Go.Value renaming oneCell'->dj
open Go.World renaming cell?->fJ
open List renaming range'->dJ,mem_range'_1->iZ,getD_cons_zero->ix,length_cons->cZ,range'_succ->jn,range_eq_range'->ib,replicate->bp,range->aE,getElem?_eq_some_iff->aT,getElem?_eq_getElem->aD,map_cons->dI,getElem?_take->bx,getElem?_drop->cd,length_map->ct
open Nat renaming beq->bA,blt->bT,ble_eq_true_of_le->ia,ble->cm,add_zero->d9,add_assoc->iy
open Option renaming none->aq,some->ae,bind_some->bL
open Option.some renaming injEq->dK
namespace Go.Sx
instance (priority:=high)atv:BEq Nat:=⟨bA⟩
instance (priority:=high)aoS:LawfulBEq Nat where
 eq_of_beq h:=Nat.eq_of_beq_eq_true h
 rfl:=Nat.beq_refl _
inductive BT(α:Type)where
 |nil
 |node (l:BT α) (k:Nat) (v:α) (r:BT α)
def BT.get{α:Type}:BT α->Nat->Option α
 | .nil,_=>aq | .node l k v r,i=>bif bT i k then l.get i else bif bT k i then r.get i else ae v
def BT.All{α:Type}(φ:Nat->α->Prop):BT α->Prop
 | .nil=>True | .node l k v r=>φ k v/\l.All φ/\r.All φ
def BT.allB{α:Type}(f:Nat->α->Bool):BT α->Bool
 | .nil=>aj | .node l k v r=>f k v&&l.allB f&&r.allB f
theorem BT.All.get{α:Type}{φ:Nat->α->Prop}:∀{t:BT α} {i:Nat} {v:α},t.All φ->t.get i=ae v->φ i v
 | .nil,_,_,_,h=>by cases h | .node l k v r,i,v',h,hg=>by
  simp only[BT.get] at hg;cases h1:bT i k<;>simp only[h1,cond_true,cond_false] at hg
  ·cases h2:bT k i<;>simp only[h2,cond_true,cond_false] at hg
   ·cases hg
    have a1:¬i<k:=fun h=>by grind [bT,ia]
    have a2:¬k<i:=fun h=>by grind [bT,ia]
    obtain rfl:k=i:=by omega
    exact h.1
   ·exact BT.All.get h.2.2 hg
  ·exact BT.All.get h.2.1 hg
theorem BT.J8{α:Type}{f:Nat->α->Bool}:∀{t:BT α},t.allB f=aj->t.All fun k v=>f k v=aj
 | .nil,_=>trivial | .node l k v r,h=>by
  simp only[BT.allB,Bool.and_eq_true] at h;exact ⟨h.1.1,BT.J8 h.1.2,BT.J8 h.2⟩
inductive Sh where
 |i (k:IntKind) (n:Int)
 |b (x:Bool)
 |str (l:List UInt8)
 |v (x:Value)
 |sl (st n:Nat) (get:Nat->List Sh)
 |os (e st n:Nat) (get:Nat->List Sh)
 |agg (l:List Sh)
 |mV (l:List Sh)
 |pV (t:Nat) (x:Sh)
 |fn (f:Nat) (caps:List Sh)
 |er (g T:Nat)
 |pt (l:List Sh)
 deriving Inhabited
inductive SV where
 |any
 |val (v:Value)
 |int (k:IntKind) (n:Int)
 |sym (k:IntKind) (n:Int)
 |bool (b:Bool)
 |test (b:Bool)
 |str (l:List UInt8)
 |ptr (id off:Nat)
 |gs (id:Nat)
 |gp (id st i off:Nat)
 |uj|nD|wC|qP|vC
 |fn (f:Nat) (cap:List SV)
 |agg (l:List SV)
 |mV (l:List SV)
 |pV (t:Nat) (x:SV)
 |mp (id:Nat)
 |sh (s:Sh)
 |wV (st n:Nat) (get:Nat->List Sh) (i off:Nat)
 |glob (g:Nat)
 |ev (id:Nat)
 |vw (id n:Nat)
 deriving Inhabited
inductive VT where
 |int|bool
 deriving DecidableEq,Inhabited
inductive SB where
 |box (cells:List SV) (elem:Nat)
 |row (cells:List SV) (elem st n:Nat)
 |own (elem st n:Nat) (get:Nat->List Sh)
 |fz (st n:Nat) (get:Nat->List Sh)
 |map (es:List (SV×SV))
 |IQ (l:List Sh)
 |wK (elem st n:Nat) (get:Nat->List Sh) (more:List SV)
 |fm (k:IntKind) (M:Int->Option Value) (fs us:List (Int×Bool×SV)) (tag:Option (Nat×Int))
 |buf (e:Nat) (l:List UInt8)
 |pm (vt:VT) (M:Int×List UInt8->Option Value) (us:List ((Int×List UInt8)×Bool×SV))
inductive Ty where
 |int (k:IntKind) |bool|str|ptr (e:Nat) |fn|iface
 |map (k e:Nat)
 |slice (e:Nat)
 |struct (fs:List (Nat×Nat×Bool))
 |arr (n e:Nat)
 |other
structure Ai where
 ty:Ty
 size:Nat
 bytes:Nat
 zero:List SV
structure Prim where
 add:IntKind->Int->Int->Int
 sub:IntKind->Int->Int->Int
 mul:IntKind->Int->Int->Int
 neg:IntKind->Int->Int
 lt:Int->Int->Bool
 le:Int->Int->Bool
 eq:Int->Int->Bool
 max:Int->Int->Int
 min:Int->Int->Int
 inB:Int->Nat->Bool
 upTo:Int->Nat->Bool
 toN:Int->Nat
 nH:Nat->Int
 addN:Nat->Nat->Nat
 zL:Nat->Nat->Nat
 Ux:Nat->Nat->Bool
 room:Nat->Nat->Bool
 len:List UInt8->Nat
 nt:Bool->Bool
 ite:Bool->Bool->Bool->Bool
 beq:Bool->Bool->Bool
 seq:List UInt8->List UInt8->Bool
 app:List UInt8->List UInt8->List UInt8
 snoc:(Nat->List Sh)->Nat->(Nat->List Sh)->Nat->List Sh
 upd:(Nat->List Sh)->Nat->Nat->List Sh->Nat->List Sh
 bin:BinOp->IntKind->Int->Int->Int
 conv:IntKind->Int->Int
 ins:(Nat->List Sh)->Nat->List Sh->Nat->List Sh
 kp:Int->List UInt8->Int->List UInt8->Bool
 isS:Option Value->Bool
 aof:Option Value->Int
 zu:Option Value->Bool
inductive oC where
 |int (a b:Int)
 |nat (a b:Nat)
 |bool (a b:Bool)
 |str (a b:List UInt8)
 |val (a b:Value)
 |sh (a b:Sh)
 |get (n:Nat) (g g':Nat->List Sh)
 |Ez (g g':Nat->List Sh)
 |mp (M M':Int->Option Value)
 |mg (M M':Int×List UInt8->Option Value)
def oC.ok:oC->Prop
 | .int a b=>a=b | .nat a b=>a=b | .bool a b=>a=b | .str a b=>a=b | .val a b=>a=b | .sh a b=>a=b | .get n g g'=>∀i,i<n->g i=g' i | .Ez g g'=>g=g' | .mp M M'=>M=M' | .mg M M'=>M=M'
def oC.all:List oC->Prop
 |[]=>True |e::l=>e.ok/\oC.all l
inductive Tree(α:Type)where
 |leaf (a:α)
 |node (b:Bool) (t f:Tree α)
 |need (b:Bool) (t:Tree α)
 |must (l:List oC) (t:Tree α)
 |both (t f:Tree α)
 |fail
def Tree.bind{α β:Type}:Tree α->(α->Tree β)->Tree β
 | .leaf a,k=>k a | .node b t f,k=>.node b (t.bind k) (f.bind k) | .need b t,k=>.need b (t.bind k) | .must l t,k=>.must l (t.bind k) | .both t f,k=>.both (t.bind k) (f.bind k) | .fail,_=>.fail
def Tree.All{α:Type}(φ:α->Prop):Tree α->Prop
 | .leaf a=>φ a | .node b t f=>(b=aj->t.All φ)/\(b=ag->f.All φ) | .need b t=>b=aj/\t.All φ | .must l t=>oC.all l/\t.All φ | .both t f=>t.All φ/\f.All φ | .fail=>False
def Tree.lone{α:Type}:Tree α->Bool
 | .both _ _=>ag | .node _ t f=>t.lone&&f.lone | .need _ t=>t.lone | .must _ t=>t.lone |_=>aj
structure Ctx where
 A:Prim
 tys:BT Ai
 fns:BT Func
 spec:Nat->Option (List Sh->Tree Sh)
 eqs:List Nat
 NP:List Nat
 Dq:Nat->List Nat->Bool
 gls:List (Nat×Sh)
 live:BT Nat
 ail:Nat->Option (IntKind×List Int):=fun _=>aq
 lits:Bool:=ag
 ins:Nat->Option Nat:=fun _=>aq
 lend:Nat->Bool:=fun _=>ag
 grow:Nat->Option Nat:=fun _=>aq
 Uy:List Nat:=[]
 Y4:Nat->Option VT:=fun _=>aq
def mG{α:Type}:List (Nat×α)->Nat->Option α
 |[],_=>aq |(j,x)::l,i=>bif j==i then ae x else mG l i
def hset{α:Type}:List (Nat×α)->Nat->α->List (Nat×α)
 |[],_,_=>[] |(j,x)::l,i,y=>bif j==i then (j,y)::l else (j,x)::hset l i y
def hdel{α:Type}:List (Nat×α)->Nat->List (Nat×α)
 |[],_=>[] |(j,x)::l,i=>bif j==i then hdel l i else (j,x)::hdel l i
def hins{α:Type}:List (Nat×α)->Nat->α->List (Nat×α)
 |[],i,y=>[(i,y)] |(j,x)::l,i,y=>bif bT j i then (j,x)::hins l i y else (i,y)::(j,x)::l
structure Core where
 tm:List SV
 hp:List (Nat×SB)
 nx:Nat
 lim:Nat
 tc:List Nat
def SV.ofValue:Value->SV
 | .int k n=>.int k n | .bool b=>.bool b | .pointer aq=>.uj | .slice aq 0 0=>.nD | .nilFunc=>.wC | .nilIface=>.qP | .map aq=>.vC | .string s=>.str s.data.toList | .chan aq=>.val (.chan aq) |_=>.any
def SV.lit:Value->SV
 | .int k n=>.int k n | .nilIface=>.qP | .bool b=>.bool b |x=>.val x
mutual
def Qa:Sh->SV
 | .agg l=>.agg (Iz l) | .mV l=>.mV (Iz l) | .fn f l=>.fn f (Iz l) | .i k n=>.sym k n | .b x=>.test x | .v x=>SV.lit x | .pt l=>.wV l.length 1 (fun _=>l) 0 0 |s=>.sh s
def Iz:List Sh->List SV
 |[]=>[] |x::r=>Qa x::Iz r
end
def Sh.zx:Sh->SV
 | .fn f l=>.fn f (Iz l) | .i k n=>.sym k n | .b x=>.test x | .v x=>SV.lit x | .pt l=>.wV l.length 1 (fun _=>l) 0 0 |s=>.sh s
def oz(tm:List SV):Operand->SV
 | .tmp t=>tm.getD t .any | .const v=>.ofValue v | .global g=>.glob g | .func f=>.fn f []
def SV.cells:SV->List SV
 | .agg l=>l |x=>[x]
def setAt(l:List SV)(off:Nat):List SV->List SV
 |[]=>l |x::r=>setAt (l.set off x) (off+1) r
def Ty.isAgg:Ty->Bool
 | .struct _=>aj | .arr _ _=>aj |_=>ag
def pack(agg:Bool)(l:List SV):Option SV:=
 bif agg then ae (.agg l) else match l with
  |[x]=>ae x |_=>aq
def seg(l:List SV)(off n:Nat):Option (List SV):=
 bif cm (off+n) l.length then ae ((l.drop off).take n) else aq
def SV.okc:SV->Bool
 | .any=>ag | .ev _=>ag | .sh (.agg _)=>ag |_=>aj
def GH(place:Nat->Option (Nat×Nat))(ev:Operand->SV):List SV->List (Nat×Operand)->Option (List SV)
 |z,[]=>ae z |z,(i,x)::r=>match place i with
  |some (off,size)=>bif (ev x).okc&&(ev x).cells.length==size&&cm (off+size) z.length then GH place ev (setAt z off (ev x).cells) r else aq |none=>aq
def rep(l:List SV):Nat->List SV
 |0=>[] |n+1=>l++rep l n
def chunks(st:Nat):Nat->List Sh->List (List Sh)
 |0,_=>[] |n+1,l=>l.take st::chunks st n (l.drop st)
def nM(ll:List (List Sh))(i:Nat):List Sh:=ll.getD i []
def SV.one:SV->Bool
 | .any| .agg _| .mV _| .ev _=>ag | .sh (.agg _) | .sh (.mV _)=>ag |_=>aj
def uP:List SV->Bool
 |[]=>aj |x::r=>x.one&&uP r
mutual
def rG(hp:List (Nat×SB)):SV->Option Sh
 | .int k n=>ae (.i k n) | .sym k n=>ae (.i k n) | .bool x=>ae (.b x) | .test x=>ae (.b x) | .str l=>ae (.str l) | .val v=>ae (.v v) | .uj=>ae (.v (.pointer aq)) | .wC=>ae (.v .nilFunc) | .qP=>ae (.v .nilIface) | .nD=>ae (.sl 0 0 fun _=>[]) | .sh s=>ae s | .agg l=>(xX hp l).map .agg | .mV l=>(xX hp l).map .mV | .fn f l=>(xX hp l).map (.fn f) | .pV t x=>(rG hp x).map (.pV t) | .gs id=>match mG hp id with
  |some (.fz st m g)=>ae (.sl st m g) |_=>aq
 | .ptr id off=>match mG hp id with
  |some (.IQ l)=>bif off==0 then ae (.pt l) else aq |_=>aq
 | .wV st _ g i off=>bif off==0&&(g i).length==st then ae (.pt (g i)) else aq |_=>aq
def xX(hp:List (Nat×SB)):List SV->Option (List Sh)
 |[]=>ae [] |x::r=>match rG hp x,xX hp r with
  |some s,ae l=>ae (s::l) |_,_=>aq
end
mutual
def adw:SV->List Nat
 | .gs id=>[id] | .ptr id _=>[id] | .agg l=>zM l | .mV l=>zM l | .fn _ l=>zM l | .pV _ x=>adw x |_=>[]
def zM:List SV->List Nat
 |[]=>[] |x::r=>adw x++zM r
end
def vF:Nat->List (Nat×SB)->List Nat->Option (List (Nat×SB))
 |_,hp,[]=>ae hp |0,_,_=>aq |m+1,hp,id::r=>match mG hp id with
  |some (.fz _ _ _)=>vF m hp r |some (.IQ _)=>vF m hp r |some (.own _ st n g)=>vF m (hset hp id (.fz st n g)) r |some (.row cells _ st n)=>match xX hp cells with
   |some l=>bif uP cells then vF m (hset hp id (.fz st n (nM (chunks st n l)))) r else aq |none=>vF m hp (zM cells++id::r)
  |some (.box cells _)=>match xX hp cells with
   |some l=>bif uP cells then vF m (hset hp id (.IQ l)) r else aq |none=>vF m hp (zM cells++id::r)
  |_=>aq
def freeze(hp:List (Nat×SB))(ids:List Nat):Option (List (Nat×SB)):=vF 40 hp ids
mutual
def pY:Sh->Nat->SV×List (Nat×SB)×Nat
 | .os e st n g,b=>(.gs b,[(b,.own e st n g)],b+1) | .agg l,b=>let r:=sN l b;(.agg r.1,r.2) | .mV l,b=>let r:=sN l b;(.mV r.1,r.2) | .i k n,b=>(.sym k n,[],b) | .b x,b=>(.test x,[],b) | .v x,b=>(SV.lit x,[],b) | .fn f l,b=>(.fn f (Iz l),[],b) | .pt l,b=>(.wV l.length 1 (fun _=>l) 0 0,[],b) |s,b=>(.sh s,[],b)
def sN:List Sh->Nat->List SV×List (Nat×SB)×Nat
 |[],b=>([],[],b) |x::r,b=>let p:=pY x b;let q:=sN r p.2.2;(p.1::q.1,p.2.1++q.2.1,q.2.2)
end
def qK(hp:List (Nat×SB)):List (Nat×SB)->List (Nat×SB)
 |[]=>hp |(i,b)::r=>qK (hins hp i b) r
def NQ(A:Prim)(op:BinOp)(k:IntKind)(x y:Int):Option Int:=
 match op with
 | .add=>ae (A.add k x y) | .sub=>ae (A.sub k x y) | .mul=>ae (A.mul k x y) |_=>aq
def Y5(op:BinOp)(k:IntKind)(x y:Int):Option Int:=
 match op with
 | .add=>ae (k.wrap (x+y)) | .sub=>ae (k.wrap (x - y)) | .mul=>ae (k.wrap (x*y)) |_=>aq
def aaD(A:Prim)(op:BinOp)(x y:Int):Option Bool:=
 match op with
 | .eql=>ae (A.eq x y) | .neq=>ae (A.nt (A.eq x y)) | .lss=>ae (A.lt x y) | .leq=>ae (A.le x y) | .gtr=>ae (A.lt y x) | .geq=>ae (A.le y x) |_=>aq
def cmpL(op:BinOp)(x y:Int):Option Bool:=
 match op with
 | .eql=>ae (x==y) | .neq=>ae (x != y) | .lss=>ae (decide (x<y)) | .leq=>ae (decide (x<=y)) | .gtr=>ae (decide (y<x)) | .geq=>ae (decide (y<=x)) |_=>aq
def Ctx.ty(C:Ctx)(t:Nat):Option Ai:=C.tys.get t
def orO{α:Type}:Option α->Option α->Option α
 |some a,_=>ae a |none,b=>b
def rH(op:BinOp)(nil:Bool):Option SV:=
 match op with
 | .eql=>ae (.bool nil) | .neq=>ae (.bool !nil) |_=>aq
def eqB(A:Prim)(op:BinOp)(x y:Bool):Option SV:=
 match op with
 | .eql=>ae (.test (A.beq x y)) | .neq=>ae (.test (A.nt (A.beq x y))) |_=>aq
def eqS(A:Prim)(op:BinOp)(x y:List UInt8):Option SV:=
 match op with
 | .eql=>ae (.test (A.seq x y)) | .neq=>ae (.test (A.nt (A.seq x y))) |_=>aq
inductive Cq where
 |i (n:Int)
 |b (x:Bool)
 deriving DecidableEq
def Cq.v:Cq->Value
 | .i n=>.int .i64 n | .b x=>.bool x
def EY:List SV->Option (List Cq)
 |[]=>ae [] | .int .i64 n::r=>(EY r).map fun l=>.i n::l | .sym .i64 n::r=>(EY r).map fun l=>.i n::l | .bool x::r=>(EY r).map fun l=>.b x::l | .test x::r=>(EY r).map fun l=>.b x::l |_=>aq
def qp:List Cq->List SV->Bool
 |[],[]=>aj | .i _::r,.int .i64 _::z=>qp r z | .b _::r,.bool _::z=>qp r z |_,_=>ag
def GI(A:Prim):List Cq->List Cq->Bool
 | .i x::xs,.i y::ys=>A.ite (A.eq x y) (GI A xs ys) ag | .b x::xs,.b y::ys=>A.ite (A.beq x y) (GI A xs ys) ag |_,_=>aj
def XT(gls:List (Nat×Sh))(g T:Nat):Bool:=match mG gls g with
 |some (.er g' T')=>g'==g&&T'==T |_=>ag
def aio(gls:List (Nat×Sh))(op:BinOp):SV->SV->Option SV
 | .fn _ _,.wC=>rH op ag | .wC,.wC=>rH op aj | .ptr _ _,.uj=>rH op ag | .wV _ _ _ _ _,.uj=>rH op ag | .val (.pointer (ae _)),.uj=>rH op ag | .uj,.uj=>rH op aj | .pV _ _,.qP=>rH op ag | .sh (.pV _ _),.qP=>rH op ag | .sh (.er _ _),.qP=>rH op ag | .qP,.qP=>rH op aj | .sh (.er g T),.sh (.er g' T')=>bif g==g'&&T==T' then rH op aj else bif XT gls g T&&XT gls g' T'&&T==T' && !(g==g') then rH op ag else aq | .qP,.sh (.er _ _)=>rH op ag | .pV t _,.sh (.er _ T)=>bif t==T then aq else rH op ag | .sh (.pV t _),.sh (.er _ T)=>bif t==T then aq else rH op ag |_,_=>aq
def uJ:Ty->SV->Bool
 | .fn,.fn _ _=>aj | .fn,.wC=>aj | .ptr _,.ptr _ _=>aj | .ptr _,.wV _ _ _ _ _=>aj | .ptr _,.val (.pointer (ae _))=>aj | .ptr _,.uj=>aj | .iface,.pV _ _=>aj | .iface,.sh (.pV _ _)=>aj | .iface,.sh (.er _ _)=>aj | .iface,.qP=>aj |_,_=>ag
def isConst:Operand->Bool
 | .const _=>aj |_=>ag
def aip(A:Prim)(op:BinOp)(x y:SV):Option SV:=
 match x,y with
 | .bool a,.bool b=>match op with| .eql=>ae (.bool (a==b)) | .neq=>ae (.bool (a != b)) |_=>aq
 | .bool a,.test b=>eqB A op a b | .test a,.bool b=>eqB A op a b | .test a,.test b=>eqB A op a b |_,_=>aq
def NR:SV->Bool
 | .qP=>aj |_=>ag
def aog(NP:List Nat):SV->Bool
 | .sh (.er _ T)=>NP.contains T |_=>aj
def afw(NP:List Nat)(gls:List (Nat×Sh))(op:BinOp)(ty:Ty)(lit:Bool)(x y:SV):Option SV:=
 bif aog NP x&&uJ ty x&&uJ ty y&&(lit || !(NR x&&NR y)) then aio gls op x y else aq
def aiq(C:Ctx)(op:BinOp)(t:Nat)(lit:Bool)(x y:SV):Option SV:=
 let A:=C.A
 match x,y with
 | .int k a,.int l b=>bif k==l then orO ((Y5 op k a b).map (.int k)) ((cmpL op a b).map .bool) else aq | .int k a,.sym l b=>bif k==l then orO ((NQ A op k a b).map (.sym k)) ((aaD A op a b).map .test) else aq | .sym k a,.int l b=>bif k==l then orO ((NQ A op k a b).map (.sym k)) ((aaD A op a b).map .test) else aq | .sym k a,.sym l b=>bif k==l then orO ((NQ A op k a b).map (.sym k)) ((aaD A op a b).map .test) else aq | .str a,.str b=>match op with| .eql=>ae (.bool (a==b)) | .neq=>ae (.bool (a != b)) |_=>aq
 | .str a,.sh (.str b)=>eqS A op a b | .sh (.str a),.str b=>eqS A op a b | .sh (.str a),.sh (.str b)=>eqS A op a b | .agg a,.agg b=>match EY a,EY b,C.ty t with
  |some a,ae b,ae i=>bif C.eqs.contains t&&qp a i.zero&&qp b i.zero then match op with
   | .eql=>ae (.test (GI A a b)) | .neq=>ae (.test (A.nt (GI A a b))) |_=>aq
   else aq
  |_,_,_=>aq
 |x,y=>match C.ty t with
  |none=>aq |some i=>match i.ty with
   | .bool=>aip A op x y |ty=>afw C.NP C.gls op ty lit x y
def air(hp:List (Nat×SB)):SV->Option Nat
 | .gs id=>match mG hp id with
  |some (.row _ _ _ n)=>ae n |some (.own _ _ n _)=>ae n |some (.fz _ n _)=>ae n |_=>aq
 | .sh (.sl _ n _)=>ae n |_=>aq
def Qb:Operand->Bool
 | .const (.slice aq 0 0)=>aj |_=>ag
def XU(C:Ctx)(c:Core)(op:BinOp)(t:Nat)(y:Operand)(x:SV):Option (Tree (SV×Core)):=
 match C.ty t with
 |some i=>match i.ty with
  | .slice _=>bif Qb y then
    match rH op aj,rH op ag with
    |some a,ae b=>match x with
     | .nD=>ae (.leaf (a,c)) |x=>match air c.hp x with
      |some n=>ae (.node (C.A.Ux n 0) (.both (.leaf (a,c)) (.leaf (b,c))) (.leaf (b,c))) |none=>aq
    |_,_=>aq
   else aq
  |_=>aq
 |none=>aq
def textOf:SV->Option (List UInt8)
 | .str l=>ae l | .sh (.str l)=>ae l |_=>aq
def NS(op:BinOp)(k:IntKind)(a b:Int):Int:=
 match op with
 | .and=>k.wrap (bS k.bits a&&&bS k.bits b).toNat | .or=>k.wrap (bS k.bits a|||bS k.bits b).toNat | .xor=>k.wrap (bS k.bits a^^^bS k.bits b).toNat | .andNot=>k.wrap (bS k.bits a&&&~~~ bS k.bits b).toNat | .shl=>k.wrap (a*2^(min b.toNat k.bits)) | .shr=>a.fdiv (2^(min b.toNat k.bits)) | .quo=>k.wrap (a.tdiv b) | .rem=>a.tmod b |_=>0
def numOf:SV->Option (IntKind×Int×Bool)
 | .int k n=>ae (k,n,aj) | .sym k n=>ae (k,n,ag) |_=>aq
def DJ(A:Prim)(op:BinOp)(k:IntKind)(a b:Int)(la lb:Bool)(c:Core):Tree (SV×Core):=
 .leaf (bif la&&lb then .int k (NS op k a b) else .sym k (A.bin op k a b),c)
def ais(C:Ctx)(c:Core)(op:BinOp)(x y:SV):Option (Tree (SV×Core)):=
 match op,numOf x,numOf y with
 | .shl,ae (k,a,la),ae (_,b,lb)=>ae (bif lb then bif decide (0<=b) then DJ C.A .shl k a b la lb c else .fail else .need (C.A.le 0 b) (DJ C.A .shl k a b la lb c)) | .shr,ae (k,a,la),ae (_,b,lb)=>ae (bif lb then bif decide (0<=b) then DJ C.A .shr k a b la lb c else .fail else .need (C.A.le 0 b) (DJ C.A .shr k a b la lb c)) | .quo,ae (k,a,la),ae (l,b,lb)=>bif k==l then ae (bif lb then bif b==0 then .fail else DJ C.A .quo k a b la lb c else .need (C.A.nt (C.A.eq b 0)) (DJ C.A .quo k a b la lb c)) else aq | .rem,ae (k,a,la),ae (l,b,lb)=>bif k==l then ae (bif lb then bif b==0 then .fail else DJ C.A .rem k a b la lb c else .need (C.A.nt (C.A.eq b 0)) (DJ C.A .rem k a b la lb c)) else aq | .and,ae (k,a,la),ae (l,b,lb)=>bif k==l then ae (DJ C.A .and k a b la lb c) else aq | .or,ae (k,a,la),ae (l,b,lb)=>bif k==l then ae (DJ C.A .or k a b la lb c) else aq | .xor,ae (k,a,la),ae (l,b,lb)=>bif k==l then ae (DJ C.A .xor k a b la lb c) else aq | .andNot,ae (k,a,la),ae (l,b,lb)=>bif k==l then ae (DJ C.A .andNot k a b la lb c) else aq |_,_,_=>aq
def afx(C:Ctx)(c:Core)(op:BinOp)(x y:SV):Option (Tree (SV×Core)):=
 match op with
 | .add=>match textOf x,textOf y with
  |some a,ae b=>ae (.need (C.A.Ux (C.A.addN (C.A.len a) (C.A.len b)) 9223372036854775807) (.leaf (.sh (.str (C.A.app a b)),c))) |_,_=>aq
 |_=>aq
def Uz(C:Ctx)(c:Core)(op:BinOp)(t:Nat)(x y:Operand)(lit:Bool):Tree (SV×Core):=
 match ais C c op (oz c.tm x) (oz c.tm y) with
 |some r=>r |none=>match afx C c op (oz c.tm x) (oz c.tm y) with
 |some r=>r |none=>match XU C c op t y (oz c.tm x) with
 |some r=>r |none=>match aiq C op t lit (oz c.tm x) (oz c.tm y) with
  |some v=>.leaf (v,c) |none=>.fail
def notS(A:Prim):SV->Option SV
 | .bool b=>ae (.bool !b) | .test b=>ae (.test (A.nt b)) |_=>aq
def negS(A:Prim):SV->Option SV
 | .int k n=>ae (.int k (k.wrap (0 - n))) | .sym k n=>ae (.sym k (A.neg k n)) |_=>aq
def TS:SV->Option Bool
 | .bool x=>ae x | .test x=>ae x |_=>aq
def adx(A:Prim)(c a b:SV):Option SV:=
 match c with
 | .bool aj=>ae a | .bool ag=>ae b | .test c=>match TS a,TS b with
  |some x,ae y=>ae (.test (A.ite c x y)) |_,_=>aq
 |_=>aq
def afy(A:Prim)(hp:List (Nat×SB)):SV->Option SV
 | .gs id=>match mG hp id with
  |some (.row _ _ _ n)=>ae (.int .i64 n) |some (.own _ _ n _)=>ae (.sym .i64 (A.nH n)) |some (.wK _ st n _ more)=>ae (.sym .i64 (A.nH (A.addN n (Nat.div more.length st)))) |some (.fz _ n _)=>ae (.sym .i64 (A.nH n)) |some (.buf _ l)=>ae (.sym .i64 (A.nH (A.len l))) |_=>aq
 | .vw _ n=>ae (.sym .i64 (A.nH n)) | .sh (.sl _ n _)=>ae (.sym .i64 (A.nH n)) | .nD=>ae (.int .i64 0) | .str l=>ae (.int .i64 l.length) | .sh (.str l)=>ae (.sym .i64 (A.nH (A.len l))) |_=>aq
def wW:SV->Option Int
 | .int _ n=>ae n | .sym _ n=>ae n |_=>aq
def ret(c:Core)(v:SV):Tree (SV×Core):=.leaf (v,c)
def alloc(c:Core)(b:SB)(v:SV):Tree (SV×Core):=
 bif bT c.nx c.lim then ret {c with hp:=hins c.hp c.nx b,nx:=c.nx+1} v else .fail
def BH(c:Core):Option SV->Tree (SV×Core)
 |some v=>.leaf (v,c) |none=>.fail
def LG(C:Ctx)(c:Core)(e:Nat):Tree (SV×Core):=
 match C.ty e with
 |some i=>alloc c (.box i.zero e) (.ptr c.nx 0) |none=>.fail
def LH(C:Ctx)(c:Core)(t:Nat)(parts:List (Nat×Operand)):Tree (SV×Core):=
 match C.ty t with
 |some i=>match i.ty with
  | .struct fs=>match GH (fun j=>fs[j]?.map fun f=>(f.1,f.2.1)) (oz c.tm) i.zero parts with
   |some l=>ret c (.agg l) |none=>.fail
  |_=>.fail
 |none=>.fail
def BU(C:Ctx)(c:Core)(t n:Nat)(parts:List (Nat×Operand)):Tree (SV×Core):=
 match C.ty t with
 |some i=>match i.ty with
  | .slice e=>match C.ty e with
   |some j=>bif cm (n*j.size) 16777216&&bT 0 j.size then
     match GH (fun k=>ae (k*j.size,j.size)) (oz c.tm) (rep j.zero n) parts with
     |some l=>alloc c (.row l e j.size n) (.gs c.nx) |none=>.fail
    else .fail
   |none=>.fail
  |_=>.fail
 |none=>.fail
def Y6(C:Ctx)(c:Core)(agg:Bool)(size:Nat):SV->Option SV
 | .ptr id off=>match mG c.hp id with
  |some (.box cs _)=>(seg cs off size).bind (pack agg) |some (.row cs _ _ _)=>(seg cs off size).bind (pack agg) |some (.IQ l)=>(seg (l.map Sh.zx) off size).bind (pack agg) |_=>aq
 | .gp id st i off=>match mG c.hp id with
  |some (.own _ st' _ g)=>bif st==st' then (seg ((g i).map Sh.zx) off size).bind (pack agg) else aq |some (.fz st' _ g)=>bif st==st' then (seg ((g i).map Sh.zx) off size).bind (pack agg) else aq |_=>aq
 | .wV _ _ g i off=>(seg ((g i).map Sh.zx) off size).bind (pack agg) | .glob g=>bif agg then aq else (mG C.gls g).bind fun s=>match s with
  | .mV _=>aq |s=>ae s.zx
 |_=>aq
def Qc(C:Ctx)(c:Core)(t:Nat)(x:SV):Tree (SV×Core):=
 match C.ty t with
 |some i=>BH c (Y6 C c i.ty.isAgg i.size x) |none=>.fail
def LJ(C:Ctx)(c:Core)(t:Nat)(x v:SV):Tree (SV×Core):=
 match C.ty t with
 |some i=>bif v.cells.length==i.size&&uP v.cells then
   match x with
   | .ptr id off=>match mG c.hp id with
    |some (.box cs e)=>bif cm (off+i.size) cs.length then ret {c with hp:=hset c.hp id (.box (setAt cs off v.cells) e),tc:=id::c.tc} .any else .fail
    |some (.row cs e st n)=>bif cm (off+i.size) cs.length then ret {c with hp:=hset c.hp id (.row (setAt cs off v.cells) e st n),tc:=id::c.tc} .any else .fail
    |_=>.fail
   | .gp id st j off=>match mG c.hp id with
    |some (.own e st' n g)=>bif st==st'&&cm (off+i.size) st then match xX c.hp v.cells with
      |some l=>ret {c with hp:=hset c.hp id (.own e st n (C.A.upd g j off l)),tc:=id::c.tc} .any
      |none=>.fail
     else .fail
    |_=>.fail
   |_=>.fail
  else .fail
 |none=>.fail
def UA(c:Core):SV->Tree (SV×Core)
 | .ptr i o=>ret c (.ptr i o) | .gp i st j o=>ret c (.gp i st j o) | .wV st n g i o=>ret c (.wV st n g i o) | .fn f l=>ret c (.fn f l) |_=>.fail
def DK(C:Ctx)(c:Core)(t f:Nat)(x:SV):Tree (SV×Core):=
 match C.ty t with
 |some i=>match i.ty with
  | .struct fs=>match fs[f]? with
   |some (off,size,_)=>bif bT 0 size then match x with
    | .ptr id o=>ret c (.ptr id (o+off)) | .gp id st j o=>ret c (.gp id st j (o+off)) | .wV st n g j o=>ret c (.wV st n g j (o+off)) |_=>.fail
    else .fail
   |none=>.fail
  |_=>.fail
 |none=>.fail
def LM(C:Ctx)(c:Core)(t f:Nat)(x:SV):Tree (SV×Core):=
 match C.ty t with
 |some i=>match i.ty,x with
  | .struct fs,.agg l=>match fs[f]? with
   |some (off,size,agg)=>BH c ((seg l off size).bind (pack agg)) |none=>.fail
  |_,_=>.fail
 |none=>.fail
def ady(A:Prim)(n:Int)(f:Nat->Tree (SV×Core))(m:Nat):Nat->Tree (SV×Core)
 |0=>.fail |k+1=>.node (A.eq n (ofNat (m - (k+1)))) (f (m - (k+1))) (ady A n f m k)
def afz(A:Prim)(n:Int):SV->Nat
 | .int _ k=>k.toNat |_=>A.toN n
def DL(C:Ctx)(c:Core)(t:Nat)(x i:SV):Tree (SV×Core):=
 match C.ty t with
 |some ti=>match ti.ty with
  | .slice e=>match C.ty e with
   |some te=>match x,wW i with
    | .gs id,ae n=>match mG c.hp id with
     |some (.row _ _ st m)=>match i with
      | .int _ n=>bif decide (0<=n)&&decide (n<m)&&st==te.size then ret c (.ptr id (n.toNat*st)) else .fail |_=>.fail
     |some (.own _ st m _)=>bif st==te.size then .need (C.A.inB n m) (ret c (.gp id st (afz C.A n i) 0)) else .fail |some (.fz st m g)=>bif st==te.size then .need (C.A.inB n m) (ret c (.wV st m g (afz C.A n i) 0)) else .fail |_=>.fail
    | .sh (.sl st m g),ae n=>bif st==te.size then .need (C.A.inB n m) (ret c (.wV st m g (afz C.A n i) 0)) else .fail |_,_=>.fail
   |none=>.fail
  | .arr m e=>match C.ty e with
   |some te=>match x,i with
    | .glob g,.int _ n=>match mG C.gls g with
     |some (.mV l)=>bif decide (0<=n)&&decide (n<m)&&l.length==m*te.size then ret c (.wV te.size m (nM (chunks te.size m l)) n.toNat 0) else .fail |_=>.fail
    | .glob g,.sym _ n=>match mG C.gls g with
     |some (.mV l)=>bif l.length==m*te.size then .need (C.A.inB n m) (ady C.A n (fun j=>ret c (.wV te.size m (nM (chunks te.size m l)) j 0)) m m) else .fail |_=>.fail
    |_,_=>.fail
   |none=>.fail
  |_=>.fail
 |none=>.fail
def GK(c:Core)(x:SV)(i:Nat):Tree (SV×Core):=
 match x with
 | .mV l=>BH c l[i]? |_=>.fail
def EZ(A:Prim):SV->Option Nat
 | .int _ k=>ae k.toNat | .sym _ n=>ae (A.toN n) |_=>aq
def afA(hp:List (Nat×SB))(st:Nat):SV->Option (Nat×Nat)
 | .gs id=>match mG hp id with
  |some (.own _ st' n _)=>bif st==st' then ae (id,n) else aq |_=>aq
 |_=>aq
def LQ(C:Ctx)(c:Core)(t:Nat)(x:SV)(lo hi:Option SV):Tree (SV×Core):=
 match C.ty t with
 |some ti=>match ti.ty with
  | .slice e=>match C.ty e with
   |some te=>
    match afA c.hp te.size x,lo,hi with
    |some (id,n),aq,ae h=>match wW h,EZ C.A h with
     |some hi,ae h=>.need (C.A.upTo hi n) (ret c (.vw id h)) |_,_=>.fail
    |_,_,_=>
    match (match x with| .gs id=>freeze c.hp [id] |_=>ae c.hp) with
    |none=>.fail |some hp=>match rG hp x with
     |some (.sl st n g)=>bif st==te.size then
       match lo,hi with
       |none,aq=>ret {c with hp} (.sh (.sl st n g))
       |none,ae h=>match wW h,EZ C.A h with
        |some hi,ae h=>.need (C.A.upTo hi n) (ret {c with hp} (.sh (.sl st h g)))
        |_,_=>.fail
       |some l,aq=>match wW l,EZ C.A l with
        |some li,ae l=>.need (C.A.upTo li n) (ret {c with hp} (.sh (.sl st (C.A.zL n l) fun j=>g (C.A.addN l j))))
        |_,_=>.fail
       |some l,ae h=>match wW l,EZ C.A l,wW h,EZ C.A h with
        |some li,ae l,ae hi,ae h=>.need (C.A.upTo hi n) (.need (C.A.upTo li h) (ret {c with hp} (.sh (.sl st (C.A.zL h l) fun j=>g (C.A.addN l j)))))
        |_,_,_,_=>.fail
      else .fail
     |_=>.fail
   |none=>.fail
  |_=>.fail
 |none=>.fail
def isZero:SV->Bool
 | .int _ n=>n==0 |_=>ag
def ait(k:SV)(e st:Nat):SB:=
 match k with
 | .int _ _=>.row [] e st 0 |_=>.own e st 0 fun _=>[]
def DN(C:Ctx)(c:Core)(t:Nat)(l k:SV)(same:Bool):Tree (SV×Core):=
 match C.ty t with
 |some ti=>match ti.ty with
  | .slice e=>match C.ty e with
   |some te=>match wW k,EZ C.A k with
    |some ki,ae kn=>
     bif isZero l then .need (C.A.le 0 ki) (.need (C.A.room kn te.bytes) (alloc c (ait k e te.size) (.gs c.nx)))
     else bif same&&uP te.zero&&bT 0 te.size then match xX [] te.zero with
      |some z=>.need (C.A.le 0 ki) (.need (C.A.room kn te.bytes) (alloc c (.own e te.size kn fun _=>z) (.gs c.nx))) |none=>.fail
     else .fail
    |_,_=>.fail
   |none=>.fail
  |_=>.fail
 |none=>.fail
def xOf(hp:List (Nat×SB))(e st:Nat):SV->Option (Nat×(Nat->List Sh)×List SV)
 | .gs id=>match mG hp id with
  |some (.own e' st' n g)=>bif e==e'&&st==st' then ae (n,g,[]) else aq |some (.wK e' st' n g more)=>bif e==e'&&st==st' then ae (n,g,more) else aq |_=>aq
 |_=>aq
def rowOf(hp:List (Nat×SB))(st:Nat):SV->Option (List SV×Nat)
 | .nD=>ae ([],0) | .gs id=>match mG hp id with
  |some (.row cells _ st' n)=>bif st==st' then ae (cells,n) else aq |_=>aq
 |_=>aq
def DR(hp:List (Nat×SB))(st:Nat):SV->Option (Nat×(Nat->List Sh))
 | .nD=>ae (0,fun _=>[]) | .gs id=>match mG hp id with
  |some (.row cells _ st' n)=>bif st==st'&&uP cells then (xX hp cells).map fun l=>(n,nM (chunks st n l)) else aq |some (.own _ st' n g)=>bif st==st' then ae (n,g) else aq |some (.fz st' n g)=>bif st==st' then ae (n,g) else aq |_=>aq
 | .sh (.sl st' n g)=>bif st==st' then ae (n,g) else bif st'==0&&n==0 then ae (0,fun _=>[]) else aq | .vw id n=>match mG hp id with
  |some (.own _ st' _ g)=>bif st==st' then ae (n,g) else aq |_=>aq
 |_=>aq
def GL:SV->Option Nat
 | .gs id=>ae id |_=>aq
def DT(hp:List (Nat×SB))(e:Nat):SV->Bool
 | .nD=>aj | .gs id=>match mG hp id with
  |some (.row _ e' _ _)=>e==e' |some (.own e' _ _ _)=>e==e' |some (.wK e' _ _ _ _)=>e==e' |some (.buf e' _)=>e==e' |_=>ag
 |_=>ag
def EC(x y:SV):Bool:=
 match GL x,GL y with
 |some i,ae j=>i==j |_,_=>ag
def pW(c:Core)(s:SV):Core:=
 match GL s with
 |some id=>{c with hp:=hdel c.hp id,tc:=id::c.tc}
 |none=>c
def UC:List SV->Option (List UInt8)
 |[]=>ae [] | .int .u8 n::r=>bif decide (0<=n)&&decide (n<256) then (UC r).map fun l=>UInt8.ofNat n.toNat::l else aq |_=>aq
def IZ(hp:List (Nat×SB))(e:Nat):SV->Option (List UInt8)
 | .nD=>ae [] | .gs id=>match mG hp id with
  |some (.buf e' l)=>bif e==e' then ae l else aq |some (.row cells e' st n)=>bif e==e'&&st==1&&n==cells.length then UC cells else aq |_=>aq
 |_=>aq
def zN(C:Ctx)(e:Nat):Bool:=
 match C.ty e with
 |some te=>match te.ty,te.zero with
  | .int .u8,[.int .u8 n]=>te.size==1&&te.bytes==1&&n==0 |_,_=>ag
 |none=>ag
def GN(C:Ctx)(c:Core)(t u:Nat)(s x:SV):Tree (SV×Core):=
 match C.ty t,C.ty u with
 |some ti,ae ui=>match ti.ty,ui.ty with
  | .slice e,.str=>match IZ c.hp e s,textOf x with
   |some l,ae m=>bif zN C e&&DT c.hp e s then
     .need (C.A.room (C.A.addN (C.A.len l) (C.A.len m)) 1) (alloc (pW c s) (.buf e (C.A.app l m)) (.gs c.nx))
    else .fail
   |_,_=>.fail
  |_,_=>.fail
 |_,_=>.fail
def GR(C:Ctx)(c:Core)(t:Nat)(s x:SV):Option (Tree (SV×Core)):=
 match s with
 | .gs id=>match mG c.hp id with
  |some (.buf e l)=>match C.ty t,IZ c.hp e x with
   |some ti,ae m=>match ti.ty with
    | .slice e'=>bif e==e'&&zN C e && !EC s x then
      ae (.need (C.A.room (C.A.addN (C.A.len l) (C.A.len m)) 1) (alloc (pW c s) (.buf e (C.A.app l m)) (.gs c.nx)))
     else aq
    |_=>aq
   |_,_=>aq
  |_=>aq
 |_=>aq
def Qd(C:Ctx)(c:Core)(t u:Nat)(x:SV):Tree (SV×Core):=
 match C.ty t,C.ty u with
 |some ti,ae ui=>match ti.ty,ui.ty with
  | .int _,.int k=>match x with
   | .int _ n=>ret c (.int k (k.wrap n)) | .sym _ n=>ret c (.sym k (C.A.conv k n)) |_=>.fail
  | .str,.slice e=>match textOf x with
   |some l=>bif zN C e then .need (C.A.room (C.A.len l) 1) (alloc c (.buf e l) (.gs c.nx)) else .fail |none=>.fail
  | .slice e,.str=>match IZ c.hp e x with
   |some l=>bif zN C e then ret c (.sh (.str l)) else .fail |none=>.fail
  |_,_=>.fail
 |_,_=>.fail
def I4(C:Ctx)(c:Core)(t:Nat)(s x:SV):Tree (SV×Core):=
 match C.ty t with
 |some ti=>match ti.ty with
  | .slice e=>match C.ty e with
   |some te=>
    bif DT c.hp e s && !EC s x&&bT 0 te.size then
     match rowOf c.hp te.size s,rowOf c.hp te.size x with
     |some (a,n),ae (b,m)=>
      bif uP b&&cm ((n+m)*te.bytes) 140737488355328&&cm (n+m) 1073741824 then alloc (pW c s) (.row (a++b) e te.size (n+m)) (.gs c.nx) else .fail
     |_,_=>match DR c.hp te.size s,DR c.hp te.size x with
      |some (n,g),ae (m,h)=>.need (C.A.room (C.A.addN n m) te.bytes) (alloc (pW c s) (.own e te.size (C.A.addN n m) (C.A.snoc g n h)) (.gs c.nx)) |_,_=>match xOf c.hp e te.size s,rowOf c.hp te.size x with
       |some (n,g,more),ae (b,_)=>bif uP b then .need (C.A.room (C.A.addN n (Nat.div (more++b).length te.size)) te.bytes) (alloc (pW c s) (.wK e te.size n g (more++b)) (.gs c.nx)) else .fail |_,_=>.fail
    else .fail
   |none=>.fail
  |_=>.fail
 |none=>.fail
def yJ:SV->Option (IntKind×Int×Bool)
 | .int k n=>ae (k,n,aj) | .sym k n=>ae (k,n,ag) |_=>aq
def I5(kk:IntKind)(k:Int):List (SV×SV)->Option (Option SV)
 |[]=>ae aq |(.int j m,v)::r=>bif j==kk then bif m==k then ae (ae v) else I5 kk k r else aq |_=>aq
def NT(A:Prim)(kk:IntKind)(k:Int)(z:SV)(f:SV->Bool->Tree (SV×Core)):List (SV×SV)->Tree (SV×Core)
 |[]=>f z ag |(.int j m,v)::r=>bif j==kk then .node (A.eq k m) (f v aj) (NT A kk k z f r) else .fail |_=>.fail
def NU(k:IntKind)(n:Int)(v:SV):List (SV×SV)->Option (List (SV×SV))
 |[]=>ae [(.int k n,v)] |(.int j m,u)::r=>bif j==k then bif m==n then ae ((.int k n,v)::r) else (NU k n v r).map fun r=>(.int j m,u)::r else aq |_=>aq
def aaF(l:List Int):List (Int×Bool×SV):=l.map fun n=>(n,ag,.any)
def GU(C:Ctx)(c:Core)(t:Nat):Tree (SV×Core):=
 match C.ail t with
 |some (k,l)=>alloc c (.fm k (fun _=>aq) (aaF l) [] aq) (.mp c.nx) |none=>match C.Y4 t with
  |some vt=>alloc c (.pm vt (fun _=>aq) []) (.mp c.nx) |none=>alloc c (.map []) (.mp c.nx)
def findF(A:Prim)(k:Int)(f:Bool->SV->Tree (SV×Core)):List (Int×Bool×SV)->Tree (SV×Core)
 |[]=>.fail |[(j,p,v)]=>.need (A.eq k j) (f p v) |(j,p,v)::r=>.node (A.eq k j) (f p v) (findF A k f r)
def intOf:SV->Option Int
 | .int .i64 n=>ae n | .sym .i64 n=>ae n | .sh (.i .i64 n)=>ae n |_=>aq
def strOf:SV->Option (List UInt8)
 | .str l=>ae l | .sh (.str l)=>ae l |_=>aq
def TT:SV->Option (Int×List UInt8)
 | .agg [a,b]=>match intOf a,strOf b with
  |some n,ae l=>ae (n,l) |_,_=>aq
 | .sh (.agg [.i .i64 n,.str l])=>ae (n,l) |_=>aq
def SV.XV:SV->VT->Bool
 | .int .i64 _,.int=>aj | .sym .i64 _,.int=>aj | .bool _,.bool=>aj | .test _,.bool=>aj |_,_=>ag
def aiu(A:Prim)(vt:VT)(o:Option Value):SV:=match vt with
 | .int=>.sym .i64 (A.aof o) | .bool=>.test (A.zu o)
def adA(A:Prim)(vt:VT)(M:Int×List UInt8->Option Value)(k:Int×List UInt8)(f:Bool->SV->Tree (SV×Core)):List ((Int×List UInt8)×Bool×SV)->Tree (SV×Core)
 |[]=>.node (A.isS (M k)) (f aj (aiu A vt (M k))) (f ag .any) |(j,p,v)::r=>.node (A.kp k.1 k.2 j.1 j.2) (f p v) (adA A vt M k f r)
def yK(c:Core)(ok:Bool)(v:SV)(b:Bool):Tree (SV×Core):=ret c (bif ok then .mV [v,.bool b] else v)
def I7(C:Ctx)(c:Core)(t:Nat)(m k:SV)(ok:Bool):Tree (SV×Core):=
 match C.ty t with
 |some ti=>match ti.ty with
  | .map kt e=>match C.ty kt,C.ty e with
   |some UD,ae te=>match UD.ty,pack te.ty.isAgg te.zero with
    | .struct _,ae z=>bif C.Uy.contains kt then
      match m with
      | .mp id=>match mG c.hp id with
       |some (.pm vt M us)=>match TT k with
        |some n=>adA C.A vt M n (fun p v=>bif p then yK c ok v aj else yK c ok z ag) us |none=>.fail
       |_=>.fail
      |_=>.fail
     else .fail
    | .int kk,ae z=>
     match m with
     | .vC=>match yJ k with
      |some (j,_,_)=>bif j==kk then yK c ok z ag else .fail |none=>.fail
     | .mp id=>match mG c.hp id with
      |some (.map es)=>match k with
       | .int j n=>bif j==kk then match I5 kk n es with
        |some (ae v)=>yK c ok v aj |some aq=>yK c ok z ag |none=>.fail
        else .fail
       | .sym j n=>bif j==kk then NT C.A kk n z (yK c ok) es else .fail |_=>.fail
      |some (.fm fk _ fs us _)=>match yJ k with
       |some (j,n,_)=>bif j==kk&&fk==kk then findF C.A n (fun p v=>bif p then yK c ok v aj else yK c ok z ag) (us++fs) else .fail |none=>.fail
      |_=>.fail
     |_=>.fail
    |_,_=>.fail
   |_,_=>.fail
  |_=>.fail
 |none=>.fail
def ED(C:Ctx)(c:Core)(t:Nat)(m k v:SV):Tree (SV×Core):=
 match C.ty t with
 |some ti=>match ti.ty with
  | .map kt _=>match C.ty kt with
   |some UD=>match UD.ty,m,k with
    | .int kk,.mp id,.int k n=>match mG c.hp id with
     |some (.map es)=>bif kk==k then match NU k n v es with
      |some es=>ret {c with hp:=hset c.hp id (.map es),tc:=id::c.tc} .any
      |none=>.fail
      else .fail
     |_=>.fail
    | .struct _,.mp id,k=>match mG c.hp id with
     |some (.pm vt M us)=>match TT k with
      |some n=>bif C.Uy.contains kt&&v.one&&v.XV vt then ret {c with hp:=hset c.hp id (.pm vt M ((n,aj,v)::us)),tc:=id::c.tc} .any else .fail
      |none=>.fail
     |_=>.fail
    |_,_,_=>.fail
   |none=>.fail
  |_=>.fail
 |none=>.fail
def E5(C:Ctx)(c:Core)(t:Nat)(m k:SV):Tree (SV×Core):=
 match C.ty t with
 |some ti=>match ti.ty with
  | .map kt e=>match C.ty kt,C.ty e with
   |some UD,ae te=>match UD.ty,pack te.ty.isAgg te.zero,m,yJ k with
    | .int kk,ae z,.mp id,ae (j,n,_)=>match mG c.hp id with
     |some (.fm fk M fs us _)=>bif j==kk&&fk==kk&&z.one&&bT c.nx c.lim then
       findF C.A n (fun p v=>ret {c with hp:=hset c.hp id (.fm fk M fs ((n,aj,bif p then v else z)::us) (ae (c.nx,n))),nx:=c.nx+1,tc:=id::c.tc} (.mV [bif p then v else z,.ev c.nx])) (us++fs)
      else .fail
     |_=>.fail
    |_,_,_,_=>.fail
   |_,_=>.fail
  |_=>.fail
 |none=>.fail
def BX(c:Core)(m s v:SV):Tree (SV×Core):=
 match m,s with
 | .mp id,.ev s=>match mG c.hp id with
  |some (.fm fk M fs us (ae (s',n)))=>bif s==s'&&v.one then ret {c with hp:=hset c.hp id (.fm fk M fs ((n,aj,v)::us) (ae (s',n))),tc:=id::c.tc} .any else .fail
  |_=>.fail
 |_,_=>.fail
def I8(C:Ctx)(c:Core)(t:Nat)(m k:SV):Tree (SV×Core):=
 match C.ty t with
 |some ti=>match ti.ty with
  | .map kt _=>match C.ty kt with
   |some UD=>match UD.ty,m,yJ k with
    | .int kk,.mp id,ae (j,n,_)=>match mG c.hp id with
     |some (.fm fk M fs us _)=>bif j==kk&&fk==kk then ret {c with hp:=hset c.hp id (.fm fk M fs ((n,ag,.any)::us) aq),tc:=id::c.tc} .any else .fail
     |_=>.fail
    |_,_,_=>.fail
   |none=>.fail
  |_=>.fail
 |none=>.fail
def spread(c:Core)(F:List Sh->Tree Sh)(args:List SV):Tree (SV×Core):=
 match freeze c.hp (zM args) with
 |none=>.fail |some hp=>match xX hp args with
  |none=>.fail |some nV=>(F nV).bind fun r=>bif cm (pY r c.nx).2.2 c.lim then ret {c with hp:=qK hp (pY r c.nx).2.1,nx:=(pY r c.nx).2.2} (pY r c.nx).1 else .fail
mutual
def yL:Sh->Bool
 | .i _ _=>aj | .b _=>aj | .str _=>aj | .v _=>aj | .agg l=>FV l | .mV l=>FV l |_=>ag
def FV:List Sh->Bool
 |[]=>aj |x::r=>yL x&&FV r
end
def NV(c:Core)(F:List Sh->Tree Sh)(args:List SV):Tree (SV×Core):=
 match freeze c.hp (zM args) with
 |none=>.fail |some hp=>match xX hp args with
  |none=>.fail |some nV=>(F nV).bind fun r=>bif yL r then ret c (pY r c.nx).1 else .fail
def maxS(A:Prim)(mx:Bool)(x y:SV):Option SV:=
 match yJ x,yJ y with
 |some (k,a,la),ae (l,b,lb)=>bif k==l then
   ae (bif la&&lb then .int k (bif mx then (bif decide (a<b) then b else a) else (bif decide (b<a) then b else a)) else .sym k (bif mx then A.max a b else A.min a b))
  else aq
 |_,_=>aq
def FW:Ty->SV->Bool
 | .str,.str _=>aj | .str,.sh (.str _)=>aj | .slice _,.gs _=>aj | .slice _,.sh (.sl _ _ _)=>aj | .slice _,.nD=>aj | .slice _,.vw _ _=>aj |_,_=>ag
def Qe:SV->Option Int
 | .int .i64 n=>ae n | .sym .i64 n=>ae n |_=>aq
def NW(C:Ctx)(c:Core)(e:Nat):List SV->Tree (SV×Core)
 |[s,i,.gs id']=>match C.ty e with
  |some te=>match DR c.hp te.size s,mG c.hp id' with
   |some (n,g),ae (.row cells e2 st2 m)=>
    bif DT c.hp e s&&e==e2&&st2==te.size&&m==1 && !EC s (.gs id')&&bT 0 te.size&&uP cells then
     match xX c.hp cells,Qe i,EZ C.A i with
     |some l,ae iv,ae k=>.need (C.A.upTo iv n) (.need (C.A.room (C.A.addN n 1) te.bytes) (alloc (pW c s) (.own e te.size (C.A.addN n 1) (C.A.ins g k l)) (.gs c.nx))) |_,_,_=>.fail
    else .fail
   |_,_=>.fail
  |none=>.fail
 |_=>.fail
def J9(C:Ctx)(c:Core)(e:Nat):List SV->Tree (SV×Core)
 |[.nD,i]=>match C.ty e,Qe i,EZ C.A i with
  |some te,ae iv,ae k=>.need (C.A.le 0 iv) (.need (C.A.room k te.bytes) (alloc c (.own e te.size 0 fun _=>[]) (.gs c.nx))) |_,_,_=>.fail
 |_=>.fail
def Ko(C:Ctx)(call:Nat->List SV->Core->Tree (SV×Core))(c:Core)(k:Call):Tree (SV×Core):=
 let ev:=oz c.tm
 match k.callee with
 | .builtin b=>match b,k.args.toList,k.argTypes.toList with
  | .len,[x],[t]=>match C.ty t with
   |some i=>bif FW i.ty (ev x) then BH c (afy C.A c.hp (ev x)) else .fail |none=>.fail
  | .delete,[m,k],t::_=>I8 C c t (ev m) (ev k) | .append,[s,x],[t,u]=>bif t==u then match GR C c t (ev s) (ev x) with
    |some r=>r |none=>I4 C c t (ev s) (ev x)
   else GN C c t u (ev s) (ev x)
  | .max,[x,y],_=>BH c (maxS C.A aj (ev x) (ev y)) | .min,[x,y],_=>BH c (maxS C.A ag (ev x) (ev y)) |_,_,_=>.fail
 | .value f=>match ev f with
  | .fn g cs=>
   let args:=k.args.toList.map ev++cs
   match C.ins g with
   |some e=>NW C c e args |none=>match C.grow g with
   |some e=>J9 C c e args |none=>match C.spec g with
   |some F=>bif C.lend g then NV c F args else spread c F args |none=>call g args c
  |_=>.fail
 |_=>.fail
def LU(C:Ctx)(c:Core)(t:Nat)(x i:SV):Tree (SV×Core):=
 match C.ty t,x,i with
 |some ti,.str l,.int _ n=>match ti.ty with
  | .str=>bif decide (0<=n) then BH c (l[n.toNat]?.map fun b=>.int .u8 (b.toNat:Int)) else .fail |_=>.fail
 |_,_,_=>.fail
def GV(C:Ctx)(call:Nat->List SV->Core->Tree (SV×Core))(c:Core)(o:Oper):Tree (SV×Core):=
 let ev:=oz c.tm
 match o.op with
 | .move x=>ret c (ev x) | .assign x=>ret c (ev x) | .pick x a b=>BH c (adx C.A (ev x) (ev a) (ev b)) | .alloc e=>LG C c e | .box e x=>bif (ev x).okc then alloc c (.box (ev x).cells e) (.ptr c.nx 0) else .fail | .build t parts=>LH C c t parts.toList | .buildSlice t n parts=>BU C c t n parts.toList | .load t x=>Qc C c t (ev x) | .store t x v=>LJ C c t (ev x) (ev v) | .nilCheck x=>UA c (ev x) | .binOp op t x y _=>Uz C c op t x y (isConst x||isConst y) | .unOp .not _ x=>BH c (notS C.A (ev x)) | .unOp .neg _ x=>BH c (negS C.A (ev x)) | .fieldAddr t x f=>DK C c t f (ev x) | .field t x f=>LM C c t f (ev x) | .indexAddr t x i=>DL C c t (ev x) (ev i) | .extract x i=>GK c (ev x) i | .makeFunc (.func f) fs cs=>bif fs.size==0 then ret c (.fn f (cs.toList.map ev)) else .fail | .makeInterface t x=>match C.ty t with
  |some i=>match i.ty with
   | .iface=>.fail | .other=>.fail |_=>ret c (.pV t (ev x))
  |none=>.fail
 | .makeMap t aq=>GU C c t | .makeSlice t l k=>DN C c t (ev l) (ev k) (match l,k with| .tmp i,.tmp j=>i==j|_,_=>ag)
 | .slice t x lo hi aq=>LQ C c t (ev x) (lo.map ev) (hi.map ev) | .lookup t m k ok=>I7 C c t (ev m) (ev k) ok | .insert t m k v=>ED C c t (ev m) (ev k) (ev v) | .mapUpdate t m k v=>ED C c t (ev m) (ev k) (ev v) | .mapEntry t m k=>E5 C c t (ev m) (ev k) | .entryStore _ m s v=>BX c (ev m) (ev s) (ev v) | .call k=>Ko C call c k | .convert t u x=>Qd C c t u (ev x) | .index t x i=>LU C c t (ev x) (ev i) |_=>.fail
mutual
def SV.hard:SV->SV
 | .sym k n=>.int k n | .test b=>.bool b | .agg l=>.agg (Y7 l) | .mV l=>.mV (Y7 l) |x=>x
def Y7:List SV->List SV
 |[]=>[] |x::r=>x.hard::Y7 r
end
def exec(C:Ctx)(call:Nat->List SV->Core->Tree (SV×Core))(c:Core)(o:Oper):Tree (SV×Core):=
 bif C.lits then (GV C call c o).bind fun p=>.leaf (p.1.hard,p.2) else GV C call c o
mutual
def refs:SV->List Nat
 | .gs id=>[id] | .ptr id _=>[id] | .gp id _ _ _=>[id] | .mp id=>[id] | .agg l=>E8 l | .mV l=>E8 l | .fn _ l=>E8 l | .pV _ x=>refs x |_=>[]
def E8:List SV->List Nat
 |[]=>[] |x::r=>refs x++E8 r
end
def aiv:List (SV×SV)->List Nat
 |[]=>[] |(a,b)::r=>refs a++refs b++aiv r
def adB:List (Int×Bool×SV)->List Nat
 |[]=>[] |(_,_,b)::r=>refs b++adB r
def aiw:List ((Int×List UInt8)×Bool×SV)->List Nat
 |[]=>[] |(_,_,b)::r=>refs b++aiw r
def aix:SB->List Nat
 | .box l _=>E8 l | .row l _ _ _=>E8 l | .map es=>aiv es | .wK _ _ _ _ l=>E8 l | .fm _ _ fs us _=>adB fs++adB us | .pm _ _ us=>aiw us |_=>[]
def reach(hp:List (Nat×SB)):Nat->List Nat->List Nat->List Nat
 |0,_,seen=>seen |_,[],seen=>seen |n+1,i::r,seen=>bif seen.contains i then reach hp n r seen else match mG hp i with
  |some b=>reach hp n (aix b++r) (i::seen) |none=>reach hp n r (i::seen)
def CX(hp:List (Nat×SB)):List Nat->List Nat
 |[]=>[] |i::r=>match mG hp i with
  |some b=>aix b++CX hp r |none=>CX hp r
def dropKey(p:Nat->Bool):List (Nat×SB)->List (Nat×SB)
 |[]=>[] |(i,b)::r=>bif p i then dropKey p r else (i,b)::dropKey p r
def gc(nx lim:Nat)(v:SV)(c:Core):List (Nat×SB):=
 let live:=reach c.hp 4000 (refs v++CX c.hp c.tc) []
 dropKey (fun i=>cm nx i&&bT i lim && !live.contains i) c.hp
def IB(tm:List SV)(dst:Option Nat)(v:SV):List SV:=
 match dst with
 |some d=>tm.set d v |none=>tm
def Core.put(c:Core)(dst:Option Nat)(v:SV):Core:={c with tm:=IB c.tm dst v}
def opAt(l:List Oper)(i:Nat):Option Oper:=l[i]?
inductive Want where
 |yes|no|ask (slot:Nat) (b want:Bool) |lost
def EF(ops:List Oper)(tm:List SV)(o:Oper):Want:=
 match o.guard with
 |none=>.yes |some (j,b)=>match (opAt ops j).bind (·.dst) with
  |some d=>match tm.getD d .any with
   | .bool c=>bif c==b then .yes else .no | .test c=>.ask d c b | .mV _=>.no |_=>.lost
  |none=>.lost
def Y8(ops:List Oper)(i:Nat):SV:=
 bif ops.any (fun o=>match o.guard with|some (j,_)=>bA j i|none=>ag) then .mV [] else .any
def aaG(C:Ctx)(call:Nat->List SV->Core->Tree (SV×Core))(c:Core)(o:Oper):Tree Core:=
 (exec C call c o).bind fun p=>.leaf (p.2.put o.dst p.1)
def TU(C:Ctx)(call:Nat->List SV->Core->Tree (SV×Core))(ops:List Oper)(c:Core)(i:Nat):Tree Core:=
 match opAt ops i with
 |none=>.leaf c |some o=>match EF ops c.tm o with
  | .yes=>aaG C call c o | .no=>.leaf (c.put o.dst (Y8 ops i)) | .ask d t b=>.node t
    (let c':=c.put (ae d) (.bool aj);bif b then aaG C call c' o else .leaf (c'.put o.dst (Y8 ops i)))
    (let c':=c.put (ae d) (.bool ag);bif b then .leaf (c'.put o.dst (Y8 ops i)) else aaG C call c' o)
  | .lost=>.fail
def qw:Op->Bool
 | .move _| .assign _| .pick .. | .load .. | .nilCheck _| .binOp .. | .unOp .. | .fieldAddr .. | .field .. | .indexAddr .. | .index .. | .extract .. | .makeFunc .. | .makeInterface .. | .build .. | .lookup ..=>aj | .call {callee:=.builtin .len,..} | .call {callee:=.builtin .max,..} | .call {callee:=.builtin .min,..}=>aj |_=>ag
def CY(hp:List (Nat×SB))(Xp:List Nat):List (Nat×SB):=
 match hp with
 |[]=>[] |(j,x)::l=>bif Xp.contains j then CY l Xp else (j,x)::CY l Xp
def Am:SV->Bool
 | .sh (.er _ _)=>aj |_=>ag
def CZ(tm:List SV):Op->Bool
 | .load .. | .lookup ..=>ag | .binOp _ _ x y _=>!(Am (oz tm x)&&Am (oz tm y)) |o=>qw o
def FX(o:Oper):List Nat:=(o.after.toList.filter (dW .any)).map (·.on)
def FY(all:List Bool):List Oper->Nat->List Bool->List Nat
 |o::r,i,b::l=>bif !b&&(FX o).all (fun j=>all.getD j ag) then i::FY all r (i+1) l else FY all r (i+1) l |_,_,_=>[]
def Y9(ops:Array Oper)(listed:Array Bool):List Nat:=FY listed.toList ops.toList 0 listed.toList
def NY(ops:Array Oper)(oi:Oper)(i:Nat):List Oper->Nat->List Bool->Bool
 |o::r,j,b::l=>(bA j i||b||(FX o).contains i||oi.apart ops o)&&NY ops oi i r (j+1) l |_,_,_=>aj
def Za(ops:Array Oper)(listed:Array Bool)(i:Nat):Bool:=
 match opAt ops.toList i with
 |none=>ag |some oi=>NY ops oi i ops.toList 0 listed.toList
theorem aaH{l:List Nat}{p q:Nat->Bool}(h:∀j,j∈l->p j=q j):l.all p=l.all q:=by
 grind
theorem Rx(all:List Bool):∀(ops:List Oper) (k:Nat) (l:List Bool),(∀i,l.getD i aj=all.getD (k+i) aj)->
  FY all ops k l=(dJ k ops.length).filter fun i=>!all.getD i aj&&((ops[i - k]?).map (·.after.all fun e=>!Region.binds .any e||all.getD e.on ag)).getD ag
 |[],k,l,_=>by rfl |o::r,k,[],h=>by
  have h2:∀i,all.getD (k+i) aj=aj:=fun i=>by simp_all
  simp only[FY];symm
  rw[List.filter_eq_nil_iff];intro i hi;have:=iZ.1 hi;have e:=h2 (i - k);simp_all
 |o::r,k,b::l,h=>by
  have h0:=h 0;simp only[ix,d9] at h0;have ih:=Rx all r (k+1) l (fun i=>by have:=h (i+1);grind);have he:(FX o).all (fun j=>all.getD j ag)=o.after.all fun e=>!Region.binds .any e||all.getD e.on ag:=by
   rw[<-Array.all_toList];unfold FX;simp
  have ht:(dJ (k+1) r.length).filter (fun i=>!all.getD i aj&&((r[i - (k+1)]?).map (·.after.all fun e=>!Region.binds .any e||all.getD e.on ag)).getD ag) =
    (dJ (k+1) r.length).filter (fun i=>!all.getD i aj&&(((o::r)[i - k]?).map (·.after.all fun e=>!Region.binds .any e||all.getD e.on ag)).getD ag):=by
   refine List.filter_congr fun i hi=>?_
   grind
  simp only[FY,cZ,jn,List.filter_cons,ih,ht,he,h0,Nat.sub_self,List.getElem?_cons_zero,Option.map_some,Option.getD_some];simp
theorem agO{listed:Array Bool}(i:Nat)(d:Bool):listed.getD i d=listed.toList.getD i d:=by
 simp
theorem adC(ops:Array Oper)(listed:Array Bool):Y9 ops listed=du .any ops listed:=by
 unfold Y9 du;rw[Rx listed.toList ops.toList 0 listed.toList (fun i=>by simp),bD,ib];simp
theorem UE(ops:Array Oper)(oi:Oper)(i:Nat)(all:List Bool):∀(r:List Oper) (k:Nat) (l:List Bool),(∀j,l.getD j aj=all.getD (k+j) aj)->
  NY ops oi i r k l=(dJ k r.length).all fun j=>j==i||all.getD j aj||match r[j - k]? with
   |some oj=>oj.after.any (fun e=>dW .any e&&e.on==i)||oi.apart ops oj |none=>aj
 |[],k,l,_=>by rfl |o::r,k,[],h=>by
  have h2:∀i,all.getD (k+i) aj=aj:=fun i=>by simp_all
  simp only[NY];symm
  rw[List.all_eq_true];intro j hj;have:=iZ.1 hj;have e:=h2 (j - k);simp_all
 |o::r,k,b::l,h=>by
  have h0:=h 0;simp only[ix,d9] at h0;have ih:=UE ops oi i all r (k+1) l (fun i=>by have:=h (i+1);grind);have he:(FX o).contains i=o.after.any fun e=>dW .any e&&e.on==i:=by
   rw[<-Array.any_toList];unfold FX;grind
  have ht:(dJ (k+1) r.length).all (fun j=>j==i||all.getD j aj||match r[j - (k+1)]? with
     |some oj=>oj.after.any (fun e=>dW .any e&&e.on==i)||oi.apart ops oj |none=>aj) =
    (dJ (k+1) r.length).all (fun j=>j==i||all.getD j aj||match (o::r)[j - k]? with
     |some oj=>oj.after.any (fun e=>dW .any e&&e.on==i)||oi.apart ops oj |none=>aj):=by
   refine aaH fun j hj=>?_
   grind
  have hb:bA k i=(k==i):=rfl;simp only[NY,cZ,jn,List.all_cons];grind
theorem XW(ops:Array Oper)(listed:Array Bool)(i:Nat):Za ops listed i=fI .any ops listed i:=by
 have hop:opAt ops.toList i=ops[i]?:=by simp[opAt]
 unfold Za fI;rw[hop];cases ops[i]? with
 |none=>rfl |some oi=>
  simp only;rw[UE ops oi i listed.toList ops.toList 0 listed.toList (fun i=>by simp),bD,ib];grind [agO]
inductive Quiet where
 |take (i:Nat) (needs:List Bool) (v v0:SV)
 |ask (slot:Nat) (b:Bool)
 |no
def Zb:Nat->List SV->Core->Tree (SV×Core):=fun _ _ _=>.fail
def Zc:Option (List Bool×SV)->Option (List Bool×SV)
 |some (_,.any)=>aq |r=>r
def rO:Tree (SV×Core)->List Bool->Option (List Bool×SV)
 | .leaf p,bs=>ae (bs,p.1) | .need b t,bs=>rO t (b::bs) |_,_=>aq
def Kq(C:Ctx)(ou:Array Oper)(lock:List (Nat×SB))(listed:Array Bool)(xJ:List SV)(c:Core)(i:Nat):Quiet:=
 match opAt ou.toList i with
 |none=>.no |some o=>match EF ou.toList c.tm o with
  | .ask d t _=>.ask d t | .no=>bif Za ou listed i then .take i [] (Y8 ou.toList i) (Y8 ou.toList i) else .no | .yes=>bif qw o.op&&Za ou listed i then
    match Zc (rO (exec C Zb {c with tm:=xJ,hp:=lock} o) []) with
    |some (bs,v)=>.take i bs v v |none=>bif CZ c.tm o.op then match rO (exec C Zb c o) [] with
     |some (bs,v)=>.take i bs v .any |none=>.no
     else .no
   else .no
  | .lost=>.no
def NZ(C:Ctx)(ou:Array Oper)(lock:List (Nat×SB))(listed:Array Bool)(xJ:List SV)(c:Core):List Nat->Quiet
 |[]=>.no |i::r=>match Kq C ou lock listed xJ c i with
  | .no=>NZ C ou lock listed xJ c r |q=>q
def needs{α:Type}(t:Tree α):List Bool->Tree α
 |[]=>t |b::r=>.need b (needs t r)
def allOf{α:Type}(f:Nat->Tree α):List Nat->Tree α
 |[]=>.fail |[i]=>f i |i::r=>.both (f i) (allOf f r)
def disjoint(l:List Nat)(hp:List (Nat×SB)):Bool:=l.all fun i=>(mG hp i).isNone
def zO(c:Core)(n:Nat):Nat:=Nat.min 1048576 ((c.lim - c.nx) / (n+1))
def explore(C:Ctx)(call:Nat->List SV->Core->Tree (SV×Core))(base step:Nat)(ou:Array Oper)(lock:List (Nat×SB)):
  Nat->Array Bool->List SV->Core->Tree Core
 |0,_,_,_=>.fail |n+1,listed,xJ,c=>
  match Y9 ou listed with
  |[]=>.leaf c |rs=>match NZ C ou lock listed xJ c rs with
   | .take i bs v v0=>let d:=(opAt ou.toList i).bind (·.dst)
    needs (explore C call base step ou lock n (listed.setIfInBounds i aj) (IB xJ d v0) (c.put d v)) bs
   | .ask d t=>.node t (explore C call base step ou lock n listed (xJ.set d (.bool aj)) (c.put (ae d) (.bool aj))) (explore C call base step ou lock n listed (xJ.set d (.bool ag)) (c.put (ae d) (.bool ag))) | .no=>allOf (fun i=>(TU C call ou.toList {c with tc:=[],nx:=base+step*i,lim:=base+step*(i+1)} i).bind fun c'=>
     bif disjoint c'.tc lock then explore C call base step ou lock n (listed.setIfInBounds i aj) (IB xJ ((opAt ou.toList i).bind (·.dst)) .any) {c' with tc:=c'.tc++c.tc,nx:=c.nx,lim:=c.lim} else .fail) rs
def uq(a b:Option (List oC)):Option (List oC):=
 match a,b with
 |some x,ae y=>ae (x++y) |_,_=>aq
def qc(c:Bool)(a:Option (List oC)):Option (List oC):=bif c then a else aq
def aiy:Sh->Sh->Option (List oC)
 | .er g t,.er h u=>qc (g==h&&t==u) (ae []) |s,s'=>ae [.sh s s']
mutual
def Ry:SV->SV->Option (List oC)
 | .any,.any=>ae [] | .int k n,.int l m=>qc (k==l&&n==m) (ae []) | .sym k n,.sym l m=>qc (k==l) (ae [.int n m]) | .bool a,.bool b=>qc (a==b) (ae []) | .test a,.test b=>ae [.bool a b] | .str a,.str b=>qc (a==b) (ae []) | .val v,.val u=>ae [.val v u] | .ptr a b,.ptr c d=>qc (a==c&&b==d) (ae []) | .gs a,.gs b=>qc (a==b) (ae []) | .gp a st i o,.gp a' st' i' o'=>qc (a==a'&&st==st'&&o==o') (ae [.nat i i']) | .wV st n g i o,.wV st' n' g' i' o'=>qc (st==st'&&o==o') (ae [.nat n n',.Ez g g',.nat i i']) | .uj,.uj=>ae [] | .nD,.nD=>ae [] | .wC,.wC=>ae [] | .qP,.qP=>ae [] | .vC,.vC=>ae [] | .fn f l,.fn g m=>qc (f==g) (BZ l m) | .agg l,.agg m=>BZ l m | .mV l,.mV m=>BZ l m | .pV t x,.pV u y=>qc (t==u) (Ry x y) | .mp a,.mp b=>qc (a==b) (ae []) | .glob a,.glob b=>qc (a==b) (ae []) | .ev a,.ev b=>qc (a==b) (ae []) | .sh s,.sh u=>aiy s u |_,_=>aq
def BZ:List SV->List SV->Option (List oC)
 |[],[]=>ae [] |x::l,y::m=>uq (Ry x y) (BZ l m) |_,_=>aq
end
def Qg:List (SV×SV)->List (SV×SV)->Option (List oC)
 |[],[]=>ae [] |(a,b)::l,(c,d)::m=>uq (Ry a c) (uq (Ry b d) (Qg l m)) |_,_=>aq
def UF:List (Int×Bool×SV)->List (Int×Bool×SV)->Option (List oC)
 |[],[]=>ae [] |(a,p,b)::l,(c,q,d)::m=>qc (p==q) (uq (ae [.int a c]) (uq (Ry b d) (UF l m))) |_,_=>aq
def XY:List ((Int×List UInt8)×Bool×SV)->List ((Int×List UInt8)×Bool×SV)->Option (List oC)
 |[],[]=>ae [] |((a,s),p,b)::l,((c,t),q,d)::m=>qc (p==q) (uq (ae [.int a c,.str s t]) (uq (Ry b d) (XY l m))) |_,_=>aq
def adD:Option (Nat×Int)->Option (Nat×Int)->Option (List oC)
 |none,aq=>ae [] |some (a,n),ae (b,m)=>qc (a==b) (ae [.int n m]) |_,_=>aq
def aiz:SB->SB->Option (List oC)
 | .box l e,.box m f=>qc (e==f) (BZ l m) | .row l e s n,.row m f t k=>qc (e==f&&s==t&&n==k) (BZ l m) | .own e s n g,.own f t m h=>qc (e==f&&s==t) (ae [.nat n m,.Ez g h]) | .fz s n g,.fz t m h=>qc (s==t) (ae [.nat n m,.Ez g h]) | .map l,.map m=>Qg l m | .IQ l,.IQ m=>ae [.sh (.pt l) (.pt m)] | .wK e s n g x,.wK f t m h y=>qc (e==f&&s==t) (uq (ae [.nat n m,.Ez g h]) (BZ x y)) | .buf e l,.buf f m=>qc (e==f) (ae [.str l m]) | .fm k M fs us tg,.fm l N gs vs th=>qc (k==l) (uq (ae [.mp M N]) (uq (UF fs gs) (uq (UF us vs) (adD tg th)))) | .pm vt M us,.pm wt N vs=>qc (vt==wt) (uq (ae [.mg M N]) (XY us vs)) |_,_=>aq
def XZ:List (Nat×SB)->List (Nat×SB)->Option (List oC)
 |[],[]=>ae [] |(i,a)::l,(j,b)::m=>qc (i==j) (uq (aiz a b) (XZ l m)) |_,_=>aq
def Zd(a b:Core):Option (List oC):=qc (a.nx==b.nx&&a.lim==b.lim&&a.tc==b.tc) (uq (BZ a.tm b.tm) (XZ a.hp b.hp))
def aaI(i:Nat):List Nat->List Nat
 |[]=>[i] |j::l=>bif i==j then j::l else bif bT i j then i::j::l else j::aaI i l
def I9:List Nat->List Nat
 |[]=>[] |i::l=>aaI i (I9 l)
inductive Ob where
 |b (x:Bool)
 |e (l:List oC)
def strip{α:Type}:Tree α->Option (List Ob×α)
 | .leaf a=>ae ([],a) | .need b t=>(strip t).map fun p=>(.b b::p.1,p.2) | .must l t=>(strip t).map fun p=>(.e l::p.1,p.2) |_=>aq
def wrap{α:Type}(t:Tree α):List Ob->Tree α
 |[]=>t | .b x::r=>.need x (wrap t r) | .e l::r=>.must l (wrap t r)
def Qh{α:Type}(l:List oC)(t:Tree α):Tree α:=
 match l with
 |[]=>t |l=>.must l t
def TV(t f:Tree Core):Tree Core:=
 match strip t,strip f with
 |some (o,a),ae (q,b)=>match Zd a b with
  |some l=>wrap (Qh l (.leaf a)) (o++q) |none=>.both t f
 |_,_=>.both t f
def merge:Tree Core->Tree Core
 | .both t f=>TV (merge t) (merge f) | .node b t f=>.node b (merge t) (merge f) | .need b t=>.need b (merge t) | .must l t=>.must l (merge t) |t=>t
def TW:Nat->List SV->List SV
 |_,[]=>[] |m,x::l=>(bif bA (m % 2) 1 then x else .any)::TW (m / 2) l
def DU(C:Ctx)(g:Nat)(tm:List SV):List SV:=
 match C.live.get g with
 |some m=>TW m tm |none=>tm
def Kr:SV->List Nat
 | .ptr id _=>[id] | .gp id _ _ _=>[id] | .gs id=>[id] | .mp id=>[id] |_=>[]
def touches(c:Core):Op->List Nat
 | .store _ x _=>Kr (oz c.tm x) | .insert _ x _ _=>Kr (oz c.tm x) | .mapUpdate _ x _ _=>Kr (oz c.tm x) | .mapEntry _ x _=>Kr (oz c.tm x) | .entryStore _ x _ _=>Kr (oz c.tm x) | .call k=>match k.callee with
  | .value f=>reach c.hp 4000 (refs (oz c.tm f)++E8 (k.args.toList.map (oz c.tm))) [] | .builtin .append=>E8 (k.args.toList.map (oz c.tm)) | .builtin .delete=>E8 (k.args.toList.map (oz c.tm)) |_=>[]
 | .slice _ x _ _ _=>Kr (oz c.tm x) |_=>[]
def Qi(C:Ctx):List Oper->Core->List Nat->List Nat
 |[],_,acc=>acc |o::r,c,acc=>Qi C r (c.put o.dst (bif qw o.op then match rO (exec C Zb c o) [] with
   |some (_,v)=>v |none=>.any
  else .any)) (touches c o.op++acc)
def drawn(C:Ctx)(call:Nat->List SV->Core->Tree (SV×Core))(g:Nat)(ou:Array Oper)(c:Core):Tree Core:=
 let lock:=CY c.hp (Qi C ou.toList c [])
 bif cm (c.nx+zO c ou.size*ou.size) c.lim&&Region.noSelect ou then
  merge ((explore C call c.nx (zO c ou.size) ou lock (2*ou.size+1) (Array.replicate ou.size ag) c.tm {c with nx:=0,lim:=0}).bind fun c'=>.leaf {tm:=DU C g c'.tm,hp:=c'.hp,nx:=c.nx+zO c ou.size*ou.size,lim:=c.lim,tc:=I9 c'.tc})
 else .fail
inductive It where
 |code (p:List Nat)
 |inBlock (id:Nat)
 |reg (p:List Nat) (l:List Nat)
 |Qj
inductive Out where
 |done (v:SV) (c:Core)
 |stop (fn:Nat) (todo:List It) (c:Core)
def child:Code->Nat->Code
 | .seq a _,0=>a | .seq _ b,_=>b | .cond _ a _,0=>a | .cond _ _ b,_=>b | .block _ b,_=>b | .loop b,_=>b | .rangeFunc _ _ a _,0=>a | .rangeFunc _ _ _ b,_=>b |_,_=>.skip
def nP(c:Code):List Nat->Code
 |[]=>c |i::p=>child (nP c p) i
def yw(id:Nat):List It->Option (List It)
 | .inBlock j::k=>bif j==id then ae k else yw id k |_::k=>yw id k |[]=>aq
def UG(C:Ctx)(c:Core):List ResultVar->Option (List SV)
 |[]=>ae [] | .tmp t::r=>match c.tm[t]?,UG C c r with
  |some v,ae l=>ae (v::l) |_,_=>aq
 | .cell a t::r=>match C.ty t,UG C c r with
  |some i,ae l=>(Y6 C c i.ty.isAgg i.size (c.tm.getD a .any)).map fun v=>v::l |_,_=>aq
def result(C:Ctx)(fn:Func)(c:Core):Tree Out:=
 match UG C c fn.results.toList with
 |some [v]=>.leaf (.done v c) |some l=>.leaf (.done (.mV l) c) |none=>.fail
def mX(fn:Func):Code:=match fn.body with|some b=>b|none=>.skip
def agP(c:Core):Out->Tree (SV×Core)
 | .done v c'=>.leaf (v,{tm:=c.tm,hp:=gc c.nx c.lim v c',nx:=c'.nx,lim:=c'.lim,tc:=c'.tc}) | .stop _ _ _=>.fail
def Dt(C:Ctx)(run:Nat->List It->Core->Tree Out)(g:Nat)(args:List SV)(c:Core):Tree (SV×Core):=
 match C.fns.get g with
 |none=>.fail |some fn=>bif cm args.length fn.ntmps&&fn.body.isSome then
   (run g [.code []] {tm:=args++bp (fn.ntmps - args.length) .any,hp:=c.hp,nx:=c.nx,lim:=c.lim,tc:=c.tc}).bind (agP c)
  else .fail
def N7:Operand->Option Nat
 | .tmp t=>ae t |_=>aq
inductive Sig where
 |go (td:List It) (c:Core)
 |done (v:SV) (c:Core)
 |halt (td:List It) (c:Core)
def Ze:Out->Tree Sig
 | .done v c=>.leaf (.done v c) | .stop _ td c=>.leaf (.halt td c)
def Ja(C:Ctx)(call:Nat->List SV->Core->Tree (SV×Core))(top:Bool)(g:Nat)(fn:Func)(td:List It)(c:Core):Tree Sig:=
 match td with
 |[]=>(result C fn c).bind Ze | .inBlock _::k=>.leaf (.go k c) | .Qj::_=>.fail | .reg _ []::k=>.leaf (.go k {c with tm:=DU C g c.tm})
 | .reg p (i::r)::k=>match nP (mX fn) p with
  | .region _ ops _=>(TU C call ops.toList c i).bind fun c=>.leaf (.go (.reg p r::k) c) |_=>.fail
 | .code p::k=>match nP (mX fn) p with
  | .skip=>.leaf (.go k c) | .ret=>(result C fn c).bind Ze | .seq _ _=>.leaf (.go (.code (0::p)::.code (1::p)::k) c) | .block id _=>.leaf (.go (.code (0::p)::.inBlock id::k) c) | .loop _=>bif C.Dq g p then .leaf (.halt td c) else .leaf (.go (.code (0::p)::.code p::k) c) | .exit id=>match yw id k with
   |some k=>.leaf (.go k c) |none=>.fail
  | .cond x _ _=>match oz c.tm x with
   | .bool aj=>.leaf (.go (.code (0::p)::k) c) | .bool ag=>.leaf (.go (.code (1::p)::k) c) | .test b=>let d:=N7 x
    .node b (.leaf (.go (.code (0::p)::k) (c.put d (.bool aj)))) (.leaf (.go (.code (1::p)::k) (c.put d (.bool ag))))
   |_=>.fail
  | .region _ ops dr=>bif dr then
    let t:=drawn C call g ops c
    bif top && !t.lone then t.bind fun c=>.leaf (.halt k c) else t.bind fun c=>.leaf (.go k c)
   else .leaf (.go (.reg p (aE ops.size)::k) c)
  |_=>.fail
def run(C:Ctx):Nat->Bool->Nat->List It->Core->Tree Out
 |0,_,g,td,c=>.leaf (.stop g td c) |n+1,top,g,td,c=>
  match C.fns.get g with
  |none=>.fail |some fn=>(Ja C (Dt C (run C n ag)) top g fn td c).bind fun s=>match s with
   | .go td c=>run C n top g td c | .done v c=>.leaf (.done v c) | .halt td c=>.leaf (.stop g td c)
open Go.RowKit (Below)
abbrev Mem:=Nat->Option Obj
def Mem.le(H H':Mem):Prop:=∀b o,H b=ae o->H' b=ae o
def Mem.on(H:Mem)(w:World):Prop:=∀b o,H b=ae o->w.heap[b]?=ae o
def hcell(H:Mem)(b off:Nat):Option Value:=
 match H b with
 |some (.cells c _ _)=>c[off]? |_=>aq
theorem Ar{H H':Mem}(h:H.le H'){b off:Nat}{v:Value}(hc:hcell H b off=ae v):hcell H' b off=ae v:=by
 unfold hcell at *;cases hb:H b with
 |none=>grind |some o=>rw[h b o hb];simp_all
theorem Du{H:Mem}{w:World}(h:H.on w){b off:Nat}{v:Value}(hc:hcell H b off=ae v):w.cell? ⟨b,off,aq⟩=ae v:=by
 unfold hcell at hc;cases hb:H b with
 |none=>grind |some o=>
  rw[hb] at hc;have:=h b o hb;grind [fJ]
inductive Rep(H:Mem):Sh->Value->Prop
 |i (k:IntKind) (n:Int):Rep H (.i k n) (.int k n)
 |b (x:Bool):Rep H (.b x) (.bool x)
 |str (l:List UInt8):Rep H (.str l) (.string ⟨l.toArray⟩)
 |v (x:Value) (h:x.oneCell'=aj):Rep H (.v x) x
 |sl0 (st:Nat) (g:Nat->List Sh) (A:Option Addr) (cap:Nat):cap<=maxLen->Rep H (.sl st 0 g) (.slice A 0 cap)
 |sl (st n:Nat) (g:Nat->List Sh) (b off cap:Nat) (c:Nat->Nat->Value):n<=cap->cap<=maxLen->(∀(i:Nat),i<n->(g i).length=st)->
   (∀(i j:Nat),i<n->j<st->hcell H b (off+i*st+j)=ae (c i j))->(∀(i j:Nat),i<n->j<st->(c i j).oneCell'=aj)->
   (∀(i j:Nat) (s:Sh),i<n->(g i)[j]?=ae s->Rep H s (c i j))->Rep H (.sl st n g) (.slice (ae ⟨b,off,aq⟩) n cap)
 |agg (l:List Sh) (vs:Array Value):vs.size=l.length->(∀(j:Nat) (s:Sh) (v:Value),l[j]?=ae s->vs[j]?=ae v->Rep H s v)->Rep H (.agg l) (.agg vs)
 |mV (l:List Sh) (vs:Array Value):vs.size=l.length->(∀(j:Nat) (s:Sh) (v:Value),l[j]?=ae s->vs[j]?=ae v->Rep H s v)->Rep H (.mV l) (.tuple vs)
 |pV (t:Nat) (x:Sh) (u:Value):Rep H x u->Rep H (.pV t x) (.iface t u)
 |fn (f:Nat) (l:List Sh) (vs:Array Value):vs.size=l.length->(∀(j:Nat) (s:Sh) (v:Value),l[j]?=ae s->vs[j]?=ae v->Rep H s v)->Rep H (.fn f l) (.func (.func f) #[] vs)
 |er (g T:Nat) (b:Addr) (cs:Array Value) (e:Nat):hcell H g 0=ae (.iface T (.pointer (ae b)))->H b.block=ae (.cells cs e (0,0))->
   Rep H (.er g T) (.iface T (.pointer (ae b)))
 |pt (l:List Sh) (b off:Nat) (c:Nat->Value):(∀(j:Nat),j<l.length->hcell H b (off+j)=ae (c j))->(∀(j:Nat),j<l.length->(c j).oneCell'=aj)->(∀(j:Nat) (s:Sh),l[j]?=ae s->Rep H s (c j))->
   Rep H (.pt l) (.pointer (ae ⟨b,off,aq⟩))
theorem Rep.le{H H':Mem}(h:H.le H'){s:Sh}{v:Value}(r:Rep H s v):Rep H' s v:=by
 induction r with
 |i k n=>exact .i k n |b x=>exact .b x |str l=>exact .str l |v x hx=>exact .v x hx |sl0 st g A cap hc=>exact .sl0 st g A cap hc |sl st n g b off cap c h1 h2 h3 h4 h5 _ ih=>exact .sl st n g b off cap c h1 h2 h3 (fun i j hi hj=>Ar h (h4 i j hi hj)) h5 ih |agg l vs hs _ ih=>exact .agg l vs hs ih |mV l vs hs _ ih=>exact .mV l vs hs ih |pV t x u _ ih=>exact .pV t x u ih |fn f l vs hs _ ih=>exact .fn f l vs hs ih |er g T b cs e h1 h2=>exact .er g T b cs e (Ar h h1) (h _ _ h2) |pt l b off c h1 h2 _ ih=>exact .pt l b off c (fun j hj=>Ar h (h1 j hj)) h2 ih
def qQ(H:Mem):List Sh->List Value->Prop
 |[],[]=>True |s::l,v::vs=>Rep H s v/\qQ H l vs |_,_=>False
theorem qQ.le{H H':Mem}(h:H.le H'):∀{l:List Sh} {vs:List Value},qQ H l vs->qQ H' l vs
 |[],[],_=>trivial |_::_,_::_,⟨a,b⟩=>⟨a.le h,qQ.le h b⟩ |[],_::_,h=>h.elim |_::_,[],h=>h.elim
theorem qQ.length{H:Mem}:∀{l:List Sh} {vs:List Value},qQ H l vs->vs.length=l.length
 |[],[],_=>rfl |_::_,_::_,⟨_,b⟩=>by simp[qQ.length b] |[],_::_,h=>h.elim |_::_,[],h=>h.elim
theorem qQ.at_{H:Mem}:∀{l:List Sh} {vs:List Value},qQ H l vs->∀{j:Nat} {s:Sh} {v:Value},l[j]?=ae s->vs[j]?=ae v->Rep H s v
 |_::_,_::_,⟨a,_⟩,0,_,_,h1,h2=>by simp_all |_::_,_::_,⟨_,b⟩,j+1,_,_,h1,h2=>qQ.at_ b (by simpa using h1) (by grind) |[],[],_,_,_,_,h1,_=>by simp at h1 |[],_::_,h,_,_,_,_,_=>h.elim |_::_,[],h,_,_,_,_,_=>h.elim
theorem qQ.Fa{H:Mem}:∀{l:List Sh} {vs:List Value},vs.length=l.length->(∀(j:Nat) (s:Sh) (v:Value),l[j]?=ae s->vs[j]?=ae v->Rep H s v)->qQ H l vs
 |[],[],_,_=>trivial |_::_,_::_,hl,h=>⟨h 0 _ _ rfl rfl,qQ.Fa (by grind) fun j s v h1 h2=>h (j+1) s v (by grind) (by grind)⟩ |[],_::_,h,_=>by simp at h |_::_,[],h,_=>by simp at h
def oW(H:Mem)(st n:Nat)(g:Nat->List Sh)(xs:List Value):Prop:=
 xs.length=n*st/\(∀i,i<n->(g i).length=st)/\(∀u∈xs,u.oneCell'=aj)/\
 ∀(i j:Nat) (s:Sh) (v:Value),i<n->(g i)[j]?=ae s->xs[i*st+j]?=ae v->Rep H s v
theorem oW.le{H H':Mem}(h:H.le H'){st n:Nat}{g:Nat->List Sh}{xs:List Value}(r:oW H st n g xs):oW H' st n g xs:=
 ⟨r.1,r.2.1,r.2.2.1,fun i j s v hi h1 h2=>(r.2.2.2 i j s v hi h1 h2).le h⟩
abbrev Env:=Nat->Option Value
def Env.le(E E':Env):Prop:=∀i v,E i=ae v->E' i=ae v
def mY:Value->Option Nat
 | .pointer (ae ⟨b,0,aq⟩)=>ae b | .slice (ae ⟨b,0,aq⟩) _ _=>ae b | .map (ae b)=>ae b |_=>aq
def lenV:Value->Nat
 | .slice _ n _=>n |_=>0
mutual
def Den(H:Mem)(E:Env):SV->Value->Prop
 | .any,_=>True | .val v,u=>u=v/\v.oneCell'=aj | .int k n,u=>u=.int k n | .sym k n,u=>u=.int k n | .bool b,u=>u=.bool b | .test b,u=>u=.bool b | .str l,u=>u=.string ⟨l.toArray⟩ | .ptr id off,u=>∃b,(E id).bind mY=ae b/\u=.pointer (ae ⟨b,off,aq⟩) | .gs id,u=>E id=ae u/\∃A n c,u=.slice A n c | .gp id st i off,u=>∃b v,E id=ae v/\mY v=ae b/\i<lenV v/\u=.pointer (ae ⟨b,i*st+off,aq⟩) | .uj,u=>u=.pointer aq | .nD,u=>u=.slice aq 0 0 | .wC,u=>u=.nilFunc | .qP,u=>u=.nilIface | .vC,u=>u=.map aq | .fn f l,u=>∃vs:Array Value,u=.func (.func f) #[] vs/\mW H E l vs.toList | .agg l,u=>∃vs:Array Value,u=.agg vs/\mW H E l vs.toList | .mV l,u=>∃vs:Array Value,u=.tuple vs/\mW H E l vs.toList | .pV t x,u=>∃v,u=.iface t v/\Den H E x v | .mp id,u=>∃b,E id=ae (.map (ae b))/\u=.map (ae b) | .sh s,u=>Rep H s u | .wV st n g i off,u=>∃(b o:Nat) (c:Nat->Value),u=.pointer (ae ⟨b,o+off,aq⟩)/\i<n/\(g i).length=st/\
   (∀j,j<st->hcell H b (o+j)=ae (c j)/\(c j).oneCell'=aj)/\∀(j:Nat) (s:Sh),(g i)[j]?=ae s->Rep H s (c j)
 | .glob g,u=>u=.pointer (ae ⟨g,0,aq⟩) | .ev id,u=>E id=ae u | .vw id n,u=>∃A m c,E id=ae (.slice A m c)/\n<=m/\u=.slice A n c
def mW(H:Mem)(E:Env):List SV->List Value->Prop
 |[],[]=>True |s::l,v::vs=>Den H E s v/\mW H E l vs |_,_=>False
end
section
variable{H H':Mem}{E E':Env}
mutual
theorem Den.le(hH:H.le H')(hE:E.le E'):∀{s:SV} {v:Value},Den H E s v->Den H' E' s v
 | .any,_,_=>trivial | .val _,_,h=>h | .int _ _,_,h=>h | .sym _ _,_,h=>h | .bool _,_,h=>h | .test _,_,h=>h | .str _,_,h=>h | .ptr id off,u,⟨b,h1,h2⟩=>⟨b,by
   cases he:E id with
   |none=>grind |some v=>rw[hE _ _ he];simp_all,h2⟩
 | .gs id,u,⟨h,h'⟩=>⟨hE _ _ h,h'⟩ | .gp id st i off,u,⟨b,v,h1,h2⟩=>⟨b,v,hE _ _ h1,h2⟩ | .uj,_,h=>h | .nD,_,h=>h | .wC,_,h=>h | .qP,_,h=>h | .vC,_,h=>h | .fn _ _,_,⟨vs,h1,h2⟩=>⟨vs,h1,mW.le hH hE h2⟩ | .agg _,_,⟨vs,h1,h2⟩=>⟨vs,h1,mW.le hH hE h2⟩ | .mV _,_,⟨vs,h1,h2⟩=>⟨vs,h1,mW.le hH hE h2⟩ | .pV _ _,_,⟨v,h1,h2⟩=>⟨v,h1,Den.le hH hE h2⟩ | .mp id,_,⟨b,h1,h2⟩=>⟨b,hE _ _ h1,h2⟩ | .sh _,_,h=>Rep.le hH h | .wV _ _ _ _ _,_,⟨b,o,c,h1,h2,h3,h4,h5⟩=>⟨b,o,c,h1,h2,h3,fun j hj=>⟨Ar hH (h4 j hj).1,(h4 j hj).2⟩,fun j s hs=>(h5 j s hs).le hH⟩ | .glob _,_,h=>h | .ev _,_,h=>hE _ _ h | .vw _ _,_,⟨A,m,c,h1,h2⟩=>⟨A,m,c,hE _ _ h1,h2⟩
theorem mW.le(hH:H.le H')(hE:E.le E'):∀{l:List SV} {vs:List Value},mW H E l vs->mW H' E' l vs
 |[],[],_=>trivial |_::_,_::_,⟨a,b⟩=>⟨Den.le hH hE a,mW.le hH hE b⟩ |[],_::_,h=>h.elim |_::_,[],h=>h.elim
end
theorem mW.length:∀{l:List SV} {vs:List Value},mW H E l vs->vs.length=l.length
 |[],[],_=>rfl |_::_,_::_,⟨_,b⟩=>by simp[mW.length b] |[],_::_,h=>h.elim |_::_,[],h=>h.elim
theorem mW.at_:∀{l:List SV} {vs:List Value},mW H E l vs->∀{j:Nat} {s:SV} {v:Value},l[j]?=ae s->vs[j]?=ae v->Den H E s v
 |_::_,_::_,⟨a,_⟩,0,_,_,h1,h2=>by simp_all |_::_,_::_,⟨_,b⟩,j+1,_,_,h1,h2=>mW.at_ b (by simpa using h1) (by grind) |[],[],_,_,_,_,h1,_=>by simp at h1 |[],_::_,h,_,_,_,_,_=>h.elim |_::_,[],h,_,_,_,_,_=>h.elim
theorem mW.get:∀{l:List SV} {vs:List Value},mW H E l vs->∀{j:Nat} {s:SV},l[j]?=ae s->∃v,vs[j]?=ae v/\Den H E s v:=by
 intro l vs h j s hs;have hj:j<l.length:=(aT.1 hs).1;have hj':j<vs.length:=by rw[h.length];exact hj
 exact ⟨vs[j],aD hj',h.at_ hs (aD hj')⟩
theorem mW.append:∀{l l':List SV} {vs vs':List Value},mW H E l vs->mW H E l' vs'->mW H E (l++l') (vs++vs')
 |[],_,[],_,_,h'=>h' |_::_,_,_::_,_,⟨a,b⟩,h'=>⟨a,mW.append b h'⟩ |[],_,_::_,_,h,_=>h.elim |_::_,_,[],_,h,_=>h.elim
theorem mW.drop:∀{l:List SV} {vs:List Value},mW H E l vs->∀n,mW H E (l.drop n) (vs.drop n)
 |_,_,h,0=>h |[],[],_,_+1=>trivial |_::_,_::_,⟨_,b⟩,n+1=>mW.drop b n |[],_::_,h,_+1=>h.elim |_::_,[],h,_+1=>h.elim
theorem mW.take:∀{l:List SV} {vs:List Value},mW H E l vs->∀n,mW H E (l.take n) (vs.take n)
 |_,_,_,0=>by simp[mW] |[],[],_,_+1=>trivial |_::_,_::_,⟨a,b⟩,n+1=>⟨a,mW.take b n⟩ |[],_::_,h,_+1=>h.elim |_::_,[],h,_+1=>h.elim
theorem mW.set:∀{l:List SV} {vs:List Value},mW H E l vs->∀(n:Nat) {s:SV} {v:Value},Den H E s v->mW H E (l.set n s) (vs.set n v)
 |[],[],_,_,_,_,_=>trivial |_::_,_::_,⟨_,b⟩,0,_,_,h=>⟨h,b⟩ |_::_,_::_,⟨a,b⟩,n+1,_,_,h=>⟨a,mW.set b n h⟩ |[],_::_,h,_,_,_,_=>h.elim |_::_,[],h,_,_,_,_=>h.elim
theorem mW.any:∀(n:Nat) (vs:List Value),vs.length=n->mW H E (bp n .any) vs
 |0,[],_=>trivial |n+1,_::vs,h=>⟨trivial,mW.any n vs (by simpa using h)⟩ |0,_::_,h=>by simp at h |_+1,[],h=>by simp at h
end
structure Kx where
 w0:World
 own:Nat->Prop
 H0:Mem
def Mine(K:Kx)(H:Mem)(b:Nat):Prop:=H b=aq/\(K.w0.heap.size<=b\/K.own b)
def EG(H:Mem)(E:Env):List (SV×SV)->List MapEntry->Prop
 |[],[]=>True |(k,v)::l,m::ms=>Den H E k m.key/\Den H E v m.val/\EG H E l ms |_,_=>False
def vY(H:Mem)(E:Env):List (Int×Bool×SV)->List (Int×Option Value)->Prop
 |[],[]=>True |(k,p,sv)::l,(n,o)::r=>n=k/\(match p,o with|true,ae v=>Den H E sv v/\v.oneCell'=aj|false,aq=>True|_,_=>False)/\vY H E l r
 |_,_=>False
def KT(M:Int->Option Value):List (Int×Option Value)->Int->Option Value
 |[]=>M |(n,o)::r=>fun k=>if k=n then o else KT M r k
abbrev rC:=Int×List UInt8
def qx(n:rC):Value:=.agg #[.int .i64 n.1,.string ⟨n.2.toArray⟩]
def N8(H:Mem)(E:Env):List (rC×Bool×SV)->List (rC×Option Value)->Prop
 |[],[]=>True |(k,p,sv)::l,(n,o)::r=>n=k/\(match p,o with|true,ae v=>Den H E sv v/\v.oneCell'=aj|false,aq=>True|_,_=>False)/\N8 H E l r
 |_,_=>False
def Jb(M:rC->Option Value):List (rC×Option Value)->rC->Option Value
 |[]=>M |(n,o)::r=>fun k=>if k=n then o else Jb M r k
def aiA:VT->Value->Prop
 | .int,v=>∃n,v=.int .i64 n | .bool,v=>∃b,v=.bool b
def afB(vt:VT)(M:rC->Option Value):Prop:=∀k v,M k=ae v->aiA vt v
def aiB(vt:VT)(us:List (rC×Bool×SV)):Prop:=∀u∈us,u.2.1=aj->u.2.2.XV vt=aj
structure Rz(ms:List MapEntry)(N:rC->Option Value):Prop where
 key:∀m∈ms,∃n,m.key=qx n
 TD:∀m∈ms,∀n,m.key=qx n->N n=ae m.val
 ex:∀n v,N n=ae v->∃m∈ms,m.key=qx n
 one:∀(i j:Nat) (m m':MapEntry),ms[i]?=ae m->ms[j]?=ae m'->m.key=m'.key->i=j
def yX(k:IntKind)(n:Int):List MapEntry->Option Value
 |[]=>aq |m::r=>match Instr.sameNow (.int k) (.int k n) m.key with
  |some aj=>ae m.val |_=>yX k n r
structure uK(k:IntKind)(ms:List MapEntry)(clk:Nat)(N:Int->Option Value):Prop where
 key:∀m∈ms,∃n,m.key=.int k n
 at_:∀n,yX k n ms=N n
 one:∀(i j:Nat) (m m':MapEntry),ms[i]?=ae m->ms[j]?=ae m'->m.key=m'.key->i=j
 born:∀(i j:Nat) (m m':MapEntry),ms[i]?=ae m->ms[j]?=ae m'->m.born=m'.born->i=j
 lt:∀m∈ms,m.born<clk
def Zf(E:Env)(k:IntKind)(ms:List MapEntry):Option (Nat×Int)->Prop
 |none=>True |some (s,n)=>∃m∈ms,m.key=.int k n/\E s=ae (.int .i64 m.born)
def bytesV(l:List UInt8):List Value:=l.map fun b=>.int .u8 b.toNat
def wE(w:World)(e:TypeId)(v:Value)(l:List UInt8):Prop:=
 (v=.slice aq 0 0/\l=[])\/∃g cap cur fz,v=.slice (ae ⟨g,0,aq⟩) l.length cap/\w.heap[g]?=ae (.cells cur e fz)/\(fz.2<=l.length\/cap<=fz.1)/\l.length<=cap/\cap<=maxLen/\cur.size=cap/\cur.toList.take l.length=bytesV l
def wo(K:Kx)(H:Mem)(E:Env)(w:World)(id:Nat):SB->Prop
 | .box cells elem=>∃b cs,E id=ae (.pointer (ae ⟨b,0,aq⟩))/\w.heap[b]?=ae (.cells cs elem (0,0))/\mW H E cells cs.toList/\Mine K H b | .row cells elem st n=>∃v xs,E id=ae v/\w.ownsRow 0 elem st v n xs/\mW H E cells xs/\∀b,mY v=ae b->Mine K H b | .own elem st n g=>∃v xs,E id=ae v/\w.ownsRow 0 elem st v n xs/\oW H st n g xs/\∀b,mY v=ae b->Mine K H b | .fz st n g=>∃v,E id=ae v/\Rep H (.sl st n g) v | .map es=>∃b ms clk,E id=ae (.map (ae b))/\w.heap[b]?=ae (.map ms clk)/\EG H E es ms.toList/\Mine K H b | .IQ l=>∃v,E id=ae v/\Rep H (.pt l) v | .wK elem st n g more=>∃v xs ys,E id=ae v/\w.ownsRow 0 elem st v (n+more.length / st) (xs++ys)/\oW H st n g xs/\mW H E more ys/\more.length % st=0/\uP more=aj/\∀b,mY v=ae b->Mine K H b | .fm k M fs us tag=>∃b ms clk fv uv,E id=ae (.map (ae b))/\w.heap[b]?=ae (.map ms clk)/\vY H E fs fv/\vY H E us uv/\(∀n o,(n,o)∈fv->M n=o)/\uK k ms.toList clk (KT M uv)/\Zf E k ms.toList tag/\Mine K H b | .pm vt M us=>∃b ms clk uv,E id=ae (.map (ae b))/\w.heap[b]?=ae (.map ms clk)/\N8 H E us uv/\afB vt M/\aiB vt us/\Rz ms.toList (Jb M uv)/\Mine K H b | .buf e l=>∃v,E id=ae v/\wE w e v l/\∀b,mY v=ae b->Mine K H b
def nN(E:Env)(id:Nat):SB->Option Nat
 | .fz _ _ _=>aq | .IQ _=>aq |_=>(E id).bind mY
structure mZ(K:Kx)(H:Mem)(E:Env)(w:World)(hp:List (Nat×SB)):Prop where
 ent:∀id sb,mG hp id=ae sb->wo K H E w id sb
 vO:∀id id' sb sb' b,mG hp id=ae sb->mG hp id'=ae sb'->nN E id sb=ae b->nN E id' sb'=ae b->id=id'
structure rW(K:Kx)(H:Mem)(w:World):Prop where
 os:w.os=K.w0.os
 tape:w.tape=K.w0.tape
 output:w.output=K.w0.output
 size:K.w0.heap.size<=w.heap.size
 kept:∀b,b<K.w0.heap.size->¬K.own b->w.heap[b]?=K.w0.heap[b]?
 on:H.on w
 le:K.H0.le H
 fresh:∀b,H b≠aq->K.H0 b≠aq\/K.w0.heap.size<=b\/K.own b
open Go.RowKit (Below)
def mD:Prim where
 add k x y:=k.wrap (x+y)
 sub k x y:=k.wrap (x - y)
 mul k x y:=k.wrap (x*y)
 neg k x:=k.wrap (0 - x)
 lt x y:=decide (x<y)
 le x y:=decide (x<=y)
 eq x y:=x==y
 max x y:=if y>x then y else x
 min x y:=if y<x then y else x
 inB i n:=decide (0<=i/\i<n)
 upTo i n:=decide (0<=i/\i<=n)
 toN i:=i.toNat
 nH n:=n
 addN i j:=i+j
 zL i j:=i - j
 Ux i j:=decide (i<=j)
 room n b:=decide (n*b<=140737488355328/\n<=maxLen)
 len l:=l.length
 nt b:=!b
 ite c x y:=bif c then x else y
 beq x y:=x==y
 seq x y:=x==y
 app x y:=x++y
 snoc g n h i:=if i<n then g i else h (i - n)
 upd g i off l j:=if j=i then (g j).take off++l++(g j).drop (off+l.length) else g j
 bin op k a b:=NS op k a b
 conv k a:=k.wrap a
 ins g i l j:=if j<i then g j else if j=i then l else g (j - 1)
 kp a l b m:=decide (a=b/\l=m)
 isS o:=o.isSome
 aof o:=match o with|some (.int .i64 n)=>n|_=>0
 zu o:=match o with|some (.bool b)=>b|_=>ag
def E0:Env:=fun _=>aq
def M0:Mem:=fun _=>aq
def X0(P:Program)(fields:Array Field)(fs:List (Nat×Nat×Bool)):Prop:=
 fields.size=fs.length/\∀(j:Nat) (f:Field),fields[j]?=ae f->∃inf:TypeInfo,P.info? f.type=ae inf/\
  fs[j]?=ae (f.offset,inf.size,match P.underlying f.type with|some (.struct _) |some (.array _ _)=>aj|_=>ag)/\(P.underlying f.type).isSome=aj
def Zg(P:Program)(t:Nat):Ty->Prop
 | .int k=>P.underlying t=ae (.int k) | .bool=>P.underlying t=ae .bool | .str=>P.underlying t=ae .string | .ptr e=>P.underlying t=ae (.pointer e) | .fn=>∃ps rs b,P.underlying t=ae (.func ps rs b) | .iface=>∃ms,P.underlying t=ae (.interface ms) | .map k e=>P.underlying t=ae (.map k e) | .slice e=>P.underlying t=ae (.slice e) | .struct fs=>∃fields,P.underlying t=ae (.struct fields)/\X0 P fields fs | .arr n e=>P.underlying t=ae (.array n e) | .other=>False
structure EH(P:Program)(t:Nat)(i:Ai):Prop where
 desc:Zg P t i.ty
 info:∃(inf:TypeInfo) (z:Value),P.info? t=ae inf/\inf.size=i.size/\inf.bytes=i.bytes/\inf.zero=ae z/\mW M0 E0 i.zero z.cells.toList/\z.cells.size=i.size/\
  (i.ty.isAgg=aj->∃cs,z=.agg cs)/\(i.ty.isAgg=ag->i.size=1/\z.oneCell'=aj)
def vG(H:Mem)(g:Nat)(s:Sh):Prop:=
 match s with
 | .mV l=>(∃cs e f,H g=ae (.cells cs e f)/\cs.size=l.length)/\∃c:Nat->Value,(∀(j:Nat),j<l.length->hcell H g j=ae (c j)/\(c j).oneCell'=aj)/\∀(j:Nat) (s:Sh),l[j]?=ae s->Rep H s (c j) |s=>∃v,hcell H g 0=ae v/\Rep H s v/\v.oneCell'=aj
structure qh(gls:List (Nat×Sh))(H:Mem):Prop where
 at_:∀g s,mG gls g=ae s->vG H g s
 apart:∀g g' T T',mG gls g=ae (.er g T)->mG gls g'=ae (.er g' T')->g≠g'->hcell H g 0≠hcell H g' 0
theorem qh.le{gls:List (Nat×Sh)}{H H':Mem}(h:qh gls H)(hH:H.le H'):qh gls H' where
 at_ g s hg:=by
  have:=h.at_ g s hg;cases s with
  |mV l=>obtain ⟨⟨cs,e,f,q1,q2⟩,c,h1,h2⟩:=this;exact ⟨⟨cs,e,f,hH _ _ q1,q2⟩,c,fun j hj=>⟨Ar hH (h1 j hj).1,(h1 j hj).2⟩,fun j s hs=>(h2 j s hs).le hH⟩ |_=>obtain ⟨v,h1,h2,h3⟩:=this;exact ⟨v,Ar hH h1,h2.le hH,h3⟩
 apart g g' T T' h1 h2 hne:=by
  have a1:vG H g (.er g T):=h.at_ g _ h1;have a2:vG H g' (.er g' T'):=h.at_ g' _ h2;obtain ⟨v1,b1,_⟩:=a1;obtain ⟨v2,b2,_⟩:=a2;have:=h.apart g g' T T' h1 h2 hne;grind [Ar]
section
variable{P:Program}{C:Ctx}{K:Kx}{H:Mem}{E:Env}{w:World}
theorem adE{t:Nat}{i:Ai}(h:EH P t i)(w:World):(isAgg t).run P w=.ok i.ty.isAgg w:=by
 have hd:=h.desc;unfold isAgg;cases hi:i.ty<;>rw[hi] at hd<;>simp only[Zg] at hd
 case struct fs=>obtain ⟨f,hf,_⟩:=hd;simp[run_underlying hf,Ty.isAgg]
 case fn=>obtain ⟨_,_,_,hd⟩:=hd;simp[run_underlying hd,Ty.isAgg]
 case iface=>obtain ⟨_,hd⟩:=hd;simp[run_underlying hd,Ty.isAgg]
 all_goals simp[run_underlying hd,Ty.isAgg]
theorem zy{t:Nat}{i:Ai}(h:EH P t i)(w:World):(sizeOf t).run P w=.ok i.size w:=by
 obtain ⟨inf,z,h1,h2,_⟩:=h.info;simp[sizeOf,typeInfo,h1,h2]
theorem agQ{t:Nat}{i:Ai}(h:EH P t i)(w:World):∃z:Value,(zeroValue t).run P w=.ok z w/\mW M0 E0 i.zero z.cells.toList/\z.cells.size=i.size:=by
 obtain ⟨inf,z,h1,_,_,h4,h5,h6,_⟩:=h.info;simp_all [zeroValue,typeInfo]
theorem adF(v:Value):Den H E (.ofValue v) v:=by
 unfold SV.ofValue;split<;>first|exact ⟨rfl,rfl⟩ |simp[Den]
theorem nU{tm:List SV}{a:Act}(hd:mW H E tm a.tmps.toList)(x:Operand):Den H E (oz tm x) (a.eval x):=by
 cases x with
 |tmp t=>
  simp only[oz,Act.eval];by_cases ht:t<tm.length
  ·have h1:tm[t]?=ae tm[t]:=aD ht
   obtain ⟨v,hv,h2⟩:=hd.get h1;simp_all
  ·rw[List.getD_eq_getElem?_getD,List.getElem?_eq_none (Nat.le_of_not_lt ht)]
   trivial
 |const v=>exact adF v |global g=>exact rfl |func f=>exact ⟨#[],rfl,trivial⟩
theorem aaK{x:Value}(h:x.oneCell'=aj):Den H E (SV.lit x) x:=by
 unfold SV.lit;split
 ·rfl
 ·rfl
 ·rfl
 ·exact ⟨rfl,h⟩
mutual
theorem LV:∀{s:Sh} {v:Value},Rep H s v->Den H E (Qa s) v
 | .i _ _,_,h=>by cases h;rfl | .b _,_,h=>by cases h;rfl | .v _,_,h=>by cases h with|v _ h1=>exact aaK h1
 | .str _,_,h=>h | .sl _ _ _,_,h=>h | .pV _ _,_,h=>h | .er _ _,_,h=>h | .fn _ l,_,h=>by
  cases h with
  |fn _ _ vs h1 h2=>exact ⟨vs,rfl,zA (qQ.Fa (by omega) fun j s v e1 e2=>h2 j s v e1 (by grind))⟩
 | .pt l,_,h=>by
  cases h with
  |pt _ b off c h1 h2 h3=>exact ⟨b,off,c,rfl,Nat.zero_lt_one,rfl,fun j hj=>⟨h1 j hj,h2 j hj⟩,h3⟩
 | .os _ _ _ _,_,h=>by cases h | .agg l,_,h=>by
  cases h with
  |agg _ vs h1 h2=>exact ⟨vs,rfl,zA (qQ.Fa (by omega) fun j s v e1 e2=>h2 j s v e1 (by grind))⟩
 | .mV l,_,h=>by
  cases h with
  |mV _ vs h1 h2=>exact ⟨vs,rfl,zA (qQ.Fa (by omega) fun j s v e1 e2=>h2 j s v e1 (by grind))⟩
theorem zA:∀{l:List Sh} {vs:List Value},qQ H l vs->mW H E (Iz l) vs
 |[],[],_=>trivial |_::_,_::_,⟨h1,h2⟩=>⟨LV h1,zA h2⟩ |[],_::_,h=>h.elim |_::_,[],h=>h.elim
end
theorem Qk{s:Sh}{v:Value}(h:Rep H s v)(h1:v.oneCell'=aj):Den H E s.zx v:=by
 cases h;case v hx=>
  simp only[Sh.zx];unfold SV.lit;split
  ·rfl
  ·rfl
  ·rfl
  ·exact ⟨rfl,hx⟩
 all_goals simp[Sh.zx,Den]
 case sl0 st g A cap hc=>exact .sl0 st g A cap hc
 case sl st n g b off cap c a1 a2 a3 a4 a5 a6=>exact .sl st n g b off cap c a1 a2 a3 a4 a5 a6
 case str l=>exact .str l
 case agg l vs _ _=>simp[dj] at h1
 case mV l vs _ _=>simp[dj] at h1
 case pV t x u hu=>exact .pV t x u hu
 case fn f l vs hs hv=>grind [zA,qQ.Fa]
 case er g T b cs e a1 a2=>exact .er g T b cs e a1 a2
 case pt l b off c a1 a2 a3=>exact ⟨b,off,⟨rfl,rfl⟩,c,fun j hj=>⟨a1 j hj,a2 j hj⟩,a3⟩
def LW(H:Mem)(E:Env)(hp:List (Nat×SB))(w w':World):Prop:=
 ∀b,(H b≠aq\/∃id sb,mG hp id=ae sb/\nN E id sb=ae b)->w'.heap[b]?=w.heap[b]?
theorem LW.refl(H:Mem)(E:Env)(hp:List (Nat×SB))(w:World):LW H E hp w w:=fun _ _=>rfl
theorem Aw{l:List SV}{off n:Nat}{r:List SV}(h:seg l off n=ae r):off+n<=l.length/\r=(l.drop off).take n:=by
 unfold seg at h;cases hb:cm (off+n) l.length<;>simp[hb] at h
 simp_all
theorem DV{agg:Bool}{l:List SV}{v:SV}(h:pack agg l=ae v):(agg=aj/\v=.agg l)\/(agg=ag/\l=[v]):=by
 unfold pack at h;grind
theorem X3{t:Nat}{i:Ai}(ht:EH P t i){a:Addr}{cs:List Value}(hl:cs.length=i.size)(hc:∀j v,cs[j]?=ae v->w.cell? (a.add j)=ae v):
  (loadVar t a).run P w=.ok (if i.ty.isAgg then .agg cs.toArray else cs.headD undef) w:=by
 unfold loadVar;simp only[cn,adE ht,cH];cases hi:i.ty.isAgg
 ·obtain ⟨_,_,_,_,_,_,_,_,_,h1⟩:=ht.info
  have h1:=(h1 hi).1;rw[h1] at hl;match cs,hl with
  |[c],_=>
   have:=hc 0 c rfl;simp_all [kc,run_load]
 ·have:=run_loadCells_list (P:=P) (w:=w) a cs hc
  rw[hl] at this;simp[zy ht,this]
def DW(agg:Bool)(cs:List Value):Value:=if agg then .agg cs.toArray else cs.headD undef
theorem Az{agg:Bool}{l:List SV}{sv:SV}{cs:List Value}(h:pack agg l=ae sv)(hd:mW H E l cs):Den H E sv (DW agg cs):=by
 rcases DV h with ⟨rfl,rfl⟩ |⟨rfl,rfl⟩
 ·exact ⟨cs.toArray,by simp[DW],hd⟩
 ·match cs,hd with
  |[c],⟨hc,_⟩=>exact hc
theorem zB{hp:List (Nat×SB)}{w':World}(ha:LW H E hp w w'){id b:Nat}{sb:SB}(hl:mG hp id=ae sb)(hb:nN E id sb=ae b):
  w'.heap[b]?=w.heap[b]?:=ha b (.inr ⟨id,sb,hl,hb⟩)
theorem N9{elem st n:Nat}{v:Value}{xs:List Value}(h:w.ownsRow 0 elem st v n xs){j:Nat}{u:Value}(hu:xs[j]?=ae u):
  ∃b cur,mY v=ae b/\w.heap[b]?=ae (.cells cur elem (0,0))/\cur.toList[j]?=ae u:=by
 obtain ⟨hl,h⟩:=h;rcases h with ⟨rfl,rfl⟩ |⟨g,cap,cur,rfl,_,hg,_,_,hs,ht⟩
 ·simp_all
 ·refine ⟨g,cur,rfl,hg,?_⟩
  grind
theorem Xq{st n:Nat}{g:Nat->List Sh}{xs:List Value}(h:oW H st n g xs){i:Nat}(hi:i<n):
  mW H E ((g i).map Sh.zx) ((xs.drop (i*st)).take st):=by
 obtain ⟨h1,h2,h3,h4⟩:=h;have hg:=h2 i hi;have hlen:i*st+st<=xs.length:=by
  rw[h1];calc i*st+st=(i+1)*st:=by grind
   _<=n*st:=Nat.mul_le_mul_right _ hi
 have key:∀(l:List Sh) (vs:List Value),vs.length=l.length->(∀(j:Nat) (s:Sh) (v:Value),l[j]?=ae s->vs[j]?=ae v->Rep H s v/\v.oneCell'=aj)->mW H E (l.map Sh.zx) vs:=by
  intro l;induction l with
  |nil=>intro vs hl _;match vs,hl with|[],_=>trivial
  |cons s l ih=>
   intro vs hl h;match vs,hl with
   |v::vs,hl=>
    have h0:=h 0 s v rfl rfl;exact ⟨Qk h0.1 h0.2,ih vs (by grind) fun j s' v' e1 e2=>h (j+1) s' v' (by grind) (by grind)⟩
 grind
theorem range_map_get{st k:Nat}{c:Nat->Value}{v:Value}(h:((aE st).map c)[k]?=ae v):k<st/\c k=v:=by
 grind
theorem LY{l:List Sh}{st:Nat}{c:Nat->Value}(hl:l.length=st)(hr:∀(j:Nat) (s:Sh),l[j]?=ae s->Rep H s (c j))(h1:∀j,j<st->(c j).oneCell'=aj):
  mW H E (l.map Sh.zx) ((aE st).map c):=by
 have key:∀(l:List Sh) (c:Nat->Value),(∀(j:Nat) (s:Sh),l[j]?=ae s->Rep H s (c j)/\(c j).oneCell'=aj)->mW H E (l.map Sh.zx) ((aE l.length).map c):=by
  intro l;induction l with
  |nil=>intro c _;trivial |cons s l ih=>
   intro c h;rw[cZ,List.range_succ_eq_map,dI,dI,List.map_map];exact ⟨Qk (h 0 s rfl).1 (h 0 s rfl).2,ih (c ∘ Nat.succ) fun j s' e=>h (j+1) s' (by simpa using e)⟩
 grind
theorem RD{c:Core}{agg:Bool}{size:Nat}{x sv:SV}{u:Value}(hx:Den H E x u)(hh:mZ K H E w c.hp)(hg:qh C.gls H)(hsz:agg=ag->size=1)
  (h:Y6 C c agg size x=ae sv):∃(a:Addr) (cs:List Value),u=.pointer (ae a)/\cs.length=size/\Den H E sv (DW agg cs)/\
   ∀w',LW H E c.hp w w'->H.on w'->∀(j:Nat) (v:Value),cs[j]?=ae v->w'.cell? (a.add j)=ae v:=by
 unfold Y6 at h;split at h
 ·
  rename_i id off;obtain ⟨b,hb,rfl⟩:=hx;split at h
  ·rename_i cells elem hl
   obtain ⟨b',cs,he,hw,hd,_⟩:=hh.ent _ _ hl;simp only[he,bL,mY,dK] at hb;subst hb;cases hs:seg cells off size with
   |none=>grind |some r=>
    simp only[hs,bL] at h;obtain ⟨hle,rfl⟩:=Aw hs;have hdl:=hd.length;refine ⟨_,(cs.toList.drop off).take size,rfl,by grind,Az h ((hd.drop off).take size),?_⟩;intro w' ha _ j v hv;rw[bx] at hv;split at hv
    ·rw[cd,cI] at hv
     grind [zB,nN,mY,fJ,bF]
    ·cases hv
  ·rename_i cells elem st n hl
   obtain ⟨v',xs,he,ho,hd,_⟩:=hh.ent _ _ hl;cases hs:seg cells off size with
   |none=>grind |some r=>
    simp only[hs,bL] at h;obtain ⟨hle,rfl⟩:=Aw hs;have hdl:=hd.length;refine ⟨_,(xs.drop off).take size,rfl,by grind,Az h ((hd.drop off).take size),?_⟩;intro w' ha _ j v hv;rw[bx] at hv;split at hv
    ·rw[cd] at hv
     obtain ⟨b',cur,hb',hw,hu⟩:=N9 ho hv;simp only[he,bL,hb',dK] at hb;grind [zB,nN,fJ,bF]
    ·cases hv
  ·rename_i l hl
   obtain ⟨v',he,hr⟩:=hh.ent _ _ hl;cases hr with
   |pt _ b2 off2 c2 h1 h2 h3=>
    have h02:b2=b/\off2=0:=by
     rw[he] at hb;simp only[bL] at hb;unfold mY at hb;grind
    obtain ⟨rfl,rfl⟩:=h02;cases hs:seg (l.map Sh.zx) off size with
    |none=>grind |some r=>
     simp only[hs,bL] at h;obtain ⟨hle,rfl⟩:=Aw hs;rw[ct] at hle;have hd:mW H E (l.map Sh.zx) ((aE l.length).map c2):=LY rfl h3 h2;refine ⟨_,(((aE l.length).map c2).drop off).take size,rfl,by grind,Az h ((hd.drop off).take size),?_⟩;intro w' _ hon j v hv;rw[bx] at hv;split at hv
     ·rw[cd] at hv
      obtain ⟨hk,rfl⟩:=range_map_get hv;grind [Du,bF]
     ·cases hv
  ·cases h
 ·
  rename_i id st i off;obtain ⟨b,v',he,hb,hi,rfl⟩:=hx;split at h
  ·rename_i elem st' n g hl
   obtain ⟨v'',xs,he',ho,hr,_⟩:=hh.ent _ _ hl;rw[he] at he';cases he';have hn:lenV v'=n:=by
    rcases ho.2 with ⟨rfl,rfl⟩ |⟨_,_,_,rfl,_⟩<;>rfl
   rw[hn] at hi;cases hst:(st==st')<;>simp only[hst,cond_true,cond_false] at h
   ·cases h
   obtain rfl:st=st':=by grind
   cases hs:seg ((g i).map Sh.zx) off size with
   |none=>grind |some r=>
    simp only[hs,bL] at h;obtain ⟨hle,rfl⟩:=Aw hs;have hd:=Xq (E:=E) hr hi;have hdl:=hd.length;refine ⟨_,(((xs.drop (i*st)).take st).drop off).take size,rfl,by grind,Az h ((hd.drop off).take size),?_⟩;intro w' ha _ j v hv;rw[bx] at hv;split at hv
    ·rw[cd,bx] at hv
     split at hv
     ·rw[cd] at hv
      grind [N9,zB,nN,fJ,bF]
     ·cases hv
    ·cases hv
  ·rename_i st' n g hl
   obtain ⟨v'',he',hr⟩:=hh.ent _ _ hl;rw[he] at he';cases he';cases hst:(st==st')<;>simp only[hst,cond_true,cond_false] at h
   ·cases h
   obtain rfl:st=st':=by grind
   cases hr with
   |sl0 _ _ A cap hc=>simp[lenV] at hi |sl _ _ _ b2 off2 cap c h1 h2 h3 h4 h5 h6=>
    simp only[lenV] at hi;have h02:b2=b/\off2=0:=by
     unfold mY at hb;grind
    obtain ⟨rfl,rfl⟩:=h02;cases hs:seg ((g i).map Sh.zx) off size with
    |none=>grind |some r=>
     simp only[hs,bL] at h;obtain ⟨hle,rfl⟩:=Aw hs;rw[ct,h3 i hi] at hle;have hd:mW H E ((g i).map Sh.zx) ((aE st).map (c i)):=LY (h3 i hi) (fun j s hs=>h6 i j s hi hs) (fun j hj=>h5 i j hi hj);refine ⟨_,(((aE st).map (c i)).drop off).take size,rfl,by grind,Az h ((hd.drop off).take size),?_⟩;intro w' _ hon j v hv;rw[bx] at hv;split at hv
     ·rw[cd] at hv
      obtain ⟨hk,rfl⟩:=range_map_get hv;grind [Du,bF,iy]
     ·cases hv
  ·cases h
 ·
  rename_i st n g i off;obtain ⟨b,o,c,rfl,hi,hgl,hc,hr⟩:=hx;cases hs:seg ((g i).map Sh.zx) off size with
  |none=>grind |some r=>
   simp only[hs,bL] at h;obtain ⟨hle,rfl⟩:=Aw hs;rw[ct,hgl] at hle;have hd:mW H E ((g i).map Sh.zx) ((aE st).map c):=LY hgl hr (fun j hj=>(hc j hj).2);refine ⟨_,(((aE st).map c).drop off).take size,rfl,by grind,Az h ((hd.drop off).take size),?_⟩;intro w' _ hon j v hv;rw[bx] at hv;split at hv
   ·rw[cd] at hv
    obtain ⟨hk,rfl⟩:=range_map_get hv;grind [Du,bF,iy]
   ·cases hv
 ·rename_i g
  obtain rfl:u=_:=hx;cases agg<;>simp only[cond_true,cond_false] at h
  ·cases hl:mG C.gls g with
   |none=>grind |some s=>
    have hgl:=hg.at_ g s hl;have h:s.zx=sv/\∃v,hcell H g 0=ae v/\Rep H s v/\v.oneCell'=aj:=by
     cases s<;>simp[hl] at h<;>exact ⟨h,hgl⟩
    obtain ⟨rfl,v,h1,h2,h3⟩:=h;refine ⟨_,[v],rfl,(hsz rfl).symm,Qk h2 h3,?_⟩;grind [kc,Du]
  ·cases h
 ·cases h
end
structure Jc(P:Program)(t:Nat):Prop where
 und:∃fs,P.underlying t=ae (.struct fs)
 chk:∀(em:Bool) (n:rC) (w:World),(Instr.checkKey em 10000 t (qx n)).run P w=.ok () w
 eq:∀(n m:rC) (w:World),(Op.equal t (qx n) (qx m)).run P w=.ok (decide (n=m)) w
structure oh(P:Program)(C:Ctx):Prop where
 ty:∀t i,C.tys.get t=ae i->EH P t i
 fn:∀g fn,C.fns.get g=ae fn->P.funcs[g]?=ae fn
 A:C.A=mD
 mixed:P.follows .mixedOrders=aj
 eqs:∀t i,C.eqs.contains t=aj->C.tys.get t=ae i->∀(xs ys:List Cq) (w:World),qp xs i.zero=aj->qp ys i.zero=aj->∀x y:Operand,
  (do eqGuard .eql t x y (.agg (xs.map Cq.v).toArray) (.agg (ys.map Cq.v).toArray);binOp .eql t (.agg (xs.map Cq.v).toArray) (.agg (ys.map Cq.v).toArray):Sem Value).run P w=.ok (.bool (decide (xs=ys))) w/\
  (do eqGuard .neq t x y (.agg (xs.map Cq.v).toArray) (.agg (ys.map Cq.v).toArray);binOp .neq t (.agg (xs.map Cq.v).toArray) (.agg (ys.map Cq.v).toArray):Sem Value).run P w=.ok (.bool (!decide (xs=ys))) w
 NP:∀T,C.NP.contains T=aj->∃inf e ie,P.info? T=ae inf/\inf.comparable=aj/\P.underlying T=ae (.pointer e)/\P.info? e=ae ie/\ie.size≠0
 Uy:∀t,C.Uy.contains t=aj->Jc P t
section
variable{P:Program}{C:Ctx}{K:Kx}{H:Mem}{E:Env}{w:World}
def Oa(P:Program)(H:Mem)(E:Env)(w:World)(c:Core)(a:Act)(o:Oper)(φ:SV×Core->Prop):Prop:=
 ∃(p:SV×Core) (v:Value),φ p/\p.2=c/\Den H E p.1 v/\∀w',LW H E c.hp w w'->H.on w'->(execOp a.eval o).run P w'=.ok (.value v) w'
def QP(P:Program)(H:Mem)(E:Env)(c:Core)(a:Act)(o:Oper)(φ:SV×Core->Prop):Prop:=
 ∃(p:SV×Core) (v:Value),φ p/\p.2=c/\Den H E p.1 v/\∀w',(execOp a.eval o).run P w'=.ok (.value v) w'
theorem QP.q{c:Core}{a:Act}{o:Oper}{φ:SV×Core->Prop}(h:QP P H E c a o φ):Oa P H E w c a o φ:=
 let ⟨p,v,h1,h2,h3,h4⟩:=h;⟨p,v,h1,h2,h3,fun w' _ _=>h4 w'⟩
theorem xE{c:Core}{x:Option SV}{φ:SV×Core->Prop}(h:(BH c x).All φ):∃v,x=ae v/\φ (v,c):=by
 cases x with
 |none=>exact h.elim |some v=>exact ⟨v,rfl,h⟩
theorem TY{c:Core}{a:Act}{o:Oper}{x:Operand}{φ:SV×Core->Prop}(ho:o.op=.move x\/o.op=.assign x)(hd:mW H E c.tm a.tmps.toList)
  (h:(ret c (oz c.tm x)).All φ):QP P H E c a o φ:=by
 refine ⟨_,a.eval x,h,rfl,nU hd x,fun w'=>?_⟩;rcases ho with ho|ho<;>simp[execOp,ho]
theorem Oc{x:SV}{b:Bool}{u:Value}(h:TS x=ae b)(hd:Den H E x u):u=.bool b:=by
 cases x<;>simp[TS] at h
 all_goals (subst h;exact hd)
theorem afC{c:Core}{a:Act}{o:Oper}{x y z:Operand}{φ:SV×Core->Prop}(hA:C.A=mD)(ho:o.op=.pick x y z)(hd:mW H E c.tm a.tmps.toList)
  (h:(BH c (adx C.A (oz c.tm x) (oz c.tm y) (oz c.tm z))).All φ):QP P H E c a o φ:=by
 obtain ⟨v,hv,hφ⟩:=xE h;have dx:=nU (H:=H) (E:=E) hd x;have dy:=nU (H:=H) (E:=E) hd y;have dz:=nU (H:=H) (E:=E) hd z;unfold adx at hv;split at hv
 ·rename_i hx
  rw[hx] at dx;cases hv;refine ⟨_,a.eval y,hφ,rfl,dy,fun w'=>?_⟩;simp_all [Den,execOp,asBool]
 ·rename_i hx
  rw[hx] at dx;cases hv;refine ⟨_,a.eval z,hφ,rfl,dz,fun w'=>?_⟩;simp_all [Den,execOp,asBool]
 ·rename_i b hx
  rw[hx] at dx;simp only[Den] at dx;split at hv
  ·rename_i p q hp hq
   cases hv;have ep:=Oc hp dy;have eq:=Oc hq dz;refine ⟨_,.bool (bif b then p else q),hφ,rfl,?_,fun w'=>?_⟩
   ·rw[hA];rfl
   simp_all [execOp,asBool]
  ·cases hv
 ·cases hv
theorem aiC{c:Core}{a:Act}{o:Oper}{t:Nat}{x:Operand}{φ:SV×Core->Prop}(hA:C.A=mD)(ho:o.op=.unOp .not t x)(hd:mW H E c.tm a.tmps.toList)
  (h:(BH c (notS C.A (oz c.tm x))).All φ):QP P H E c a o φ:=by
 obtain ⟨v,hv,hφ⟩:=xE h;have dx:=nU (H:=H) (E:=E) hd x;unfold notS at hv;split at hv<;>cases hv
 all_goals
  rename_i b hx;rw[hx] at dx;simp only[Den] at dx;refine ⟨_,.bool (!b),hφ,rfl,?_,fun w'=>by simp[execOp,ho,dx,Op.unary]⟩
 ·rfl
 ·rw[hA];rfl
theorem aiD{c:Core}{a:Act}{o:Oper}{t:Nat}{x:Operand}{φ:SV×Core->Prop}(hA:C.A=mD)(ho:o.op=.unOp .neg t x)(hd:mW H E c.tm a.tmps.toList)
  (h:(BH c (negS C.A (oz c.tm x))).All φ):QP P H E c a o φ:=by
 obtain ⟨v,hv,hφ⟩:=xE h;have dx:=nU (H:=H) (E:=E) hd x;unfold negS at hv;split at hv<;>cases hv
 all_goals
  rename_i k n hx;rw[hx] at dx;simp only[Den] at dx;refine ⟨_,.int k (k.wrap (0 - n)),hφ,rfl,?_,fun w'=>by simp[execOp,ho,dx,Op.unary,Op.intArith]⟩
 ·rfl
 ·rw[hA];rfl
theorem UH{c:Core}{a:Act}{o:Oper}{x:Operand}{i:Nat}{φ:SV×Core->Prop}(ho:o.op=.extract x i)(hd:mW H E c.tm a.tmps.toList)
  (h:(GK c (oz c.tm x) i).All φ):QP P H E c a o φ:=by
 have dx:=nU (H:=H) (E:=E) hd x;unfold GK at h;split at h
 ·rename_i l hx
  obtain ⟨v,hv,hφ⟩:=xE h;rw[hx] at dx;obtain ⟨vs,he,hl⟩:=dx;obtain ⟨u,hu,hdu⟩:=hl.get hv;refine ⟨_,u,hφ,rfl,hdu,fun w'=>?_⟩;simp_all [cI,execOp,Instr.extract]
 ·exact h.elim
theorem aaL{C:Ctx}{c:Core}{a:Act}{o:Oper}{t:TypeId}{x i:Operand}{φ:SV×Core->Prop}(hC:oh P C)(ho:o.op=.index t x i)(hd:mW H E c.tm a.tmps.toList)
  (h:(LU C c t (oz c.tm x) (oz c.tm i)).All φ):QP P H E c a o φ:=by
 have dx:=nU (H:=H) (E:=E) hd x;have di:=nU (H:=H) (E:=E) hd i;unfold LU at h;split at h
 ·rename_i ti l k n e1 e2 e3
  rw[e2] at dx;rw[e3] at di;have dx:a.eval x=_:=dx;have di:a.eval i=_:=di;have ht:=(hC.ty _ _ e1).desc;split at h
  ·rename_i et
   rw[et] at ht;cases hn:decide (0<=n)<;>simp only[hn,cond_true,cond_false] at h
   ·exact h.elim
   obtain ⟨v,hv,hφ⟩:=xE h;obtain ⟨b,hb,rfl⟩:=Option.map_eq_some_iff.1 hv;refine ⟨_,.int .u8 (b.toNat:Int),hφ,rfl,rfl,fun w'=>?_⟩;have hs:(i6 l.toArray)[n.toNat]?=ae b:=by
    obtain ⟨h1,h2⟩:=aT.1 hb;rw[getElem?_pos (i6 l.toArray) n.toNat (by simpa[lY] using h1)];exact congrArg ae h2
   have hn:0<=n:=of_decide_eq_true hn;have ht:P.underlying t=ae .string:=ht;simp[execOp,ho,dx,di,Instr.index,asIntOf,run_underlying ht,hn,hs]
  ·exact h.elim
 ·exact h.elim
theorem RF{c:Core}{a:Act}{o:Oper}{f:Nat}{fs cs:Array Operand}{φ:SV×Core->Prop}(ho:o.op=.makeFunc (.func f) fs cs)(hd:mW H E c.tm a.tmps.toList)
  (h:(bif fs.size==0 then ret c (.fn f (cs.toList.map (oz c.tm))) else .fail).All φ):QP P H E c a o φ:=by
 cases hf:(fs.size==0)<;>simp only[hf,cond_true,cond_false] at h
 ·exact h.elim
 have hf:fs=#[]:=by grind
 subst hf;have key:∀l:List Operand,mW H E (l.map (oz c.tm)) (l.map a.eval):=by
  intro l;induction l with
  |nil=>trivial |cons x l ih=>exact ⟨nU hd x,ih⟩
 refine ⟨_,.func (.func f) #[] (cs.map a.eval),h,rfl,⟨cs.map a.eval,rfl,by simp_all⟩,fun w'=>?_⟩;simp[execOp,ho,Instr.makeFunc]
theorem aiE{c:Core}{a:Act}{o:Oper}{x:Operand}{φ:SV×Core->Prop}(ho:o.op=.nilCheck x)(hd:mW H E c.tm a.tmps.toList)
  (h:(UA c (oz c.tm x)).All φ):QP P H E c a o φ:=by
 have dx:=nU (H:=H) (E:=E) hd x;unfold UA at h;split at h
 ·rename_i i off hx
  rw[hx] at dx;have dx':=dx;obtain ⟨b,_,he⟩:=dx;exact ⟨_,a.eval x,h,rfl,dx',fun w'=>by simp[execOp,ho,he]⟩
 ·rename_i i st j off hx
  rw[hx] at dx;have dx':=dx;obtain ⟨b,_,_,_,_,he⟩:=dx;exact ⟨_,a.eval x,h,rfl,dx',fun w'=>by simp[execOp,ho,he]⟩
 ·rename_i st n g i off hx
  rw[hx] at dx;have dx':=dx;obtain ⟨b,_,_,he,_⟩:=dx;exact ⟨_,a.eval x,h,rfl,dx',fun w'=>by simp[execOp,ho,he]⟩
 ·rename_i f l hx
  rw[hx] at dx;have dx':=dx;obtain ⟨vs,he,_⟩:=dx;exact ⟨_,a.eval x,h,rfl,dx',fun w'=>by simp[execOp,ho,he]⟩
 ·exact h.elim
theorem amT{c:Core}{a:Act}{o:Oper}{t:Nat}{x:Operand}{φ:SV×Core->Prop}(hC:oh P C)(ho:o.op=.load t x)(hd:mW H E c.tm a.tmps.toList)
  (hh:mZ K H E w c.hp) (hg:qh C.gls H) (h:(Qc C c t (oz c.tm x)).All φ):Oa P H E w c a o φ:=by
 have dx:=nU (H:=H) (E:=E) hd x;unfold Qc at h;split at h
 ·rename_i i hi
  have ht:=hC.ty _ _ hi;obtain ⟨sv,hs,hφ⟩:=xE h;obtain ⟨ad,cs,he,hl,hden,hc⟩:=RD dx hh hg (fun e=>by obtain ⟨_,_,_,_,_,_,_,_,_,h1⟩:=ht.info;grind) hs;refine ⟨_,_,hφ,rfl,hden,fun w' ha hon=>?_⟩;have:=X3 (w:=w') ht hl (hc w' ha hon);simp_all [execOp,Instr.loadAt,dF,DW]
 ·exact h.elim
theorem UJ{fields:Array Field}{fs:List (Nat×Nat×Bool)}(hf:X0 P fields fs){j off size:Nat}{agg:Bool}(h:fs[j]?=ae (off,size,agg)):
  ∃(f:Field) (inf:TypeInfo),fields[j]?=ae f/\f.offset=off/\P.info? f.type=ae inf/\inf.size=size/\(P.underlying f.type).isSome=aj/\
   (match P.underlying f.type with|some (.struct _) |some (.array _ _)=>aj|_=>ag)=agg:=by
 obtain ⟨h1,h2⟩:=hf;have hj:j<fields.size:=by grind
 have hfj:fields[j]?=ae fields[j]:=Array.getElem?_eq_getElem hj;grind
theorem AA{n m:Nat}(h:bT n m=aj):n<m:=Nat.le_of_ble_eq_true h
theorem TF{f:Field}{inf:TypeInfo}(hi:P.info? f.type=ae inf)(hs:0<inf.size)(a:Addr)(w:World):(fieldPlace a f).run P w=.ok (a.add f.offset) w:=by
 simp_all [fieldPlace,sizeOf,typeInfo,Nat.ne_of_gt]
theorem Oe{c:Core}{a:Act}{o:Oper}{t f:Nat}{x:Operand}{φ:SV×Core->Prop}(hC:oh P C)(ho:o.op=.fieldAddr t x f)(hd:mW H E c.tm a.tmps.toList)
  (h:(DK C c t f (oz c.tm x)).All φ):QP P H E c a o φ:=by
 have dx:=nU (H:=H) (E:=E) hd x;unfold DK at h;split at h
 ·rename_i i hi
  have ht:=(hC.ty _ _ hi).desc;split at h
  ·rename_i fs hty
   rw[hty] at ht;obtain ⟨fields,hu,hf⟩:=ht;split at h
   ·rename_i off size agg hfs
    cases hb:bT 0 size<;>simp only[hb,cond_true,cond_false] at h
    ·exact h.elim
    obtain ⟨fd,inf,h1,rfl,h2,h3,_⟩:=UJ hf hfs;have hp:=fun (ad:Addr) (w':World)=>TF (P:=P) h2 (by simp_all) ad w';split at h
    ·rename_i id off2 hx
     rw[hx] at dx;obtain ⟨b,h4,he⟩:=dx;refine ⟨_,.pointer (ae ⟨b,off2+fd.offset,aq⟩),h,rfl,⟨b,h4,rfl⟩,fun w'=>?_⟩;simp_all [execOp,gA,run_underlying,dF,bF]
    ·rename_i id st j off2 hx
     rw[hx] at dx;obtain ⟨b,v,h4,h5,h6,he⟩:=dx;refine ⟨_,.pointer (ae ⟨b,j*st+off2+fd.offset,aq⟩),h,rfl,⟨b,v,h4,h5,h6,by simp⟩,fun w'=>?_⟩;simp_all [execOp,gA,run_underlying,dF,bF]
    ·rename_i st n g j off2 hx
     rw[hx] at dx;obtain ⟨b,o2,cc,he,h4⟩:=dx;refine ⟨_,.pointer (ae ⟨b,o2+off2+fd.offset,aq⟩),h,rfl,⟨b,o2,cc,by simp,h4⟩,fun w'=>?_⟩;simp_all [execOp,gA,run_underlying,dF,bF]
    ·exact h.elim
   ·exact h.elim
  ·exact h.elim
 ·exact h.elim
theorem agR{ty:Nat}{inf:TypeInfo}{agg:Bool}(hi:P.info? ty=ae inf)(hs:(P.underlying ty).isSome=aj)
  (ha:(match P.underlying ty with|some (.struct _) |some (.array _ _)=>aj|_=>ag)=agg) {cs:List Value} {off:Nat} (hl:off+inf.size<=cs.length) (h1:agg=ag->inf.size=1) (w:World) :
  (part ty cs.toArray off).run P w=.ok (DW agg ((cs.drop off).take inf.size)) w:=by
 cases hu:P.underlying ty with
 |none=>grind |some d=>
  rw[hu] at ha;have hag:(isAgg ty).run P w=.ok agg w:=by
   unfold isAgg;simp only[cn,run_underlying hu,cH];cases d<;>simp_all
  unfold part;simp only[cn,hag,cH];cases agg
  ·have h1:=h1 rfl
   have hlt:off<cs.length:=by omega
   rw[h1];have:(cs.drop off).take 1=[cs[off]]:=by rw[List.drop_eq_getElem_cons hlt];rfl
   simp[this,DW,hlt]
  ·simp[sizeOf,typeInfo,hi,DW,List.extract_eq_take_drop]
theorem aaM{c:Core}{a:Act}{o:Oper}{t f:Nat}{x:Operand}{φ:SV×Core->Prop}(hC:oh P C)(ho:o.op=.field t x f)(hd:mW H E c.tm a.tmps.toList)
  (h:(LM C c t f (oz c.tm x)).All φ):QP P H E c a o φ:=by
 have dx:=nU (H:=H) (E:=E) hd x;unfold LM at h;split at h
 ·rename_i i hi
  have ht:=(hC.ty _ _ hi).desc;split at h
  ·rename_i fs l hty hx
   rw[hty] at ht;obtain ⟨fields,hu,hf⟩:=ht;rw[hx] at dx;obtain ⟨vs,he,hl⟩:=dx;split at h
   ·rename_i off size agg hfs
    obtain ⟨sv,hs,hφ⟩:=xE h;obtain ⟨fd,inf,h1,rfl,h2,h3,h4,h5⟩:=UJ hf hfs;subst h3;cases hsg:seg l fd.offset inf.size with
    |none=>simp_all |some r=>
     simp only[hsg,bL] at hs;obtain ⟨hle,rfl⟩:=Aw hsg;have hlen:=hl.length;refine ⟨_,DW agg ((vs.toList.drop fd.offset).take inf.size),hφ,rfl,Az hs ((hl.drop _).take _),fun w'=>?_⟩;have hp:=agR (P:=P) h2 h4 h5 (cs:=vs.toList) (off:=fd.offset) (by omega) (fun e=>by
      subst e;rcases DV hs with ⟨e,_⟩ |⟨_,e⟩
      ·cases e
      grind [List.length_take]) w'
     simp_all [execOp,Instr.field,run_underlying,asAgg]
   ·exact h.elim
  ·exact h.elim
 ·exact h.elim
end
end Go.Sx
