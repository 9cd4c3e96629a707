/- Own work. -/
import Derived.OrdersHeld
import Derived.Calls
import Derived.Laws.AppendOwn
import Derived.Laws.OwnMore
import Derived.Below
import Derived.WalkKit
open Int (ofNat)
open Array renaming length_toList->br,getElem?_toList->eG
open BitVec renaming ofInt->bN
open Bool renaming true->ah,false->ag
open Go.Addr renaming add_zero'->kg,add_lit->bx
open Go.Instr renaming sureAddr->dJ,fieldAt->gD
open Go.Region renaming binds->d9,ready->du,free->fL
open Go.Result renaming andThen_ok->cK
open Go.Sem renaming run_bind->ct
open Go.Value renaming oneCell'->da
open Go.World renaming cell?->fM
open List renaming range'->dO,mem_range'_1->jf,getD_cons_zero->iB,length_cons->cJ,range'_succ->jx,range_eq_range'->ik,replicate->bf,range->aD,getElem?_eq_getElem->aC,map_cons->dF,getElem?_take->bU,getElem?_drop->cd,length_map->ck
open Nat renaming beq->bJ,blt->bO,ble_eq_true_of_le->ij,ble->cq,add_zero->dH,add_assoc->iC
open Option renaming none->ao,some->ae,bind_some->bB
open Option.some renaming injEq->dP
namespace Go.Sx
instance (priority:=high)awZ:BEq Nat:=⟨bJ⟩
instance (priority:=high)ar5:LawfulBEq Nat where
 eq_of_beq h:=Nat.eq_of_beq_eq_true h
 rfl:=Nat.beq_refl _
inductive BT(α:Type)where
 |nil
 |node (l:BT α) (k:Nat) (v:α) (r:BT α)
def BT.get{α:Type}:BT α->Nat->Option α
 | .nil,_=>ao | .node l k v r,i=>bif bO i k then l.get i else bif bO k i then r.get i else ae v
def BT.All{α:Type}(φ:Nat->α->Prop):BT α->Prop
 | .nil=>True | .node l k v r=>φ k v/\l.All φ/\r.All φ
def BT.allB{α:Type}(f:Nat->α->Bool):BT α->Bool
 | .nil=>ah | .node l k v r=>f k v&&l.allB f&&r.allB f
theorem BT.All.get{α:Type}{φ:Nat->α->Prop}:∀{t:BT α} {i:Nat} {v:α},t.All φ->t.get i=ae v->φ i v
 | .nil,_,_,_,h=>by cases h | .node l k v r,i,v',h,hg=>by
  simp only[BT.get] at hg;cases h1:bO i k<;>simp only[h1,cond_true,cond_false] at hg
  ·cases h2:bO k i<;>simp only[h2,cond_true,cond_false] at hg
   ·cases hg
    have a1:¬i<k:=fun h=>by grind [bO,ij]
    have a2:¬k<i:=fun h=>by grind [bO,ij]
    obtain rfl:k=i:=by omega
    exact h.1
   ·exact BT.All.get h.2.2 hg
  ·exact BT.All.get h.2.1 hg
theorem BT.MW{α:Type}{f:Nat->α->Bool}:∀{t:BT α},t.allB f=ah->t.All fun k v=>f k v=ah
 | .nil,_=>trivial | .node l k v r,h=>by
  simp only[BT.allB,Bool.and_eq_true] at h;exact ⟨h.1.1,BT.MW h.1.2,BT.MW h.2⟩
inductive Sh where
 |i (k:IntKind) (n:Int)
 |b (x:Bool)
 |str (l:List UInt8)
 |v (x:Value)
 |sl (st n:Nat) (get:Nat->List Sh)
 |os (e st n:Nat) (get:Nat->List Sh)
 |agg (l:List Sh)
 |mX (l:List Sh)
 |qK (t:Nat) (x:Sh)
 |fn (f:Nat) (caps:List Sh)
 |er (g T:Nat)
 |pt (l:List Sh)
 deriving Inhabited
inductive SV where
 |any
 |val (v:Value)
 |int (k:IntKind) (n:Int)
 |sym (k:IntKind) (n:Int)
 |bool (b:Bool)
 |test (b:Bool)
 |str (l:List UInt8)
 |ptr (id off:Nat)
 |gs (id:Nat)
 |gp (id st i off:Nat)
 |uN|nS|xX|sS|wS
 |fn (f:Nat) (cap:List SV)
 |agg (l:List SV)
 |mX (l:List SV)
 |qK (t:Nat) (x:SV)
 |mp (id:Nat)
 |sh (s:Sh)
 |yD (st n:Nat) (get:Nat->List Sh) (i off:Nat)
 |glob (g:Nat)
 |ev (id:Nat)
 |vw (id n:Nat)
 deriving Inhabited
inductive VT where
 |int|bool
 deriving DecidableEq,Inhabited
inductive SB where
 |box (cells:List SV) (elem:Nat)
 |row (cells:List SV) (elem st n:Nat)
 |own (elem st n:Nat) (get:Nat->List Sh)
 |fz (st n:Nat) (get:Nat->List Sh)
 |map (es:List (SV×SV))
 |KA (l:List Sh)
 |yE (elem st n:Nat) (get:Nat->List Sh) (more:List SV)
 |fm (k:IntKind) (M:Int->Option Value) (fs us:List (Int×Bool×SV)) (tag:Option (Nat×Int))
 |buf (e:Nat) (l:List UInt8)
 |pm (vt:VT) (M:Int×List UInt8->Option Value) (us:List ((Int×List UInt8)×Bool×SV))
inductive Ty where
 |int (k:IntKind) |bool|str|ptr (e:Nat) |fn|iface
 |map (k e:Nat)
 |slice (e:Nat)
 |struct (fs:List (Nat×Nat×Bool))
 |arr (n e:Nat)
 |other
structure BQ where
 ty:Ty
 size:Nat
 bytes:Nat
 zero:List SV
structure Prim where
 add:IntKind->Int->Int->Int
 sub:IntKind->Int->Int->Int
 mul:IntKind->Int->Int->Int
 neg:IntKind->Int->Int
 lt:Int->Int->Bool
 le:Int->Int->Bool
 eq:Int->Int->Bool
 max:Int->Int->Int
 min:Int->Int->Int
 inB:Int->Nat->Bool
 upTo:Int->Nat->Bool
 toN:Int->Nat
 nK:Nat->Int
 addN:Nat->Nat->Nat
 uy:Nat->Nat->Nat
 Wu:Nat->Nat->Bool
 room:Nat->Nat->Bool
 len:List UInt8->Nat
 nt:Bool->Bool
 ite:Bool->Bool->Bool->Bool
 beq:Bool->Bool->Bool
 seq:List UInt8->List UInt8->Bool
 app:List UInt8->List UInt8->List UInt8
 snoc:(Nat->List Sh)->Nat->(Nat->List Sh)->Nat->List Sh
 upd:(Nat->List Sh)->Nat->Nat->List Sh->Nat->List Sh
 bin:BinOp->IntKind->Int->Int->Int
 conv:IntKind->Int->Int
 ins:(Nat->List Sh)->Nat->List Sh->Nat->List Sh
 kp:Int->List UInt8->Int->List UInt8->Bool
 isS:Option Value->Bool
 ari:Option Value->Int
 AA:Option Value->Bool
inductive oM where
 |int (a b:Int)
 |nat (a b:Nat)
 |bool (a b:Bool)
 |str (a b:List UInt8)
 |val (a b:Value)
 |sh (a b:Sh)
 |get (n:Nat) (g g':Nat->List Sh)
 |Gf (g g':Nat->List Sh)
 |mp (M M':Int->Option Value)
 |mg (M M':Int×List UInt8->Option Value)
def oM.ok:oM->Prop
 | .int a b=>a=b | .nat a b=>a=b | .bool a b=>a=b | .str a b=>a=b | .val a b=>a=b | .sh a b=>a=b | .get n g g'=>∀i,i<n->g i=g' i | .Gf g g'=>g=g' | .mp M M'=>M=M' | .mg M M'=>M=M'
def oM.all:List oM->Prop
 |[]=>True |e::l=>e.ok/\oM.all l
inductive Tree(α:Type)where
 |leaf (a:α)
 |node (b:Bool) (t f:Tree α)
 |need (b:Bool) (t:Tree α)
 |must (l:List oM) (t:Tree α)
 |both (t f:Tree α)
 |fail
def Tree.bind{α β:Type}:Tree α->(α->Tree β)->Tree β
 | .leaf a,k=>k a | .node b t f,k=>.node b (t.bind k) (f.bind k) | .need b t,k=>.need b (t.bind k) | .must l t,k=>.must l (t.bind k) | .both t f,k=>.both (t.bind k) (f.bind k) | .fail,_=>.fail
def Tree.All{α:Type}(φ:α->Prop):Tree α->Prop
 | .leaf a=>φ a | .node b t f=>(b=ah->t.All φ)/\(b=ag->f.All φ) | .need b t=>b=ah/\t.All φ | .must l t=>oM.all l/\t.All φ | .both t f=>t.All φ/\f.All φ | .fail=>False
def Tree.lone{α:Type}:Tree α->Bool
 | .both _ _=>ag | .node _ t f=>t.lone&&f.lone | .need _ t=>t.lone | .must _ t=>t.lone |_=>ah
structure Ctx where
 A:Prim
 tys:BT BQ
 fns:BT Func
 spec:Nat->Option (List Sh->Tree Sh)
 eqs:List Nat
 Ox:List Nat
 Cm:Nat->List Nat->Bool
 gls:List (Nat×Sh)
 live:BT Nat
 alj:Nat->Option (IntKind×List Int):=fun _=>ao
 lits:Bool:=ag
 ins:Nat->Option Nat:=fun _=>ao
 lend:Nat->Bool:=fun _=>ag
 grow:Nat->Option Nat:=fun _=>ao
 VB:List Nat:=[]
 Wv:Nat->Option VT:=fun _=>ao
def mQ{α:Type}:List (Nat×α)->Nat->Option α
 |[],_=>ao |(j,x)::l,i=>bif j==i then ae x else mQ l i
def hset{α:Type}:List (Nat×α)->Nat->α->List (Nat×α)
 |[],_,_=>[] |(j,x)::l,i,y=>bif j==i then (j,y)::l else (j,x)::hset l i y
def hdel{α:Type}:List (Nat×α)->Nat->List (Nat×α)
 |[],_=>[] |(j,x)::l,i=>bif j==i then hdel l i else (j,x)::hdel l i
def hins{α:Type}:List (Nat×α)->Nat->α->List (Nat×α)
 |[],i,y=>[(i,y)] |(j,x)::l,i,y=>bif bO j i then (j,x)::hins l i y else (i,y)::(j,x)::l
structure Core where
 tm:List SV
 hp:List (Nat×SB)
 nx:Nat
 lim:Nat
 tc:List Nat
def SV.ofValue:Value->SV
 | .int k n=>.int k n | .bool b=>.bool b | .pointer ao=>.uN | .slice ao 0 0=>.nS | .nilFunc=>.xX | .nilIface=>.sS | .map ao=>.wS | .string s=>.str s.data.toList | .chan ao=>.val (.chan ao) |_=>.any
def SV.lit:Value->SV
 | .int k n=>.int k n | .nilIface=>.sS | .bool b=>.bool b |x=>.val x
mutual
def Sm:Sh->SV
 | .agg l=>.agg (EW l) | .mX l=>.mX (EW l) | .fn f l=>.fn f (EW l) | .i k n=>.sym k n | .b x=>.test x | .v x=>SV.lit x | .pt l=>.yD l.length 1 (fun _=>l) 0 0 |s=>.sh s
def EW:List Sh->List SV
 |[]=>[] |x::r=>Sm x::EW r
end
def Sh.AB:Sh->SV
 | .fn f l=>.fn f (EW l) | .i k n=>.sym k n | .b x=>.test x | .v x=>SV.lit x | .pt l=>.yD l.length 1 (fun _=>l) 0 0 |s=>.sh s
def oI(tm:List SV):Operand->SV
 | .tmp t=>tm.getD t .any | .const v=>.ofValue v | .global g=>.glob g | .func f=>.fn f []
def SV.cells:SV->List SV
 | .agg l=>l |x=>[x]
def setAt(l:List SV)(off:Nat):List SV->List SV
 |[]=>l |x::r=>setAt (l.set off x) (off+1) r
def Ty.isAgg:Ty->Bool
 | .struct _=>ah | .arr _ _=>ah |_=>ag
def pack(agg:Bool)(l:List SV):Option SV:=
 bif agg then ae (.agg l) else match l with
  |[x]=>ae x |_=>ao
def seg(l:List SV)(off n:Nat):Option (List SV):=
 bif cq (off+n) l.length then ae ((l.drop off).take n) else ao
def SV.okc:SV->Bool
 | .any=>ag | .ev _=>ag | .sh (.agg _)=>ag |_=>ah
def I7(place:Nat->Option (Nat×Nat))(ev:Operand->SV):List SV->List (Nat×Operand)->Option (List SV)
 |z,[]=>ae z |z,(i,x)::r=>match place i with
  |some (off,size)=>bif (ev x).okc&&(ev x).cells.length==size&&cq (off+size) z.length then I7 place ev (setAt z off (ev x).cells) r else ao |none=>ao
def rep(l:List SV):Nat->List SV
 |0=>[] |n+1=>l++rep l n
def chunks(st:Nat):Nat->List Sh->List (List Sh)
 |0,_=>[] |n+1,l=>l.take st::chunks st n (l.drop st)
def nM(ll:List (List Sh))(i:Nat):List Sh:=ll.getD i []
def SV.one:SV->Bool
 | .any| .agg _| .mX _| .ev _=>ag | .sh (.agg _) | .sh (.mX _)=>ag |_=>ah
def vY:List SV->Bool
 |[]=>ah |x::r=>x.one&&vY r
mutual
def rZ(hp:List (Nat×SB)):SV->Option Sh
 | .int k n=>ae (.i k n) | .sym k n=>ae (.i k n) | .bool x=>ae (.b x) | .test x=>ae (.b x) | .str l=>ae (.str l) | .val v=>ae (.v v) | .uN=>ae (.v (.pointer ao)) | .xX=>ae (.v .nilFunc) | .sS=>ae (.v .nilIface) | .nS=>ae (.sl 0 0 fun _=>[]) | .sh s=>ae s | .agg l=>(xY hp l).map .agg | .mX l=>(xY hp l).map .mX | .fn f l=>(xY hp l).map (.fn f) | .qK t x=>(rZ hp x).map (.qK t) | .gs id=>match mQ hp id with
  |some (.fz st m g)=>ae (.sl st m g) |_=>ao
 | .ptr id off=>match mQ hp id with
  |some (.KA l)=>bif off==0 then ae (.pt l) else ao |_=>ao
 | .yD st _ g i off=>bif off==0&&(g i).length==st then ae (.pt (g i)) else ao |_=>ao
def xY(hp:List (Nat×SB)):List SV->Option (List Sh)
 |[]=>ae [] |x::r=>match rZ hp x,xY hp r with
  |some s,ae l=>ae (s::l) |_,_=>ao
end
mutual
def af8:SV->List Nat
 | .gs id=>[id] | .ptr id _=>[id] | .agg l=>Ai l | .mX l=>Ai l | .fn _ l=>Ai l | .qK _ x=>af8 x |_=>[]
def Ai:List SV->List Nat
 |[]=>[] |x::r=>af8 x++Ai r
end
def wU:Nat->List (Nat×SB)->List Nat->Option (List (Nat×SB))
 |_,hp,[]=>ae hp |0,_,_=>ao |m+1,hp,id::r=>match mQ hp id with
  |some (.fz _ _ _)=>wU m hp r |some (.KA _)=>wU m hp r |some (.own _ st n g)=>wU m (hset hp id (.fz st n g)) r |some (.row cells _ st n)=>match xY hp cells with
   |some l=>bif vY cells then wU m (hset hp id (.fz st n (nM (chunks st n l)))) r else ao |none=>wU m hp (Ai cells++id::r)
  |some (.box cells _)=>match xY hp cells with
   |some l=>bif vY cells then wU m (hset hp id (.KA l)) r else ao |none=>wU m hp (Ai cells++id::r)
  |_=>ao
def freeze(hp:List (Nat×SB))(ids:List Nat):Option (List (Nat×SB)):=wU 40 hp ids
mutual
def qA:Sh->Nat->SV×List (Nat×SB)×Nat
 | .os e st n g,b=>(.gs b,[(b,.own e st n g)],b+1) | .agg l,b=>let r:=tY l b;(.agg r.1,r.2) | .mX l,b=>let r:=tY l b;(.mX r.1,r.2) | .i k n,b=>(.sym k n,[],b) | .b x,b=>(.test x,[],b) | .v x,b=>(SV.lit x,[],b) | .fn f l,b=>(.fn f (EW l),[],b) | .pt l,b=>(.yD l.length 1 (fun _=>l) 0 0,[],b) |s,b=>(.sh s,[],b)
def tY:List Sh->Nat->List SV×List (Nat×SB)×Nat
 |[],b=>([],[],b) |x::r,b=>let p:=qA x b;let q:=tY r p.2.2;(p.1::q.1,p.2.1++q.2.1,q.2.2)
end
def rM(hp:List (Nat×SB)):List (Nat×SB)->List (Nat×SB)
 |[]=>hp |(i,b)::r=>rM (hins hp i b) r
def PY(A:Prim)(op:BinOp)(k:IntKind)(x y:Int):Option Int:=
 match op with
 | .add=>ae (A.add k x y) | .sub=>ae (A.sub k x y) | .mul=>ae (A.mul k x y) |_=>ao
def abx(op:BinOp)(k:IntKind)(x y:Int):Option Int:=
 match op with
 | .add=>ae (k.wrap (x+y)) | .sub=>ae (k.wrap (x - y)) | .mul=>ae (k.wrap (x*y)) |_=>ao
def adf(A:Prim)(op:BinOp)(x y:Int):Option Bool:=
 match op with
 | .eql=>ae (A.eq x y) | .neq=>ae (A.nt (A.eq x y)) | .lss=>ae (A.lt x y) | .leq=>ae (A.le x y) | .gtr=>ae (A.lt y x) | .geq=>ae (A.le y x) |_=>ao
def cmpL(op:BinOp)(x y:Int):Option Bool:=
 match op with
 | .eql=>ae (x==y) | .neq=>ae (x != y) | .lss=>ae (decide (x<y)) | .leq=>ae (decide (x<=y)) | .gtr=>ae (decide (y<x)) | .geq=>ae (decide (y<=x)) |_=>ao
def Ctx.ty(C:Ctx)(t:Nat):Option BQ:=C.tys.get t
def orO{α:Type}:Option α->Option α->Option α
 |some a,_=>ae a |none,b=>b
def su(op:BinOp)(nil:Bool):Option SV:=
 match op with
 | .eql=>ae (.bool nil) | .neq=>ae (.bool !nil) |_=>ao
def eqB(A:Prim)(op:BinOp)(x y:Bool):Option SV:=
 match op with
 | .eql=>ae (.test (A.beq x y)) | .neq=>ae (.test (A.nt (A.beq x y))) |_=>ao
def eqS(A:Prim)(op:BinOp)(x y:List UInt8):Option SV:=
 match op with
 | .eql=>ae (.test (A.seq x y)) | .neq=>ae (.test (A.nt (A.seq x y))) |_=>ao
inductive Cq where
 |i (n:Int)
 |b (x:Bool)
 deriving DecidableEq
def Cq.v:Cq->Value
 | .i n=>.int .i64 n | .b x=>.bool x
def GV:List SV->Option (List Cq)
 |[]=>ae [] | .int .i64 n::r=>(GV r).map fun l=>.i n::l | .sym .i64 n::r=>(GV r).map fun l=>.i n::l | .bool x::r=>(GV r).map fun l=>.b x::l | .test x::r=>(GV r).map fun l=>.b x::l |_=>ao
def qV:List Cq->List SV->Bool
 |[],[]=>ah | .i _::r,.int .i64 _::z=>qV r z | .b _::r,.bool _::z=>qV r z |_,_=>ag
def I8(A:Prim):List Cq->List Cq->Bool
 | .i x::xs,.i y::ys=>A.ite (A.eq x y) (I8 A xs ys) ag | .b x::xs,.b y::ys=>A.ite (A.beq x y) (I8 A xs ys) ag |_,_=>ah
def aaf(gls:List (Nat×Sh))(g T:Nat):Bool:=match mQ gls g with
 |some (.er g' T')=>g'==g&&T'==T |_=>ag
def alm(gls:List (Nat×Sh))(op:BinOp):SV->SV->Option SV
 | .fn _ _,.xX=>su op ag | .xX,.xX=>su op ah | .ptr _ _,.uN=>su op ag | .yD _ _ _ _ _,.uN=>su op ag | .val (.pointer (ae _)),.uN=>su op ag | .uN,.uN=>su op ah | .qK _ _,.sS=>su op ag | .sh (.qK _ _),.sS=>su op ag | .sh (.er _ _),.sS=>su op ag | .sS,.sS=>su op ah | .sh (.er g T),.sh (.er g' T')=>bif g==g'&&T==T' then su op ah else bif aaf gls g T&&aaf gls g' T'&&T==T' && !(g==g') then su op ag else ao | .sS,.sh (.er _ _)=>su op ag | .qK t _,.sh (.er _ T)=>bif t==T then ao else su op ag | .sh (.qK t _),.sh (.er _ T)=>bif t==T then ao else su op ag |_,_=>ao
def vI:Ty->SV->Bool
 | .fn,.fn _ _=>ah | .fn,.xX=>ah | .ptr _,.ptr _ _=>ah | .ptr _,.yD _ _ _ _ _=>ah | .ptr _,.val (.pointer (ae _))=>ah | .ptr _,.uN=>ah | .iface,.qK _ _=>ah | .iface,.sh (.qK _ _)=>ah | .iface,.sh (.er _ _)=>ah | .iface,.sS=>ah |_,_=>ag
def isConst:Operand->Bool
 | .const _=>ah |_=>ag
def aln(A:Prim)(op:BinOp)(x y:SV):Option SV:=
 match x,y with
 | .bool a,.bool b=>match op with| .eql=>ae (.bool (a==b)) | .neq=>ae (.bool (a != b)) |_=>ao
 | .bool a,.test b=>eqB A op a b | .test a,.bool b=>eqB A op a b | .test a,.test b=>eqB A op a b |_,_=>ao
def PZ:SV->Bool
 | .sS=>ah |_=>ag
def arj(Ox:List Nat):SV->Bool
 | .sh (.er _ T)=>Ox.contains T |_=>ah
def aic(Ox:List Nat)(gls:List (Nat×Sh))(op:BinOp)(ty:Ty)(lit:Bool)(x y:SV):Option SV:=
 bif arj Ox x&&vI ty x&&vI ty y&&(lit || !(PZ x&&PZ y)) then alm gls op x y else ao
def alo(C:Ctx)(op:BinOp)(t:Nat)(lit:Bool)(x y:SV):Option SV:=
 let A:=C.A
 match x,y with
 | .int k a,.int l b=>bif k==l then orO ((abx op k a b).map (.int k)) ((cmpL op a b).map .bool) else ao | .int k a,.sym l b=>bif k==l then orO ((PY A op k a b).map (.sym k)) ((adf A op a b).map .test) else ao | .sym k a,.int l b=>bif k==l then orO ((PY A op k a b).map (.sym k)) ((adf A op a b).map .test) else ao | .sym k a,.sym l b=>bif k==l then orO ((PY A op k a b).map (.sym k)) ((adf A op a b).map .test) else ao | .str a,.str b=>match op with| .eql=>ae (.bool (a==b)) | .neq=>ae (.bool (a != b)) |_=>ao
 | .str a,.sh (.str b)=>eqS A op a b | .sh (.str a),.str b=>eqS A op a b | .sh (.str a),.sh (.str b)=>eqS A op a b | .agg a,.agg b=>match GV a,GV b,C.ty t with
  |some a,ae b,ae i=>bif C.eqs.contains t&&qV a i.zero&&qV b i.zero then match op with
   | .eql=>ae (.test (I8 A a b)) | .neq=>ae (.test (A.nt (I8 A a b))) |_=>ao
   else ao
  |_,_,_=>ao
 |x,y=>match C.ty t with
  |none=>ao |some i=>match i.ty with
   | .bool=>aln A op x y |ty=>aic C.Ox C.gls op ty lit x y
def alp(hp:List (Nat×SB)):SV->Option Nat
 | .gs id=>match mQ hp id with
  |some (.row _ _ _ n)=>ae n |some (.own _ _ n _)=>ae n |some (.fz _ n _)=>ae n |_=>ao
 | .sh (.sl _ n _)=>ae n |_=>ao
def Sr:Operand->Bool
 | .const (.slice ao 0 0)=>ah |_=>ag
def aag(C:Ctx)(c:Core)(op:BinOp)(t:Nat)(y:Operand)(x:SV):Option (Tree (SV×Core)):=
 match C.ty t with
 |some i=>match i.ty with
  | .slice _=>bif Sr y then
    match su op ah,su op ag with
    |some a,ae b=>match x with
     | .nS=>ae (.leaf (a,c)) |x=>match alp c.hp x with
      |some n=>ae (.node (C.A.Wu n 0) (.both (.leaf (a,c)) (.leaf (b,c))) (.leaf (b,c))) |none=>ao
    |_,_=>ao
   else ao
  |_=>ao
 |none=>ao
def textOf:SV->Option (List UInt8)
 | .str l=>ae l | .sh (.str l)=>ae l |_=>ao
def P5(op:BinOp)(k:IntKind)(a b:Int):Int:=
 match op with
 | .and=>k.wrap (bN k.bits a&&&bN k.bits b).toNat | .or=>k.wrap (bN k.bits a|||bN k.bits b).toNat | .xor=>k.wrap (bN k.bits a^^^bN k.bits b).toNat | .andNot=>k.wrap (bN k.bits a&&&~~~ bN k.bits b).toNat | .shl=>k.wrap (a*2^(min b.toNat k.bits)) | .shr=>a.fdiv (2^(min b.toNat k.bits)) | .quo=>k.wrap (a.tdiv b) | .rem=>a.tmod b |_=>0
def numOf:SV->Option (IntKind×Int×Bool)
 | .int k n=>ae (k,n,ah) | .sym k n=>ae (k,n,ag) |_=>ao
def EX(A:Prim)(op:BinOp)(k:IntKind)(a b:Int)(la lb:Bool)(c:Core):Tree (SV×Core):=
 .leaf (bif la&&lb then .int k (P5 op k a b) else .sym k (A.bin op k a b),c)
def alq(C:Ctx)(c:Core)(op:BinOp)(x y:SV):Option (Tree (SV×Core)):=
 match op,numOf x,numOf y with
 | .shl,ae (k,a,la),ae (_,b,lb)=>ae (bif lb then bif decide (0<=b) then EX C.A .shl k a b la lb c else .fail else .need (C.A.le 0 b) (EX C.A .shl k a b la lb c)) | .shr,ae (k,a,la),ae (_,b,lb)=>ae (bif lb then bif decide (0<=b) then EX C.A .shr k a b la lb c else .fail else .need (C.A.le 0 b) (EX C.A .shr k a b la lb c)) | .quo,ae (k,a,la),ae (l,b,lb)=>bif k==l then ae (bif lb then bif b==0 then .fail else EX C.A .quo k a b la lb c else .need (C.A.nt (C.A.eq b 0)) (EX C.A .quo k a b la lb c)) else ao | .rem,ae (k,a,la),ae (l,b,lb)=>bif k==l then ae (bif lb then bif b==0 then .fail else EX C.A .rem k a b la lb c else .need (C.A.nt (C.A.eq b 0)) (EX C.A .rem k a b la lb c)) else ao | .and,ae (k,a,la),ae (l,b,lb)=>bif k==l then ae (EX C.A .and k a b la lb c) else ao | .or,ae (k,a,la),ae (l,b,lb)=>bif k==l then ae (EX C.A .or k a b la lb c) else ao | .xor,ae (k,a,la),ae (l,b,lb)=>bif k==l then ae (EX C.A .xor k a b la lb c) else ao | .andNot,ae (k,a,la),ae (l,b,lb)=>bif k==l then ae (EX C.A .andNot k a b la lb c) else ao |_,_,_=>ao
def aie(C:Ctx)(c:Core)(op:BinOp)(x y:SV):Option (Tree (SV×Core)):=
 match op with
 | .add=>match textOf x,textOf y with
  |some a,ae b=>ae (.need (C.A.Wu (C.A.addN (C.A.len a) (C.A.len b)) 9223372036854775807) (.leaf (match x,y with
   | .str a,.str b=>.str (a++b) |_,_=>.sh (.str (C.A.app a b)),c)))
  |_,_=>ao
 |_=>ao
def Wx(C:Ctx)(c:Core)(op:BinOp)(t:Nat)(x y:Operand)(lit:Bool):Tree (SV×Core):=
 match alq C c op (oI c.tm x) (oI c.tm y) with
 |some r=>r |none=>match aie C c op (oI c.tm x) (oI c.tm y) with
 |some r=>r |none=>match aag C c op t y (oI c.tm x) with
 |some r=>r |none=>match alo C op t lit (oI c.tm x) (oI c.tm y) with
  |some v=>.leaf (v,c) |none=>.fail
def notS(A:Prim):SV->Option SV
 | .bool b=>ae (.bool !b) | .test b=>ae (.test (A.nt b)) |_=>ao
def negS(A:Prim):SV->Option SV
 | .int k n=>ae (.int k (k.wrap (0 - n))) | .sym k n=>ae (.sym k (A.neg k n)) |_=>ao
def VP:SV->Option Bool
 | .bool x=>ae x | .test x=>ae x |_=>ao
def af9(A:Prim)(c a b:SV):Option SV:=
 match c with
 | .bool ah=>ae a | .bool ag=>ae b | .test c=>match VP a,VP b with
  |some x,ae y=>ae (.test (A.ite c x y)) |_,_=>ao
 |_=>ao
def aif(A:Prim)(hp:List (Nat×SB)):SV->Option SV
 | .gs id=>match mQ hp id with
  |some (.row _ _ _ n)=>ae (.int .i64 n) |some (.own _ _ n _)=>ae (.sym .i64 (A.nK n)) |some (.yE _ st n _ more)=>ae (.sym .i64 (A.nK (A.addN n (Nat.div more.length st)))) |some (.fz _ n _)=>ae (.sym .i64 (A.nK n)) |some (.buf _ l)=>ae (.sym .i64 (A.nK (A.len l))) |_=>ao
 | .vw _ n=>ae (.sym .i64 (A.nK n)) | .sh (.sl _ n _)=>ae (.sym .i64 (A.nK n)) | .nS=>ae (.int .i64 0) | .str l=>ae (.int .i64 l.length) | .sh (.str l)=>ae (.sym .i64 (A.nK (A.len l))) |_=>ao
def yK:SV->Option Int
 | .int _ n=>ae n | .sym _ n=>ae n |_=>ao
def ret(c:Core)(v:SV):Tree (SV×Core):=.leaf (v,c)
def alloc(c:Core)(b:SB)(v:SV):Tree (SV×Core):=
 bif bO c.nx c.lim then ret {c with hp:=hins c.hp c.nx b,nx:=c.nx+1} v else .fail
def DF(c:Core):Option SV->Tree (SV×Core)
 |some v=>.leaf (v,c) |none=>.fail
def Oy(C:Ctx)(c:Core)(e:Nat):Tree (SV×Core):=
 match C.ty e with
 |some i=>alloc c (.box i.zero e) (.ptr c.nx 0) |none=>.fail
def Oz(C:Ctx)(c:Core)(t:Nat)(parts:List (Nat×Operand)):Tree (SV×Core):=
 match C.ty t with
 |some i=>match i.ty with
  | .struct fs=>match I7 (fun j=>fs[j]?.map fun f=>(f.1,f.2.1)) (oI c.tm) i.zero parts with
   |some l=>ret c (.agg l) |none=>.fail
  |_=>.fail
 |none=>.fail
def D6(C:Ctx)(c:Core)(t n:Nat)(parts:List (Nat×Operand)):Tree (SV×Core):=
 match C.ty t with
 |some i=>match i.ty with
  | .slice e=>match C.ty e with
   |some j=>bif cq (n*j.size) 16777216&&bO 0 j.size then
     match I7 (fun k=>ae (k*j.size,j.size)) (oI c.tm) (rep j.zero n) parts with
     |some l=>alloc c (.row l e j.size n) (.gs c.nx) |none=>.fail
    else .fail
   |none=>.fail
  |_=>.fail
 |none=>.fail
def aby(C:Ctx)(c:Core)(agg:Bool)(size:Nat):SV->Option SV
 | .ptr id off=>match mQ c.hp id with
  |some (.box cs _)=>(seg cs off size).bind (pack agg) |some (.row cs _ _ _)=>(seg cs off size).bind (pack agg) |some (.KA l)=>(seg (l.map Sh.AB) off size).bind (pack agg) |_=>ao
 | .gp id st i off=>match mQ c.hp id with
  |some (.own _ st' _ g)=>bif st==st' then (seg ((g i).map Sh.AB) off size).bind (pack agg) else ao |some (.fz st' _ g)=>bif st==st' then (seg ((g i).map Sh.AB) off size).bind (pack agg) else ao |_=>ao
 | .yD _ _ g i off=>(seg ((g i).map Sh.AB) off size).bind (pack agg) | .glob g=>bif agg then ao else (mQ C.gls g).bind fun s=>match s with
  | .mX _=>ao |s=>ae s.AB
 |_=>ao
def Sv(C:Ctx)(c:Core)(t:Nat)(x:SV):Tree (SV×Core):=
 match C.ty t with
 |some i=>DF c (aby C c i.ty.isAgg i.size x) |none=>.fail
def OA(C:Ctx)(c:Core)(t:Nat)(x v:SV):Tree (SV×Core):=
 match C.ty t with
 |some i=>bif v.cells.length==i.size&&vY v.cells then
   match x with
   | .ptr id off=>match mQ c.hp id with
    |some (.box cs e)=>bif cq (off+i.size) cs.length then ret {c with hp:=hset c.hp id (.box (setAt cs off v.cells) e),tc:=id::c.tc} .any else .fail
    |some (.row cs e st n)=>bif cq (off+i.size) cs.length then ret {c with hp:=hset c.hp id (.row (setAt cs off v.cells) e st n),tc:=id::c.tc} .any else .fail
    |_=>.fail
   | .gp id st j off=>match freeze c.hp (Ai v.cells) with
    |some hp=>match mQ hp id with
     |some (.own e st' n g)=>bif st==st'&&cq (off+i.size) st then match xY hp v.cells with
       |some l=>ret {c with hp:=hset hp id (.own e st n (C.A.upd g j off l)),tc:=id::c.tc} .any
       |none=>.fail
      else .fail
     |_=>.fail
    |none=>.fail
   |_=>.fail
  else .fail
 |none=>.fail
def Wy(c:Core):SV->Tree (SV×Core)
 | .ptr i o=>ret c (.ptr i o) | .gp i st j o=>ret c (.gp i st j o) | .yD st n g i o=>ret c (.yD st n g i o) | .fn f l=>ret c (.fn f l) |_=>.fail
def EY(C:Ctx)(c:Core)(t f:Nat)(x:SV):Tree (SV×Core):=
 match C.ty t with
 |some i=>match i.ty with
  | .struct fs=>match fs[f]? with
   |some (off,size,_)=>bif bO 0 size then match x with
    | .ptr id o=>ret c (.ptr id (o+off)) | .gp id st j o=>ret c (.gp id st j (o+off)) | .yD st n g j o=>ret c (.yD st n g j (o+off)) |_=>.fail
    else .fail
   |none=>.fail
  |_=>.fail
 |none=>.fail
def OB(C:Ctx)(c:Core)(t f:Nat)(x:SV):Tree (SV×Core):=
 match C.ty t with
 |some i=>match i.ty,x with
  | .struct fs,.agg l=>match fs[f]? with
   |some (off,size,agg)=>DF c ((seg l off size).bind (pack agg)) |none=>.fail
  |_,_=>.fail
 |none=>.fail
def aga(A:Prim)(n:Int)(f:Nat->Tree (SV×Core))(m:Nat):Nat->Tree (SV×Core)
 |0=>.fail |k+1=>.node (A.eq n (ofNat (m - (k+1)))) (f (m - (k+1))) (aga A n f m k)
def aii(A:Prim)(n:Int):SV->Nat
 | .int _ k=>k.toNat |_=>A.toN n
def EZ(C:Ctx)(c:Core)(t:Nat)(x i:SV):Tree (SV×Core):=
 match C.ty t with
 |some ti=>match ti.ty with
  | .slice e=>match C.ty e with
   |some te=>match x,yK i with
    | .gs id,ae n=>match mQ c.hp id with
     |some (.row _ _ st m)=>match i with
      | .int _ n=>bif decide (0<=n)&&decide (n<m)&&st==te.size then ret c (.ptr id (n.toNat*st)) else .fail |_=>.fail
     |some (.own _ st m _)=>bif st==te.size then .need (C.A.inB n m) (ret c (.gp id st (aii C.A n i) 0)) else .fail |some (.fz st m g)=>bif st==te.size then .need (C.A.inB n m) (ret c (.yD st m g (aii C.A n i) 0)) else .fail |_=>.fail
    | .sh (.sl st m g),ae n=>bif st==te.size then .need (C.A.inB n m) (ret c (.yD st m g (aii C.A n i) 0)) else .fail |_,_=>.fail
   |none=>.fail
  | .arr m e=>match C.ty e with
   |some te=>match x,i with
    | .glob g,.int _ n=>match mQ C.gls g with
     |some (.mX l)=>bif decide (0<=n)&&decide (n<m)&&l.length==m*te.size then ret c (.yD te.size m (nM (chunks te.size m l)) n.toNat 0) else .fail |_=>.fail
    | .glob g,.sym _ n=>match mQ C.gls g with
     |some (.mX l)=>bif l.length==m*te.size then .need (C.A.inB n m) (aga C.A n (fun j=>ret c (.yD te.size m (nM (chunks te.size m l)) j 0)) m m) else .fail |_=>.fail
    |_,_=>.fail
   |none=>.fail
  |_=>.fail
 |none=>.fail
def I9(c:Core)(x:SV)(i:Nat):Tree (SV×Core):=
 match x with
 | .mX l=>DF c l[i]? |_=>.fail
def GX(A:Prim):SV->Option Nat
 | .int _ k=>ae k.toNat | .sym _ n=>ae (A.toN n) |_=>ao
def aij(hp:List (Nat×SB))(st:Nat):SV->Option (Nat×Nat)
 | .gs id=>match mQ hp id with
  |some (.own _ st' n _)=>bif st==st' then ae (id,n) else ao |_=>ao
 |_=>ao
def OC(C:Ctx)(c:Core)(t:Nat)(x:SV)(lo hi:Option SV):Tree (SV×Core):=
 match C.ty t with
 |some ti=>match ti.ty with
  | .slice e=>match C.ty e with
   |some te=>
    match aij c.hp te.size x,lo,hi with
    |some (id,n),ao,ae h=>match yK h,GX C.A h with
     |some hi,ae h=>.need (C.A.upTo hi n) (ret c (.vw id h)) |_,_=>.fail
    |_,_,_=>
    match (match x with| .gs id=>freeze c.hp [id] |_=>ae c.hp) with
    |none=>.fail |some hp=>match rZ hp x with
     |some (.sl st n g)=>bif st==te.size then
       match lo,hi with
       |none,ao=>ret {c with hp} (.sh (.sl st n g))
       |none,ae h=>match yK h,GX C.A h with
        |some hi,ae h=>.need (C.A.upTo hi n) (ret {c with hp} (.sh (.sl st h g)))
        |_,_=>.fail
       |some l,ao=>match yK l,GX C.A l with
        |some li,ae l=>.need (C.A.upTo li n) (ret {c with hp} (.sh (.sl st (C.A.uy n l) fun j=>g (C.A.addN l j))))
        |_,_=>.fail
       |some l,ae h=>match yK l,GX C.A l,yK h,GX C.A h with
        |some li,ae l,ae hi,ae h=>.need (C.A.upTo hi n) (.need (C.A.upTo li h) (ret {c with hp} (.sh (.sl st (C.A.uy h l) fun j=>g (C.A.addN l j)))))
        |_,_,_,_=>.fail
      else .fail
     |_=>.fail
   |none=>.fail
  |_=>.fail
 |none=>.fail
def isZero:SV->Bool
 | .int _ n=>n==0 |_=>ag
def alr(k:SV)(e st:Nat):SB:=
 match k with
 | .int _ _=>.row [] e st 0 |_=>.own e st 0 fun _=>[]
def E5(C:Ctx)(c:Core)(t:Nat)(l k:SV)(same:Bool):Tree (SV×Core):=
 match C.ty t with
 |some ti=>match ti.ty with
  | .slice e=>match C.ty e with
   |some te=>match yK k,GX C.A k with
    |some ki,ae kn=>
     bif isZero l then .need (C.A.le 0 ki) (.need (C.A.room kn te.bytes) (alloc c (alr k e te.size) (.gs c.nx)))
     else bif same&&vY te.zero&&bO 0 te.size then match xY [] te.zero with
      |some z=>.need (C.A.le 0 ki) (.need (C.A.room kn te.bytes) (alloc c (.own e te.size kn fun _=>z) (.gs c.nx))) |none=>.fail
     else .fail
    |_,_=>.fail
   |none=>.fail
  |_=>.fail
 |none=>.fail
def xOf(hp:List (Nat×SB))(e st:Nat):SV->Option (Nat×(Nat->List Sh)×List SV)
 | .gs id=>match mQ hp id with
  |some (.own e' st' n g)=>bif e==e'&&st==st' then ae (n,g,[]) else ao |some (.yE e' st' n g more)=>bif e==e'&&st==st' then ae (n,g,more) else ao |_=>ao
 |_=>ao
def rowOf(hp:List (Nat×SB))(st:Nat):SV->Option (List SV×Nat)
 | .nS=>ae ([],0) | .gs id=>match mQ hp id with
  |some (.row cells _ st' n)=>bif st==st' then ae (cells,n) else ao |_=>ao
 |_=>ao
def E8(hp:List (Nat×SB))(st:Nat):SV->Option (Nat×(Nat->List Sh))
 | .nS=>ae (0,fun _=>[]) | .gs id=>match mQ hp id with
  |some (.row cells _ st' n)=>bif st==st'&&vY cells then (xY hp cells).map fun l=>(n,nM (chunks st n l)) else ao |some (.own _ st' n g)=>bif st==st' then ae (n,g) else ao |some (.fz st' n g)=>bif st==st' then ae (n,g) else ao |_=>ao
 | .sh (.sl st' n g)=>bif st==st' then ae (n,g) else bif st'==0&&n==0 then ae (0,fun _=>[]) else ao | .vw id n=>match mQ hp id with
  |some (.own _ st' _ g)=>bif st==st' then ae (n,g) else ao |_=>ao
 |_=>ao
def Ja:SV->Option Nat
 | .gs id=>ae id |_=>ao
def Fa(hp:List (Nat×SB))(e:Nat):SV->Bool
 | .nS=>ah | .gs id=>match mQ hp id with
  |some (.row _ e' _ _)=>e==e' |some (.own e' _ _ _)=>e==e' |some (.yE e' _ _ _ _)=>e==e' |some (.buf e' _)=>e==e' |_=>ag
 |_=>ag
def Gg(x y:SV):Bool:=
 match Ja x,Ja y with
 |some i,ae j=>i==j |_,_=>ag
def qx(c:Core)(s:SV):Core:=
 match Ja s with
 |some id=>{c with hp:=hdel c.hp id,tc:=id::c.tc}
 |none=>c
def WA:List SV->Option (List UInt8)
 |[]=>ae [] | .int .u8 n::r=>bif decide (0<=n)&&decide (n<256) then (WA r).map fun l=>UInt8.ofNat n.toNat::l else ao |_=>ao
def KJ(hp:List (Nat×SB))(e:Nat):SV->Option (List UInt8)
 | .nS=>ae [] | .gs id=>match mQ hp id with
  |some (.buf e' l)=>bif e==e' then ae l else ao |some (.row cells e' st n)=>bif e==e'&&st==1&&n==cells.length then WA cells else ao |_=>ao
 |_=>ao
def Bg(C:Ctx)(e:Nat):Bool:=
 match C.ty e with
 |some te=>match te.ty,te.zero with
  | .int .u8,[.int .u8 n]=>te.size==1&&te.bytes==1&&n==0 |_,_=>ag
 |none=>ag
def Jb(C:Ctx)(c:Core)(t u:Nat)(s x:SV):Tree (SV×Core):=
 match C.ty t,C.ty u with
 |some ti,ae ui=>match ti.ty,ui.ty with
  | .slice e,.str=>match KJ c.hp e s,textOf x with
   |some l,ae m=>bif Bg C e&&Fa c.hp e s then
     .need (C.A.room (C.A.addN (C.A.len l) (C.A.len m)) 1) (alloc (qx c s) (.buf e (C.A.app l m)) (.gs c.nx))
    else .fail
   |_,_=>.fail
  |_,_=>.fail
 |_,_=>.fail
def Jc(C:Ctx)(c:Core)(t:Nat)(s x:SV):Option (Tree (SV×Core)):=
 match s with
 | .gs id=>match mQ c.hp id with
  |some (.buf e l)=>match C.ty t,KJ c.hp e x with
   |some ti,ae m=>match ti.ty with
    | .slice e'=>bif e==e'&&Bg C e && !Gg s x then
      ae (.need (C.A.room (C.A.addN (C.A.len l) (C.A.len m)) 1) (alloc (qx c s) (.buf e (C.A.app l m)) (.gs c.nx)))
     else ao
    |_=>ao
   |_,_=>ao
  |_=>ao
 |_=>ao
def Sz(C:Ctx)(c:Core)(t u:Nat)(x:SV):Tree (SV×Core):=
 match C.ty t,C.ty u with
 |some ti,ae ui=>match ti.ty,ui.ty with
  | .int _,.int k=>match x with
   | .int _ n=>ret c (.int k (k.wrap n)) | .sym _ n=>ret c (.sym k (C.A.conv k n)) |_=>.fail
  | .str,.slice e=>match textOf x with
   |some l=>bif Bg C e then .need (C.A.room (C.A.len l) 1) (alloc c (.buf e l) (.gs c.nx)) else .fail |none=>.fail
  | .slice e,.str=>match KJ c.hp e x with
   |some l=>bif Bg C e then ret c (.sh (.str l)) else .fail |none=>.fail
  |_,_=>.fail
 |_,_=>.fail
def KL(C:Ctx)(c:Core)(t:Nat)(s x:SV):Tree (SV×Core):=
 match C.ty t with
 |some ti=>match ti.ty with
  | .slice e=>match C.ty e with
   |some te=>
    bif Fa c.hp e s && !Gg s x&&bO 0 te.size then
     match rowOf c.hp te.size s,rowOf c.hp te.size x with
     |some (a,n),ae (b,m)=>
      bif vY b&&cq ((n+m)*te.bytes) 140737488355328&&cq (n+m) 1073741824 then alloc (qx c s) (.row (a++b) e te.size (n+m)) (.gs c.nx) else .fail
     |_,_=>match E8 c.hp te.size s,E8 c.hp te.size x with
      |some (n,g),ae (m,h)=>.need (C.A.room (C.A.addN n m) te.bytes) (alloc (qx c s) (.own e te.size (C.A.addN n m) (C.A.snoc g n h)) (.gs c.nx)) |_,_=>match xOf c.hp e te.size s,rowOf c.hp te.size x with
       |some (n,g,more),ae (b,_)=>bif vY b then .need (C.A.room (C.A.addN n (Nat.div (more++b).length te.size)) te.bytes) (alloc (qx c s) (.yE e te.size n g (more++b)) (.gs c.nx)) else .fail |_,_=>.fail
    else .fail
   |none=>.fail
  |_=>.fail
 |none=>.fail
def zU:SV->Option (IntKind×Int×Bool)
 | .int k n=>ae (k,n,ah) | .sym k n=>ae (k,n,ag) |_=>ao
def KN(kk:IntKind)(k:Int):List (SV×SV)->Option (Option SV)
 |[]=>ae ao |(.int j m,v)::r=>bif j==kk then bif m==k then ae (ae v) else KN kk k r else ao |_=>ao
def P6(A:Prim)(kk:IntKind)(k:Int)(z:SV)(f:SV->Bool->Tree (SV×Core)):List (SV×SV)->Tree (SV×Core)
 |[]=>f z ag |(.int j m,v)::r=>bif j==kk then .node (A.eq k m) (f v ah) (P6 A kk k z f r) else .fail |_=>.fail
def P7(k:IntKind)(n:Int)(v:SV):List (SV×SV)->Option (List (SV×SV))
 |[]=>ae [(.int k n,v)] |(.int j m,u)::r=>bif j==k then bif m==n then ae ((.int k n,v)::r) else (P7 k n v r).map fun r=>(.int j m,u)::r else ao |_=>ao
def adh(l:List Int):List (Int×Bool×SV):=l.map fun n=>(n,ag,.any)
def Jd(C:Ctx)(c:Core)(t:Nat):Tree (SV×Core):=
 match C.alj t with
 |some (k,l)=>alloc c (.fm k (fun _=>ao) (adh l) [] ao) (.mp c.nx) |none=>match C.Wv t with
  |some vt=>alloc c (.pm vt (fun _=>ao) []) (.mp c.nx) |none=>alloc c (.map []) (.mp c.nx)
def findF(A:Prim)(k:Int)(f:Bool->SV->Tree (SV×Core)):List (Int×Bool×SV)->Tree (SV×Core)
 |[]=>.fail |[(j,p,v)]=>.need (A.eq k j) (f p v) |(j,p,v)::r=>.node (A.eq k j) (f p v) (findF A k f r)
def intOf:SV->Option Int
 | .int .i64 n=>ae n | .sym .i64 n=>ae n | .sh (.i .i64 n)=>ae n |_=>ao
def strOf:SV->Option (List UInt8)
 | .str l=>ae l | .sh (.str l)=>ae l |_=>ao
def VQ:SV->Option (Int×List UInt8)
 | .agg [a,b]=>match intOf a,strOf b with
  |some n,ae l=>ae (n,l) |_,_=>ao
 | .sh (.agg [.i .i64 n,.str l])=>ae (n,l) |_=>ao
def SV.aah:SV->VT->Bool
 | .int .i64 _,.int=>ah | .sym .i64 _,.int=>ah | .bool _,.bool=>ah | .test _,.bool=>ah |_,_=>ag
def als(A:Prim)(vt:VT)(o:Option Value):SV:=match vt with
 | .int=>.sym .i64 (A.ari o) | .bool=>.test (A.AA o)
def agc(A:Prim)(vt:VT)(M:Int×List UInt8->Option Value)(k:Int×List UInt8)(f:Bool->SV->Tree (SV×Core)):List ((Int×List UInt8)×Bool×SV)->Tree (SV×Core)
 |[]=>.node (A.isS (M k)) (f ah (als A vt (M k))) (f ag .any) |(j,p,v)::r=>.node (A.kp k.1 k.2 j.1 j.2) (f p v) (agc A vt M k f r)
def zV(c:Core)(ok:Bool)(v:SV)(b:Bool):Tree (SV×Core):=ret c (bif ok then .mX [v,.bool b] else v)
def KO(C:Ctx)(c:Core)(t:Nat)(m k:SV)(ok:Bool):Tree (SV×Core):=
 match C.ty t with
 |some ti=>match ti.ty with
  | .map kt e=>match C.ty kt,C.ty e with
   |some WB,ae te=>match WB.ty,pack te.ty.isAgg te.zero with
    | .struct _,ae z=>bif C.VB.contains kt then
      match m with
      | .mp id=>match mQ c.hp id with
       |some (.pm vt M us)=>match VQ k with
        |some n=>agc C.A vt M n (fun p v=>bif p then zV c ok v ah else zV c ok z ag) us |none=>.fail
       |_=>.fail
      |_=>.fail
     else .fail
    | .int kk,ae z=>
     match m with
     | .wS=>match zU k with
      |some (j,_,_)=>bif j==kk then zV c ok z ag else .fail |none=>.fail
     | .mp id=>match mQ c.hp id with
      |some (.map es)=>match k with
       | .int j n=>bif j==kk then match KN kk n es with
        |some (ae v)=>zV c ok v ah |some ao=>zV c ok z ag |none=>.fail
        else .fail
       | .sym j n=>bif j==kk then P6 C.A kk n z (zV c ok) es else .fail |_=>.fail
      |some (.fm fk _ fs us _)=>match zU k with
       |some (j,n,_)=>bif j==kk&&fk==kk then findF C.A n (fun p v=>bif p then zV c ok v ah else zV c ok z ag) (us++fs) else .fail |none=>.fail
      |_=>.fail
     |_=>.fail
    |_,_=>.fail
   |_,_=>.fail
  |_=>.fail
 |none=>.fail
def Gh(C:Ctx)(c:Core)(t:Nat)(m k v:SV):Tree (SV×Core):=
 match C.ty t with
 |some ti=>match ti.ty with
  | .map kt _=>match C.ty kt with
   |some WB=>match WB.ty,m,k with
    | .int kk,.mp id,.int k n=>match mQ c.hp id with
     |some (.map es)=>bif kk==k then match P7 k n v es with
      |some es=>ret {c with hp:=hset c.hp id (.map es),tc:=id::c.tc} .any
      |none=>.fail
      else .fail
     |_=>.fail
    | .struct _,.mp id,k=>match mQ c.hp id with
     |some (.pm vt M us)=>match VQ k with
      |some n=>bif C.VB.contains kt&&v.one&&v.aah vt then ret {c with hp:=hset c.hp id (.pm vt M ((n,ah,v)::us)),tc:=id::c.tc} .any else .fail
      |none=>.fail
     |_=>.fail
    |_,_,_=>.fail
   |none=>.fail
  |_=>.fail
 |none=>.fail
def GY(C:Ctx)(c:Core)(t:Nat)(m k:SV):Tree (SV×Core):=
 match C.ty t with
 |some ti=>match ti.ty with
  | .map kt e=>match C.ty kt,C.ty e with
   |some WB,ae te=>match WB.ty,pack te.ty.isAgg te.zero,m,zU k with
    | .int kk,ae z,.mp id,ae (j,n,_)=>match mQ c.hp id with
     |some (.fm fk M fs us _)=>bif j==kk&&fk==kk&&z.one&&bO c.nx c.lim then
       findF C.A n (fun p v=>ret {c with hp:=hset c.hp id (.fm fk M fs ((n,ah,bif p then v else z)::us) (ae (c.nx,n))),nx:=c.nx+1,tc:=id::c.tc} (.mX [bif p then v else z,.ev c.nx])) (us++fs)
      else .fail
     |_=>.fail
    |_,_,_,_=>.fail
   |_,_=>.fail
  |_=>.fail
 |none=>.fail
def D7(c:Core)(m s v:SV):Tree (SV×Core):=
 match m,s with
 | .mp id,.ev s=>match mQ c.hp id with
  |some (.fm fk M fs us (ae (s',n)))=>bif s==s'&&v.one then ret {c with hp:=hset c.hp id (.fm fk M fs ((n,ah,v)::us) (ae (s',n))),tc:=id::c.tc} .any else .fail
  |_=>.fail
 |_,_=>.fail
def KP(C:Ctx)(c:Core)(t:Nat)(m k:SV):Tree (SV×Core):=
 match C.ty t with
 |some ti=>match ti.ty with
  | .map kt _=>match C.ty kt with
   |some WB=>match WB.ty,m,zU k with
    | .int kk,.mp id,ae (j,n,_)=>match mQ c.hp id with
     |some (.fm fk M fs us _)=>bif j==kk&&fk==kk then ret {c with hp:=hset c.hp id (.fm fk M fs ((n,ag,.any)::us) ao),tc:=id::c.tc} .any else .fail
     |_=>.fail
    |_,_,_=>.fail
   |none=>.fail
  |_=>.fail
 |none=>.fail
def spread(c:Core)(F:List Sh->Tree Sh)(args:List SV):Tree (SV×Core):=
 match freeze c.hp (Ai args) with
 |none=>.fail |some hp=>match xY hp args with
  |none=>.fail |some nY=>(F nY).bind fun r=>bif cq (qA r c.nx).2.2 c.lim then ret {c with hp:=rM hp (qA r c.nx).2.1,nx:=(qA r c.nx).2.2} (qA r c.nx).1 else .fail
mutual
def zW:Sh->Bool
 | .i _ _=>ah | .b _=>ah | .str _=>ah | .v _=>ah | .agg l=>Ib l | .mX l=>Ib l |_=>ag
def Ib:List Sh->Bool
 |[]=>ah |x::r=>zW x&&Ib r
end
def P8(c:Core)(F:List Sh->Tree Sh)(args:List SV):Tree (SV×Core):=
 match freeze c.hp (Ai args) with
 |none=>.fail |some hp=>match xY hp args with
  |none=>.fail |some nY=>(F nY).bind fun r=>bif zW r then ret c (qA r c.nx).1 else .fail
def maxS(A:Prim)(mx:Bool)(x y:SV):Option SV:=
 match zU x,zU y with
 |some (k,a,la),ae (l,b,lb)=>bif k==l then
   ae (bif la&&lb then .int k (bif mx then (bif decide (a<b) then b else a) else (bif decide (b<a) then b else a)) else .sym k (bif mx then A.max a b else A.min a b))
  else ao
 |_,_=>ao
def Ic:Ty->SV->Bool
 | .str,.str _=>ah | .str,.sh (.str _)=>ah | .slice _,.gs _=>ah | .slice _,.sh (.sl _ _ _)=>ah | .slice _,.nS=>ah | .slice _,.vw _ _=>ah |_,_=>ag
def SA:SV->Option Int
 | .int .i64 n=>ae n | .sym .i64 n=>ae n |_=>ao
def P9(C:Ctx)(c:Core)(e:Nat):List SV->Tree (SV×Core)
 |[s,i,.gs id']=>match C.ty e with
  |some te=>match E8 c.hp te.size s,mQ c.hp id' with
   |some (n,g),ae (.row cells e2 st2 m)=>
    bif Fa c.hp e s&&e==e2&&st2==te.size&&m==1 && !Gg s (.gs id')&&bO 0 te.size&&vY cells then
     match xY c.hp cells,SA i,GX C.A i with
     |some l,ae iv,ae k=>.need (C.A.upTo iv n) (.need (C.A.room (C.A.addN n 1) te.bytes) (alloc (qx c s) (.own e te.size (C.A.addN n 1) (C.A.ins g k l)) (.gs c.nx))) |_,_,_=>.fail
    else .fail
   |_,_=>.fail
  |none=>.fail
 |_=>.fail
def MX(C:Ctx)(c:Core)(e:Nat):List SV->Tree (SV×Core)
 |[.nS,i]=>match C.ty e,SA i,GX C.A i with
  |some te,ae iv,ae k=>.need (C.A.le 0 iv) (.need (C.A.room k te.bytes) (alloc c (.own e te.size 0 fun _=>[]) (.gs c.nx))) |_,_,_=>.fail
 |_=>.fail
def MZ(C:Ctx)(call:Nat->List SV->Core->Tree (SV×Core))(c:Core)(k:Call):Tree (SV×Core):=
 let ev:=oI c.tm
 match k.callee with
 | .builtin b=>match b,k.args.toList,k.argTypes.toList with
  | .len,[x],[t]=>match C.ty t with
   |some i=>bif Ic i.ty (ev x) then DF c (aif C.A c.hp (ev x)) else .fail |none=>.fail
  | .delete,[m,k],t::_=>KP C c t (ev m) (ev k) | .append,[s,x],[t,u]=>bif t==u then match Jc C c t (ev s) (ev x) with
    |some r=>r |none=>KL C c t (ev s) (ev x)
   else Jb C c t u (ev s) (ev x)
  | .max,[x,y],_=>DF c (maxS C.A ah (ev x) (ev y)) | .min,[x,y],_=>DF c (maxS C.A ag (ev x) (ev y)) |_,_,_=>.fail
 | .value f=>match ev f with
  | .fn g cs=>
   let args:=k.args.toList.map ev++cs
   match C.ins g with
   |some e=>P9 C c e args |none=>match C.grow g with
   |some e=>MX C c e args |none=>match C.spec g with
   |some F=>bif C.lend g then P8 c F args else spread c F args |none=>call g args c
  |_=>.fail
 |_=>.fail
def OE(C:Ctx)(c:Core)(t:Nat)(x i:SV):Tree (SV×Core):=
 match C.ty t,textOf x,i with
 |some ti,ae l,.int _ n=>match ti.ty with
  | .str=>bif decide (0<=n) then DF c (l[n.toNat]?.map fun b=>.int .u8 (b.toNat:Int)) else .fail |_=>.fail
 |_,_,_=>.fail
def Je(C:Ctx)(call:Nat->List SV->Core->Tree (SV×Core))(c:Core)(o:Oper):Tree (SV×Core):=
 let ev:=oI c.tm
 match o.op with
 | .move x=>ret c (ev x) | .assign x=>ret c (ev x) | .pick x a b=>DF c (af9 C.A (ev x) (ev a) (ev b)) | .alloc e=>Oy C c e | .box e x=>bif (ev x).okc then alloc c (.box (ev x).cells e) (.ptr c.nx 0) else .fail | .build t parts=>Oz C c t parts.toList | .buildSlice t n parts=>D6 C c t n parts.toList | .load t x=>Sv C c t (ev x) | .store t x v=>OA C c t (ev x) (ev v) | .nilCheck x=>Wy c (ev x) | .binOp op t x y _=>Wx C c op t x y (isConst x||isConst y) | .unOp .not _ x=>DF c (notS C.A (ev x)) | .unOp .neg _ x=>DF c (negS C.A (ev x)) | .fieldAddr t x f=>EY C c t f (ev x) | .field t x f=>OB C c t f (ev x) | .indexAddr t x i=>EZ C c t (ev x) (ev i) | .extract x i=>I9 c (ev x) i | .makeFunc (.func f) fs cs=>bif fs.size==0 then ret c (.fn f (cs.toList.map ev)) else .fail | .makeInterface t x=>match C.ty t with
  |some i=>match i.ty with
   | .iface=>.fail | .other=>.fail |_=>ret c (.qK t (ev x))
  |none=>.fail
 | .makeMap t ao=>Jd C c t | .makeSlice t l k=>E5 C c t (ev l) (ev k) (match l,k with| .tmp i,.tmp j=>i==j|_,_=>ag)
 | .slice t x lo hi ao=>OC C c t (ev x) (lo.map ev) (hi.map ev) | .lookup t m k ok=>KO C c t (ev m) (ev k) ok | .insert t m k v=>Gh C c t (ev m) (ev k) (ev v) | .mapUpdate t m k v=>Gh C c t (ev m) (ev k) (ev v) | .mapEntry t m k=>GY C c t (ev m) (ev k) | .entryStore _ m s v=>D7 c (ev m) (ev s) (ev v) | .call k=>MZ C call c k | .convert t u x=>Sz C c t u (ev x) | .index t x i=>OE C c t (ev x) (ev i) |_=>.fail
mutual
def SV.hard:SV->SV
 | .sym k n=>.int k n | .test b=>.bool b | .agg l=>.agg (abz l) | .mX l=>.mX (abz l) |x=>x
def abz:List SV->List SV
 |[]=>[] |x::r=>x.hard::abz r
end
def exec(C:Ctx)(call:Nat->List SV->Core->Tree (SV×Core))(c:Core)(o:Oper):Tree (SV×Core):=
 bif C.lits then (Je C call c o).bind fun p=>.leaf (p.1.hard,p.2) else Je C call c o
mutual
def refs:SV->List Nat
 | .gs id=>[id] | .ptr id _=>[id] | .gp id _ _ _=>[id] | .mp id=>[id] | .agg l=>GZ l | .mX l=>GZ l | .fn _ l=>GZ l | .qK _ x=>refs x |_=>[]
def GZ:List SV->List Nat
 |[]=>[] |x::r=>refs x++GZ r
end
def alu:List (SV×SV)->List Nat
 |[]=>[] |(a,b)::r=>refs a++refs b++alu r
def agd:List (Int×Bool×SV)->List Nat
 |[]=>[] |(_,_,b)::r=>refs b++agd r
def alv:List ((Int×List UInt8)×Bool×SV)->List Nat
 |[]=>[] |(_,_,b)::r=>refs b++alv r
def alx:SB->List Nat
 | .box l _=>GZ l | .row l _ _ _=>GZ l | .map es=>alu es | .yE _ _ _ _ l=>GZ l | .fm _ _ fs us _=>agd fs++agd us | .pm _ _ us=>alv us |_=>[]
def reach(hp:List (Nat×SB)):Nat->List Nat->List Nat->List Nat
 |0,_,seen=>seen |_,[],seen=>seen |n+1,i::r,seen=>bif seen.contains i then reach hp n r seen else match mQ hp i with
  |some b=>reach hp n (alx b++r) (i::seen) |none=>reach hp n r (i::seen)
def Ew(hp:List (Nat×SB)):List Nat->List Nat
 |[]=>[] |i::r=>match mQ hp i with
  |some b=>alx b++Ew hp r |none=>Ew hp r
def dropKey(p:Nat->Bool):List (Nat×SB)->List (Nat×SB)
 |[]=>[] |(i,b)::r=>bif p i then dropKey p r else (i,b)::dropKey p r
def gc(nx lim:Nat)(v:SV)(c:Core):List (Nat×SB):=
 let live:=reach c.hp 4000 (refs v++Ew c.hp c.tc) []
 dropKey (fun i=>cq nx i&&bO i lim && !live.contains i) c.hp
def BX(tm:List SV)(dst:Option Nat)(v:SV):List SV:=
 match dst with
 |some d=>tm.set d v |none=>tm
def Core.put(c:Core)(dst:Option Nat)(v:SV):Core:={c with tm:=BX c.tm dst v}
def opAt(l:List Oper)(i:Nat):Option Oper:=l[i]?
inductive Want where
 |yes|no|ask (slot:Nat) (b want:Bool) |lost
def Gi(ops:List Oper)(tm:List SV)(o:Oper):Want:=
 match o.guard with
 |none=>.yes |some (j,b)=>match (opAt ops j).bind (·.dst) with
  |some d=>match tm.getD d .any with
   | .bool c=>bif c==b then .yes else .no | .test c=>.ask d c b | .mX _=>.no |_=>.lost
  |none=>.lost
def skV(ops:List Oper)(i:Nat):SV:=
 bif ops.any (fun o=>match o.guard with|some (j,_)=>bJ j i|none=>ag) then .mX [] else .any
def adi(C:Ctx)(call:Nat->List SV->Core->Tree (SV×Core))(c:Core)(o:Oper):Tree Core:=
 (exec C call c o).bind fun p=>.leaf (p.2.put o.dst p.1)
def VR(C:Ctx)(call:Nat->List SV->Core->Tree (SV×Core))(ops:List Oper)(c:Core)(i:Nat):Tree Core:=
 match opAt ops i with
 |none=>.leaf c |some o=>match Gi ops c.tm o with
  | .yes=>adi C call c o | .no=>.leaf (c.put o.dst (skV ops i)) | .ask d t b=>.node t
    (let c':=c.put (ae d) (.bool ah);bif b then adi C call c' o else .leaf (c'.put o.dst (skV ops i)))
    (let c':=c.put (ae d) (.bool ag);bif b then .leaf (c'.put o.dst (skV ops i)) else adi C call c' o)
  | .lost=>.fail
def qW:Op->Bool
 | .move _| .assign _| .pick .. | .load .. | .nilCheck _| .binOp .. | .unOp .. | .fieldAddr .. | .field .. | .indexAddr .. | .index .. | .extract .. | .makeFunc .. | .makeInterface .. | .build .. | .lookup ..=>ah | .call {callee:=.builtin .len,..} | .call {callee:=.builtin .max,..} | .call {callee:=.builtin .min,..}=>ah |_=>ag
def Ey(hp:List (Nat×SB))(ZE:List Nat):List (Nat×SB):=
 match hp with
 |[]=>[] |(j,x)::l=>bif ZE.contains j then Ey l ZE else (j,x)::Ey l ZE
def BZ:SV->Bool
 | .sh (.er _ _)=>ah |_=>ag
def Ez(tm:List SV):Op->Bool
 | .load .. | .lookup ..=>ag | .binOp _ _ x y _=>!(BZ (oI tm x)&&BZ (oI tm y)) |o=>qW o
def Ie(o:Oper):List Nat:=(o.after.toList.filter (d9 .any)).map (·.on)
def Ig(all:List Bool):List Oper->Nat->List Bool->List Nat
 |o::r,i,b::l=>bif !b&&(Ie o).all (fun j=>all.getD j ag) then i::Ig all r (i+1) l else Ig all r (i+1) l |_,_,_=>[]
def abB(ops:Array Oper)(listed:Array Bool):List Nat:=Ig listed.toList ops.toList 0 listed.toList
def Qa(ops:Array Oper)(oi:Oper)(i:Nat):List Oper->Nat->List Bool->Bool
 |o::r,j,b::l=>(bJ j i||b||(Ie o).contains i||oi.apart ops o)&&Qa ops oi i r (j+1) l |_,_,_=>ah
def abC(ops:Array Oper)(listed:Array Bool)(i:Nat):Bool:=
 match opAt ops.toList i with
 |none=>ag |some oi=>Qa ops oi i ops.toList 0 listed.toList
theorem adk{l:List Nat}{p q:Nat->Bool}(h:∀j,j∈l->p j=q j):l.all p=l.all q:=by
 grind
theorem Ux(all:List Bool):∀(ops:List Oper) (k:Nat) (l:List Bool),(∀i,l.getD i ah=all.getD (k+i) ah)->
  Ig all ops k l=(dO k ops.length).filter fun i=>!all.getD i ah&&((ops[i - k]?).map (·.after.all fun e=>!Region.binds .any e||all.getD e.on ag)).getD ag
 |[],k,l,_=>by rfl |o::r,k,[],h=>by
  have h2:∀i,all.getD (k+i) ah=ah:=fun i=>by simp_all
  simp only[Ig];symm
  rw[List.filter_eq_nil_iff];intro i hi;have:=jf.1 hi;have e:=h2 (i - k);simp_all
 |o::r,k,b::l,h=>by
  have h0:=h 0;simp only[iB,dH] at h0;have ih:=Ux all r (k+1) l (fun i=>by have:=h (i+1);grind);have he:(Ie o).all (fun j=>all.getD j ag)=o.after.all fun e=>!Region.binds .any e||all.getD e.on ag:=by
   rw[<-Array.all_toList];unfold Ie;simp
  have ht:(dO (k+1) r.length).filter (fun i=>!all.getD i ah&&((r[i - (k+1)]?).map (·.after.all fun e=>!Region.binds .any e||all.getD e.on ag)).getD ag) =
    (dO (k+1) r.length).filter (fun i=>!all.getD i ah&&(((o::r)[i - k]?).map (·.after.all fun e=>!Region.binds .any e||all.getD e.on ag)).getD ag):=by
   refine List.filter_congr fun i hi=>?_
   grind
  simp only[Ig,cJ,jx,List.filter_cons,ih,ht,he,h0,Nat.sub_self,List.getElem?_cons_zero,Option.map_some,Option.getD_some];simp
theorem ajB{listed:Array Bool}(i:Nat)(d:Bool):listed.getD i d=listed.toList.getD i d:=by
 simp
theorem agf(ops:Array Oper)(listed:Array Bool):abB ops listed=du .any ops listed:=by
 unfold abB du;rw[Ux listed.toList ops.toList 0 listed.toList (fun i=>by simp),br,ik];simp
theorem WC(ops:Array Oper)(oi:Oper)(i:Nat)(all:List Bool):∀(r:List Oper) (k:Nat) (l:List Bool),(∀j,l.getD j ah=all.getD (k+j) ah)->
  Qa ops oi i r k l=(dO k r.length).all fun j=>j==i||all.getD j ah||match r[j - k]? with
   |some oj=>oj.after.any (fun e=>d9 .any e&&e.on==i)||oi.apart ops oj |none=>ah
 |[],k,l,_=>by rfl |o::r,k,[],h=>by
  have h2:∀i,all.getD (k+i) ah=ah:=fun i=>by simp_all
  simp only[Qa];symm
  rw[List.all_eq_true];intro j hj;have:=jf.1 hj;have e:=h2 (j - k);simp_all
 |o::r,k,b::l,h=>by
  have h0:=h 0;simp only[iB,dH] at h0;have ih:=WC ops oi i all r (k+1) l (fun i=>by have:=h (i+1);grind);have he:(Ie o).contains i=o.after.any fun e=>d9 .any e&&e.on==i:=by
   rw[<-Array.any_toList];unfold Ie;grind
  have ht:(dO (k+1) r.length).all (fun j=>j==i||all.getD j ah||match r[j - (k+1)]? with
     |some oj=>oj.after.any (fun e=>d9 .any e&&e.on==i)||oi.apart ops oj |none=>ah) =
    (dO (k+1) r.length).all (fun j=>j==i||all.getD j ah||match (o::r)[j - k]? with
     |some oj=>oj.after.any (fun e=>d9 .any e&&e.on==i)||oi.apart ops oj |none=>ah):=by
   refine adk fun j hj=>?_
   grind
  have hb:bJ k i=(k==i):=rfl;simp only[Qa,cJ,jx,List.all_cons];grind
theorem aai(ops:Array Oper)(listed:Array Bool)(i:Nat):abC ops listed i=fL .any ops listed i:=by
 have hop:opAt ops.toList i=ops[i]?:=by simp[opAt]
 unfold abC fL;rw[hop];cases ops[i]? with
 |none=>rfl |some oi=>
  simp only;rw[WC ops oi i listed.toList ops.toList 0 listed.toList (fun i=>by simp),br,ik];grind [ajB]
inductive Quiet where
 |take (i:Nat) (needs:List Bool) (v v0:SV)
 |ask (slot:Nat) (b:Bool)
 |no
def abD:Nat->List SV->Core->Tree (SV×Core):=fun _ _ _=>.fail
def abE:Option (List Bool×SV)->Option (List Bool×SV)
 |some (_,.any)=>ao |r=>r
def sH:Tree (SV×Core)->List Bool->Option (List Bool×SV)
 | .leaf p,bs=>ae (bs,p.1) | .need b t,bs=>sH t (b::bs) |_,_=>ao
def Na(C:Ctx)(oK:Array Oper)(lock:List (Nat×SB))(listed:Array Bool)(yY:List SV)(c:Core)(i:Nat):Quiet:=
 match opAt oK.toList i with
 |none=>.no |some o=>match Gi oK.toList c.tm o with
  | .ask d t _=>.ask d t | .no=>bif abC oK listed i then .take i [] (skV oK.toList i) (skV oK.toList i) else .no | .yes=>bif qW o.op&&abC oK listed i then
    match abE (sH (exec C abD {c with tm:=yY,hp:=lock} o) []) with
    |some (bs,v)=>.take i bs v v |none=>bif Ez c.tm o.op then match sH (exec C abD c o) [] with
     |some (bs,v)=>.take i bs v .any |none=>.no
     else .no
   else .no
  | .lost=>.no
def Qb(C:Ctx)(oK:Array Oper)(lock:List (Nat×SB))(listed:Array Bool)(yY:List SV)(c:Core):List Nat->Quiet
 |[]=>.no |i::r=>match Na C oK lock listed yY c i with
  | .no=>Qb C oK lock listed yY c r |q=>q
def needs{α:Type}(t:Tree α):List Bool->Tree α
 |[]=>t |b::r=>.need b (needs t r)
def allOf{α:Type}(f:Nat->Tree α):List Nat->Tree α
 |[]=>.fail |[i]=>f i |i::r=>.both (f i) (allOf f r)
def disjoint(l:List Nat)(hp:List (Nat×SB)):Bool:=l.all fun i=>(mQ hp i).isNone
def Bh(c:Core)(n:Nat):Nat:=Nat.min 1048576 ((c.lim - c.nx) / (n+1))
def explore(C:Ctx)(call:Nat->List SV->Core->Tree (SV×Core))(base step:Nat)(oK:Array Oper)(lock:List (Nat×SB)):
  Nat->Array Bool->List SV->Core->Tree Core
 |0,_,_,_=>.fail |n+1,listed,yY,c=>
  match abB oK listed with
  |[]=>.leaf c |rs=>match Qb C oK lock listed yY c rs with
   | .take i bs v v0=>let d:=(opAt oK.toList i).bind (·.dst)
    needs (explore C call base step oK lock n (listed.setIfInBounds i ah) (BX yY d v0) (c.put d v)) bs
   | .ask d t=>.node t (explore C call base step oK lock n listed (yY.set d (.bool ah)) (c.put (ae d) (.bool ah))) (explore C call base step oK lock n listed (yY.set d (.bool ag)) (c.put (ae d) (.bool ag))) | .no=>allOf (fun i=>(VR C call oK.toList {c with tc:=[],nx:=base+step*i,lim:=base+step*(i+1)} i).bind fun c'=>
     bif disjoint c'.tc lock then explore C call base step oK lock n (listed.setIfInBounds i ah) (BX yY ((opAt oK.toList i).bind (·.dst)) .any) {c' with tc:=c'.tc++c.tc,nx:=c.nx,lim:=c.lim} else .fail) rs
def uU(a b:Option (List oM)):Option (List oM):=
 match a,b with
 |some x,ae y=>ae (x++y) |_,_=>ao
def qI(c:Bool)(a:Option (List oM)):Option (List oM):=bif c then a else ao
def aly:Sh->Sh->Option (List oM)
 | .er g t,.er h u=>qI (g==h&&t==u) (ae []) |s,s'=>ae [.sh s s']
mutual
def Uy:SV->SV->Option (List oM)
 | .any,.any=>ae [] | .int k n,.int l m=>qI (k==l&&n==m) (ae []) | .sym k n,.sym l m=>qI (k==l) (ae [.int n m]) | .bool a,.bool b=>qI (a==b) (ae []) | .test a,.test b=>ae [.bool a b] | .str a,.str b=>qI (a==b) (ae []) | .val v,.val u=>ae [.val v u] | .ptr a b,.ptr c d=>qI (a==c&&b==d) (ae []) | .gs a,.gs b=>qI (a==b) (ae []) | .gp a st i o,.gp a' st' i' o'=>qI (a==a'&&st==st'&&o==o') (ae [.nat i i']) | .yD st n g i o,.yD st' n' g' i' o'=>qI (st==st'&&o==o') (ae [.nat n n',.Gf g g',.nat i i']) | .uN,.uN=>ae [] | .nS,.nS=>ae [] | .xX,.xX=>ae [] | .sS,.sS=>ae [] | .wS,.wS=>ae [] | .fn f l,.fn g m=>qI (f==g) (D8 l m) | .agg l,.agg m=>D8 l m | .mX l,.mX m=>D8 l m | .qK t x,.qK u y=>qI (t==u) (Uy x y) | .mp a,.mp b=>qI (a==b) (ae []) | .glob a,.glob b=>qI (a==b) (ae []) | .ev a,.ev b=>qI (a==b) (ae []) | .sh s,.sh u=>aly s u |_,_=>ao
def D8:List SV->List SV->Option (List oM)
 |[],[]=>ae [] |x::l,y::m=>uU (Uy x y) (D8 l m) |_,_=>ao
end
def SC:List (SV×SV)->List (SV×SV)->Option (List oM)
 |[],[]=>ae [] |(a,b)::l,(c,d)::m=>uU (Uy a c) (uU (Uy b d) (SC l m)) |_,_=>ao
def WE:List (Int×Bool×SV)->List (Int×Bool×SV)->Option (List oM)
 |[],[]=>ae [] |(a,p,b)::l,(c,q,d)::m=>qI (p==q) (uU (ae [.int a c]) (uU (Uy b d) (WE l m))) |_,_=>ao
def aaj:List ((Int×List UInt8)×Bool×SV)->List ((Int×List UInt8)×Bool×SV)->Option (List oM)
 |[],[]=>ae [] |((a,s),p,b)::l,((c,t),q,d)::m=>qI (p==q) (uU (ae [.int a c,.str s t]) (uU (Uy b d) (aaj l m))) |_,_=>ao
def agh:Option (Nat×Int)->Option (Nat×Int)->Option (List oM)
 |none,ao=>ae [] |some (a,n),ae (b,m)=>qI (a==b) (ae [.int n m]) |_,_=>ao
def alz:SB->SB->Option (List oM)
 | .box l e,.box m f=>qI (e==f) (D8 l m) | .row l e s n,.row m f t k=>qI (e==f&&s==t&&n==k) (D8 l m) | .own e s n g,.own f t m h=>qI (e==f&&s==t) (ae [.nat n m,.Gf g h]) | .fz s n g,.fz t m h=>qI (s==t) (ae [.nat n m,.Gf g h]) | .map l,.map m=>SC l m | .KA l,.KA m=>ae [.sh (.pt l) (.pt m)] | .yE e s n g x,.yE f t m h y=>qI (e==f&&s==t) (uU (ae [.nat n m,.Gf g h]) (D8 x y)) | .buf e l,.buf f m=>qI (e==f) (ae [.str l m]) | .fm k M fs us tg,.fm l N gs vs th=>qI (k==l) (uU (ae [.mp M N]) (uU (WE fs gs) (uU (WE us vs) (agh tg th)))) | .pm vt M us,.pm wt N vs=>qI (vt==wt) (uU (ae [.mg M N]) (aaj us vs)) |_,_=>ao
def aak:List (Nat×SB)->List (Nat×SB)->Option (List oM)
 |[],[]=>ae [] |(i,a)::l,(j,b)::m=>qI (i==j) (uU (alz a b) (aak l m)) |_,_=>ao
def abG(a b:Core):Option (List oM):=qI (a.nx==b.nx&&a.lim==b.lim&&a.tc==b.tc) (uU (D8 a.tm b.tm) (aak a.hp b.hp))
def adl(i:Nat):List Nat->List Nat
 |[]=>[i] |j::l=>bif i==j then j::l else bif bO i j then i::j::l else j::adl i l
def KQ:List Nat->List Nat
 |[]=>[] |i::l=>adl i (KQ l)
inductive Ob where
 |b (x:Bool)
 |e (l:List oM)
def strip{α:Type}:Tree α->Option (List Ob×α)
 | .leaf a=>ae ([],a) | .need b t=>(strip t).map fun p=>(.b b::p.1,p.2) | .must l t=>(strip t).map fun p=>(.e l::p.1,p.2) |_=>ao
def wrap{α:Type}(t:Tree α):List Ob->Tree α
 |[]=>t | .b x::r=>.need x (wrap t r) | .e l::r=>.must l (wrap t r)
def SE{α:Type}(l:List oM)(t:Tree α):Tree α:=
 match l with
 |[]=>t |l=>.must l t
def VU(t f:Tree Core):Tree Core:=
 match strip t,strip f with
 |some (o,a),ae (q,b)=>match abG a b with
  |some l=>wrap (SE l (.leaf a)) (o++q) |none=>.both t f
 |_,_=>.both t f
def merge:Tree Core->Tree Core
 | .both t f=>VU (merge t) (merge f) | .node b t f=>.node b (merge t) (merge f) | .need b t=>.need b (merge t) | .must l t=>.must l (merge t) |t=>t
def VW:Nat->List SV->List SV
 |_,[]=>[] |m,x::l=>(bif bJ (m % 2) 1 then x else .any)::VW (m / 2) l
def Fb(C:Ctx)(g:Nat)(tm:List SV):List SV:=
 match C.live.get g with
 |some m=>VW m tm |none=>tm
def Nb:SV->List Nat
 | .ptr id _=>[id] | .gp id _ _ _=>[id] | .gs id=>[id] | .mp id=>[id] |_=>[]
def touches(c:Core):Op->List Nat
 | .store _ x _=>Nb (oI c.tm x) | .insert _ x _ _=>Nb (oI c.tm x) | .mapUpdate _ x _ _=>Nb (oI c.tm x) | .mapEntry _ x _=>Nb (oI c.tm x) | .entryStore _ x _ _=>Nb (oI c.tm x) | .call k=>match k.callee with
  | .value f=>reach c.hp 4000 (refs (oI c.tm f)++GZ (k.args.toList.map (oI c.tm))) [] | .builtin .append=>GZ (k.args.toList.map (oI c.tm)) | .builtin .delete=>GZ (k.args.toList.map (oI c.tm)) |_=>[]
 | .slice _ x _ _ _=>Nb (oI c.tm x) |_=>[]
def SH(C:Ctx):List Oper->Core->List Nat->List Nat
 |[],_,acc=>acc |o::r,c,acc=>SH C r (c.put o.dst (bif qW o.op then match sH (exec C abD c o) [] with
   |some (_,v)=>v |none=>.any
  else .any)) (touches c o.op++acc)
def drawn(C:Ctx)(call:Nat->List SV->Core->Tree (SV×Core))(g:Nat)(oK:Array Oper)(c:Core):Tree Core:=
 let lock:=Ey c.hp (SH C oK.toList c [])
 bif cq (c.nx+Bh c oK.size*oK.size) c.lim&&Region.noSelect oK then
  merge ((explore C call c.nx (Bh c oK.size) oK lock (2*oK.size+1) (Array.replicate oK.size ag) c.tm {c with nx:=0,lim:=0}).bind fun c'=>.leaf {tm:=Fb C g c'.tm,hp:=c'.hp,nx:=c.nx+Bh c oK.size*oK.size,lim:=c.lim,tc:=KQ c'.tc})
 else .fail
inductive It where
 |code (p:List Nat)
 |inBlock (id:Nat)
 |reg (p:List Nat) (l:List Nat)
 |SI
inductive Out where
 |done (v:SV) (c:Core)
 |stop (fn:Nat) (todo:List It) (c:Core)
def child:Code->Nat->Code
 | .seq a _,0=>a | .seq _ b,_=>b | .cond _ a _,0=>a | .cond _ _ b,_=>b | .block _ b,_=>b | .loop b,_=>b | .rangeFunc _ _ a _,0=>a | .rangeFunc _ _ _ b,_=>b |_,_=>.skip
def oh(c:Code):List Nat->Code
 |[]=>c |i::p=>child (oh c p) i
def EC(id:Nat):List It->Option (List It)
 | .inBlock j::k=>bif j==id then ae k else EC id k |_::k=>EC id k |[]=>ao
def WG(C:Ctx)(c:Core):List ResultVar->Option (List SV)
 |[]=>ae [] | .tmp t::r=>match c.tm[t]?,WG C c r with
  |some v,ae l=>ae (v::l) |_,_=>ao
 | .cell a t::r=>match C.ty t,WG C c r with
  |some i,ae l=>(aby C c i.ty.isAgg i.size (c.tm.getD a .any)).map fun v=>v::l |_,_=>ao
def result(C:Ctx)(fn:Func)(c:Core):Tree Out:=
 match WG C c fn.results.toList with
 |some [v]=>.leaf (.done v c) |some l=>.leaf (.done (.mX l) c) |none=>.fail
def nC(fn:Func):Code:=match fn.body with|some b=>b|none=>.skip
def ajC(c:Core):Out->Tree (SV×Core)
 | .done v c'=>.leaf (v,{tm:=c.tm,hp:=gc c.nx c.lim v c',nx:=c'.nx,lim:=c'.lim,tc:=c'.tc}) | .stop _ _ _=>.fail
def CB(C:Ctx)(run:Nat->List It->Core->Tree Out)(g:Nat)(args:List SV)(c:Core):Tree (SV×Core):=
 match C.fns.get g with
 |none=>.fail |some fn=>bif cq args.length fn.ntmps&&fn.body.isSome then
   (run g [.code []] {tm:=args++bf (fn.ntmps - args.length) .any,hp:=c.hp,nx:=c.nx,lim:=c.lim,tc:=c.tc}).bind (ajC c)
  else .fail
def Qc:Operand->Option Nat
 | .tmp t=>ae t |_=>ao
inductive Sig where
 |go (td:List It) (c:Core)
 |done (v:SV) (c:Core)
 |halt (td:List It) (c:Core)
def abH:Out->Tree Sig
 | .done v c=>.leaf (.done v c) | .stop _ td c=>.leaf (.halt td c)
def Jf(C:Ctx)(call:Nat->List SV->Core->Tree (SV×Core))(top:Bool)(g:Nat)(fn:Func)(td:List It)(c:Core):Tree Sig:=
 match td with
 |[]=>(result C fn c).bind abH | .inBlock _::k=>.leaf (.go k c) | .SI::_=>.fail | .reg _ []::k=>.leaf (.go k {c with tm:=Fb C g c.tm})
 | .reg p (i::r)::k=>match oh (nC fn) p with
  | .region _ ops _=>(VR C call ops.toList c i).bind fun c=>.leaf (.go (.reg p r::k) c) |_=>.fail
 | .code p::k=>match oh (nC fn) p with
  | .skip=>.leaf (.go k c) | .ret=>(result C fn c).bind abH | .seq _ _=>.leaf (.go (.code (0::p)::.code (1::p)::k) c) | .block id _=>.leaf (.go (.code (0::p)::.inBlock id::k) c) | .loop _=>bif C.Cm g p then .leaf (.halt td c) else .leaf (.go (.code (0::p)::.code p::k) c) | .exit id=>match EC id k with
   |some k=>.leaf (.go k c) |none=>.fail
  | .cond x _ _=>match oI c.tm x with
   | .bool ah=>.leaf (.go (.code (0::p)::k) c) | .bool ag=>.leaf (.go (.code (1::p)::k) c) | .test b=>let d:=Qc x
    .node b (.leaf (.go (.code (0::p)::k) (c.put d (.bool ah)))) (.leaf (.go (.code (1::p)::k) (c.put d (.bool ag))))
   |_=>.fail
  | .region _ ops dr=>bif dr then
    let t:=drawn C call g ops c
    bif top && !t.lone then t.bind fun c=>.leaf (.halt k c) else t.bind fun c=>.leaf (.go k c)
   else .leaf (.go (.reg p (aD ops.size)::k) c)
  |_=>.fail
def run(C:Ctx):Nat->Bool->Nat->List It->Core->Tree Out
 |0,_,g,td,c=>.leaf (.stop g td c) |n+1,top,g,td,c=>
  match C.fns.get g with
  |none=>.fail |some fn=>(Jf C (CB C (run C n ag)) top g fn td c).bind fun s=>match s with
   | .go td c=>run C n top g td c | .done v c=>.leaf (.done v c) | .halt td c=>.leaf (.stop g td c)
open Go.RowKit (Below)
abbrev Mem:=Nat->Option Obj
def Mem.le(H H':Mem):Prop:=∀b o,H b=ae o->H' b=ae o
def Mem.on(H:Mem)(w:World):Prop:=∀b o,H b=ae o->w.heap[b]?=ae o
def hcell(H:Mem)(b off:Nat):Option Value:=
 match H b with
 |some (.cells c _ _)=>c[off]? |_=>ao
theorem CG{H H':Mem}(h:H.le H'){b off:Nat}{v:Value}(hc:hcell H b off=ae v):hcell H' b off=ae v:=by
 unfold hcell at *;cases hb:H b with
 |none=>grind |some o=>rw[h b o hb];simp_all
theorem EK{H:Mem}{w:World}(h:H.on w){b off:Nat}{v:Value}(hc:hcell H b off=ae v):w.cell? ⟨b,off,ao⟩=ae v:=by
 unfold hcell at hc;cases hb:H b with
 |none=>grind |some o=>
  rw[hb] at hc;have:=h b o hb;grind [fM]
inductive Rep(H:Mem):Sh->Value->Prop
 |i (k:IntKind) (n:Int):Rep H (.i k n) (.int k n)
 |b (x:Bool):Rep H (.b x) (.bool x)
 |str (l:List UInt8):Rep H (.str l) (.string ⟨l.toArray⟩)
 |v (x:Value) (h:x.oneCell'=ah):Rep H (.v x) x
 |sl0 (st:Nat) (g:Nat->List Sh) (A:Option Addr) (cap:Nat):cap<=maxLen->Rep H (.sl st 0 g) (.slice A 0 cap)
 |sl (st n:Nat) (g:Nat->List Sh) (b off cap:Nat) (c:Nat->Nat->Value):n<=cap->cap<=maxLen->(∀(i:Nat),i<n->(g i).length=st)->
   (∀(i j:Nat),i<n->j<st->hcell H b (off+i*st+j)=ae (c i j))->(∀(i j:Nat),i<n->j<st->(c i j).oneCell'=ah)->
   (∀(i j:Nat) (s:Sh),i<n->(g i)[j]?=ae s->Rep H s (c i j))->Rep H (.sl st n g) (.slice (ae ⟨b,off,ao⟩) n cap)
 |agg (l:List Sh) (vs:Array Value):vs.size=l.length->(∀(j:Nat) (s:Sh) (v:Value),l[j]?=ae s->vs[j]?=ae v->Rep H s v)->Rep H (.agg l) (.agg vs)
 |mX (l:List Sh) (vs:Array Value):vs.size=l.length->(∀(j:Nat) (s:Sh) (v:Value),l[j]?=ae s->vs[j]?=ae v->Rep H s v)->Rep H (.mX l) (.tuple vs)
 |qK (t:Nat) (x:Sh) (u:Value):Rep H x u->Rep H (.qK t x) (.iface t u)
 |fn (f:Nat) (l:List Sh) (vs:Array Value):vs.size=l.length->(∀(j:Nat) (s:Sh) (v:Value),l[j]?=ae s->vs[j]?=ae v->Rep H s v)->Rep H (.fn f l) (.func (.func f) #[] vs)
 |er (g T:Nat) (b:Addr) (cs:Array Value) (e:Nat):hcell H g 0=ae (.iface T (.pointer (ae b)))->H b.block=ae (.cells cs e (0,0))->
   Rep H (.er g T) (.iface T (.pointer (ae b)))
 |pt (l:List Sh) (b off:Nat) (c:Nat->Value):(∀(j:Nat),j<l.length->hcell H b (off+j)=ae (c j))->(∀(j:Nat),j<l.length->(c j).oneCell'=ah)->(∀(j:Nat) (s:Sh),l[j]?=ae s->Rep H s (c j))->
   Rep H (.pt l) (.pointer (ae ⟨b,off,ao⟩))
theorem Rep.le{H H':Mem}(h:H.le H'){s:Sh}{v:Value}(r:Rep H s v):Rep H' s v:=by
 induction r with
 |i k n=>exact .i k n |b x=>exact .b x |str l=>exact .str l |v x hx=>exact .v x hx |sl0 st g A cap hc=>exact .sl0 st g A cap hc |sl st n g b off cap c h1 h2 h3 h4 h5 _ ih=>exact .sl st n g b off cap c h1 h2 h3 (fun i j hi hj=>CG h (h4 i j hi hj)) h5 ih |agg l vs hs _ ih=>exact .agg l vs hs ih |mX l vs hs _ ih=>exact .mX l vs hs ih |qK t x u _ ih=>exact .qK t x u ih |fn f l vs hs _ ih=>exact .fn f l vs hs ih |er g T b cs e h1 h2=>exact .er g T b cs e (CG h h1) (h _ _ h2) |pt l b off c h1 h2 _ ih=>exact .pt l b off c (fun j hj=>CG h (h1 j hj)) h2 ih
def sD(H:Mem):List Sh->List Value->Prop
 |[],[]=>True |s::l,v::vs=>Rep H s v/\sD H l vs |_,_=>False
theorem sD.le{H H':Mem}(h:H.le H'):∀{l:List Sh} {vs:List Value},sD H l vs->sD H' l vs
 |[],[],_=>trivial |_::_,_::_,⟨a,b⟩=>⟨a.le h,sD.le h b⟩ |[],_::_,h=>h.elim |_::_,[],h=>h.elim
theorem sD.length{H:Mem}:∀{l:List Sh} {vs:List Value},sD H l vs->vs.length=l.length
 |[],[],_=>rfl |_::_,_::_,⟨_,b⟩=>by simp[sD.length b] |[],_::_,h=>h.elim |_::_,[],h=>h.elim
theorem sD.at_{H:Mem}:∀{l:List Sh} {vs:List Value},sD H l vs->∀{j:Nat} {s:Sh} {v:Value},l[j]?=ae s->vs[j]?=ae v->Rep H s v
 |_::_,_::_,⟨a,_⟩,0,_,_,h1,h2=>by simp_all |_::_,_::_,⟨_,b⟩,j+1,_,_,h1,h2=>sD.at_ b (by simpa using h1) (by grind) |[],[],_,_,_,_,h1,_=>by simp at h1 |[],_::_,h,_,_,_,_,_=>h.elim |_::_,[],h,_,_,_,_,_=>h.elim
theorem sD.G5{H:Mem}:∀{l:List Sh} {vs:List Value},vs.length=l.length->(∀(j:Nat) (s:Sh) (v:Value),l[j]?=ae s->vs[j]?=ae v->Rep H s v)->sD H l vs
 |[],[],_,_=>trivial |_::_,_::_,hl,h=>⟨h 0 _ _ rfl rfl,sD.G5 (by grind) fun j s v h1 h2=>h (j+1) s v (by grind) (by grind)⟩ |[],_::_,h,_=>by simp at h |_::_,[],h,_=>by simp at h
def pG(H:Mem)(st n:Nat)(g:Nat->List Sh)(xs:List Value):Prop:=
 xs.length=n*st/\(∀i,i<n->(g i).length=st)/\(∀u∈xs,u.oneCell'=ah)/\
 ∀(i j:Nat) (s:Sh) (v:Value),i<n->(g i)[j]?=ae s->xs[i*st+j]?=ae v->Rep H s v
theorem pG.le{H H':Mem}(h:H.le H'){st n:Nat}{g:Nat->List Sh}{xs:List Value}(r:pG H st n g xs):pG H' st n g xs:=
 ⟨r.1,r.2.1,r.2.2.1,fun i j s v hi h1 h2=>(r.2.2.2 i j s v hi h1 h2).le h⟩
abbrev Env:=Nat->Option Value
def Env.le(E E':Env):Prop:=∀i v,E i=ae v->E' i=ae v
def nH:Value->Option Nat
 | .pointer (ae ⟨b,0,ao⟩)=>ae b | .slice (ae ⟨b,0,ao⟩) _ _=>ae b | .map (ae b)=>ae b |_=>ao
def lenV:Value->Nat
 | .slice _ n _=>n |_=>0
mutual
def Den(H:Mem)(E:Env):SV->Value->Prop
 | .any,_=>True | .val v,u=>u=v/\v.oneCell'=ah | .int k n,u=>u=.int k n | .sym k n,u=>u=.int k n | .bool b,u=>u=.bool b | .test b,u=>u=.bool b | .str l,u=>u=.string ⟨l.toArray⟩ | .ptr id off,u=>∃b,(E id).bind nH=ae b/\u=.pointer (ae ⟨b,off,ao⟩) | .gs id,u=>E id=ae u/\∃A n c,u=.slice A n c | .gp id st i off,u=>∃b v,E id=ae v/\nH v=ae b/\i<lenV v/\u=.pointer (ae ⟨b,i*st+off,ao⟩) | .uN,u=>u=.pointer ao | .nS,u=>u=.slice ao 0 0 | .xX,u=>u=.nilFunc | .sS,u=>u=.nilIface | .wS,u=>u=.map ao | .fn f l,u=>∃vs:Array Value,u=.func (.func f) #[] vs/\ni H E l vs.toList | .agg l,u=>∃vs:Array Value,u=.agg vs/\ni H E l vs.toList | .mX l,u=>∃vs:Array Value,u=.tuple vs/\ni H E l vs.toList | .qK t x,u=>∃v,u=.iface t v/\Den H E x v | .mp id,u=>∃b,E id=ae (.map (ae b))/\u=.map (ae b) | .sh s,u=>Rep H s u | .yD st n g i off,u=>∃(b o:Nat) (c:Nat->Value),u=.pointer (ae ⟨b,o+off,ao⟩)/\i<n/\(g i).length=st/\
   (∀j,j<st->hcell H b (o+j)=ae (c j)/\(c j).oneCell'=ah)/\∀(j:Nat) (s:Sh),(g i)[j]?=ae s->Rep H s (c j)
 | .glob g,u=>u=.pointer (ae ⟨g,0,ao⟩) | .ev id,u=>E id=ae u | .vw id n,u=>∃A m c,E id=ae (.slice A m c)/\n<=m/\u=.slice A n c
def ni(H:Mem)(E:Env):List SV->List Value->Prop
 |[],[]=>True |s::l,v::vs=>Den H E s v/\ni H E l vs |_,_=>False
end
section
variable{H H':Mem}{E E':Env}
mutual
theorem Den.le(hH:H.le H')(hE:E.le E'):∀{s:SV} {v:Value},Den H E s v->Den H' E' s v
 | .any,_,_=>trivial | .val _,_,h=>h | .int _ _,_,h=>h | .sym _ _,_,h=>h | .bool _,_,h=>h | .test _,_,h=>h | .str _,_,h=>h | .ptr id off,u,⟨b,h1,h2⟩=>⟨b,by
   cases he:E id with
   |none=>grind |some v=>rw[hE _ _ he];simp_all,h2⟩
 | .gs id,u,⟨h,h'⟩=>⟨hE _ _ h,h'⟩ | .gp id st i off,u,⟨b,v,h1,h2⟩=>⟨b,v,hE _ _ h1,h2⟩ | .uN,_,h=>h | .nS,_,h=>h | .xX,_,h=>h | .sS,_,h=>h | .wS,_,h=>h | .fn _ _,_,⟨vs,h1,h2⟩=>⟨vs,h1,ni.le hH hE h2⟩ | .agg _,_,⟨vs,h1,h2⟩=>⟨vs,h1,ni.le hH hE h2⟩ | .mX _,_,⟨vs,h1,h2⟩=>⟨vs,h1,ni.le hH hE h2⟩ | .qK _ _,_,⟨v,h1,h2⟩=>⟨v,h1,Den.le hH hE h2⟩ | .mp id,_,⟨b,h1,h2⟩=>⟨b,hE _ _ h1,h2⟩ | .sh _,_,h=>Rep.le hH h | .yD _ _ _ _ _,_,⟨b,o,c,h1,h2,h3,h4,h5⟩=>⟨b,o,c,h1,h2,h3,fun j hj=>⟨CG hH (h4 j hj).1,(h4 j hj).2⟩,fun j s hs=>(h5 j s hs).le hH⟩ | .glob _,_,h=>h | .ev _,_,h=>hE _ _ h | .vw _ _,_,⟨A,m,c,h1,h2⟩=>⟨A,m,c,hE _ _ h1,h2⟩
theorem ni.le(hH:H.le H')(hE:E.le E'):∀{l:List SV} {vs:List Value},ni H E l vs->ni H' E' l vs
 |[],[],_=>trivial |_::_,_::_,⟨a,b⟩=>⟨Den.le hH hE a,ni.le hH hE b⟩ |[],_::_,h=>h.elim |_::_,[],h=>h.elim
end
theorem ni.length:∀{l:List SV} {vs:List Value},ni H E l vs->vs.length=l.length
 |[],[],_=>rfl |_::_,_::_,⟨_,b⟩=>by simp[ni.length b] |[],_::_,h=>h.elim |_::_,[],h=>h.elim
theorem ni.at_:∀{l:List SV} {vs:List Value},ni H E l vs->∀{j:Nat} {s:SV} {v:Value},l[j]?=ae s->vs[j]?=ae v->Den H E s v
 |_::_,_::_,⟨a,_⟩,0,_,_,h1,h2=>by simp_all |_::_,_::_,⟨_,b⟩,j+1,_,_,h1,h2=>ni.at_ b (by simpa using h1) (by grind) |[],[],_,_,_,_,h1,_=>by simp at h1 |[],_::_,h,_,_,_,_,_=>h.elim |_::_,[],h,_,_,_,_,_=>h.elim
theorem ni.get:∀{l:List SV} {vs:List Value},ni H E l vs->∀{j:Nat} {s:SV},l[j]?=ae s->∃v,vs[j]?=ae v/\Den H E s v:=by
 intro l vs h j s hs;have hj:j<l.length:=(List.getElem?_eq_some_iff.1 hs).1;have hj':j<vs.length:=by rw[h.length];exact hj
 exact ⟨vs[j],aC hj',h.at_ hs (aC hj')⟩
theorem ni.append:∀{l l':List SV} {vs vs':List Value},ni H E l vs->ni H E l' vs'->ni H E (l++l') (vs++vs')
 |[],_,[],_,_,h'=>h' |_::_,_,_::_,_,⟨a,b⟩,h'=>⟨a,ni.append b h'⟩ |[],_,_::_,_,h,_=>h.elim |_::_,_,[],_,h,_=>h.elim
theorem ni.drop:∀{l:List SV} {vs:List Value},ni H E l vs->∀n,ni H E (l.drop n) (vs.drop n)
 |_,_,h,0=>h |[],[],_,_+1=>trivial |_::_,_::_,⟨_,b⟩,n+1=>ni.drop b n |[],_::_,h,_+1=>h.elim |_::_,[],h,_+1=>h.elim
theorem ni.take:∀{l:List SV} {vs:List Value},ni H E l vs->∀n,ni H E (l.take n) (vs.take n)
 |_,_,_,0=>by simp[ni] |[],[],_,_+1=>trivial |_::_,_::_,⟨a,b⟩,n+1=>⟨a,ni.take b n⟩ |[],_::_,h,_+1=>h.elim |_::_,[],h,_+1=>h.elim
theorem ni.set:∀{l:List SV} {vs:List Value},ni H E l vs->∀(n:Nat) {s:SV} {v:Value},Den H E s v->ni H E (l.set n s) (vs.set n v)
 |[],[],_,_,_,_,_=>trivial |_::_,_::_,⟨_,b⟩,0,_,_,h=>⟨h,b⟩ |_::_,_::_,⟨a,b⟩,n+1,_,_,h=>⟨a,ni.set b n h⟩ |[],_::_,h,_,_,_,_=>h.elim |_::_,[],h,_,_,_,_=>h.elim
theorem ni.any:∀(n:Nat) (vs:List Value),vs.length=n->ni H E (bf n .any) vs
 |0,[],_=>trivial |n+1,_::vs,h=>⟨trivial,ni.any n vs (by simpa using h)⟩ |0,_::_,h=>by simp at h |_+1,[],h=>by simp at h
end
structure Kx where
 w0:World
 own:Nat->Prop
 H0:Mem
def Mine(K:Kx)(H:Mem)(b:Nat):Prop:=H b=ao/\(K.w0.heap.size<=b\/K.own b)
def Gj(H:Mem)(E:Env):List (SV×SV)->List MapEntry->Prop
 |[],[]=>True |(k,v)::l,m::ms=>Den H E k m.key/\Den H E v m.val/\Gj H E l ms |_,_=>False
def xP(H:Mem)(E:Env):List (Int×Bool×SV)->List (Int×Option Value)->Prop
 |[],[]=>True |(k,p,sv)::l,(n,o)::r=>n=k/\(match p,o with|true,ae v=>Den H E sv v/\v.oneCell'=ah|false,ao=>True|_,_=>False)/\xP H E l r
 |_,_=>False
def NT(M:Int->Option Value):List (Int×Option Value)->Int->Option Value
 |[]=>M |(n,o)::r=>fun k=>if k=n then o else NT M r k
abbrev rX:=Int×List UInt8
def qX(n:rX):Value:=.agg #[.int .i64 n.1,.string ⟨n.2.toArray⟩]
def Qd(H:Mem)(E:Env):List (rX×Bool×SV)->List (rX×Option Value)->Prop
 |[],[]=>True |(k,p,sv)::l,(n,o)::r=>n=k/\(match p,o with|true,ae v=>Den H E sv v/\v.oneCell'=ah|false,ao=>True|_,_=>False)/\Qd H E l r
 |_,_=>False
def KR(M:rX->Option Value):List (rX×Option Value)->rX->Option Value
 |[]=>M |(n,o)::r=>fun k=>if k=n then o else KR M r k
def alA:VT->Value->Prop
 | .int,v=>∃n,v=.int .i64 n | .bool,v=>∃b,v=.bool b
def aik(vt:VT)(M:rX->Option Value):Prop:=∀k v,M k=ae v->alA vt v
def alB(vt:VT)(us:List (rX×Bool×SV)):Prop:=∀u∈us,u.2.1=ah->u.2.2.aah vt=ah
structure Uz(ms:List MapEntry)(N:rX->Option Value):Prop where
 key:∀m∈ms,∃n,m.key=qX n
 VD:∀m∈ms,∀n,m.key=qX n->N n=ae m.val
 ex:∀n v,N n=ae v->∃m∈ms,m.key=qX n
 one:∀(i j:Nat) (m m':MapEntry),ms[i]?=ae m->ms[j]?=ae m'->m.key=m'.key->i=j
def Aj(k:IntKind)(n:Int):List MapEntry->Option Value
 |[]=>ao |m::r=>match Instr.sameNow (.int k) (.int k n) m.key with
  |some ah=>ae m.val |_=>Aj k n r
structure vJ(k:IntKind)(ms:List MapEntry)(clk:Nat)(N:Int->Option Value):Prop where
 key:∀m∈ms,∃n,m.key=.int k n
 at_:∀n,Aj k n ms=N n
 one:∀(i j:Nat) (m m':MapEntry),ms[i]?=ae m->ms[j]?=ae m'->m.key=m'.key->i=j
 born:∀(i j:Nat) (m m':MapEntry),ms[i]?=ae m->ms[j]?=ae m'->m.born=m'.born->i=j
 lt:∀m∈ms,m.born<clk
def abI(E:Env)(k:IntKind)(ms:List MapEntry):Option (Nat×Int)->Prop
 |none=>True |some (s,n)=>∃m∈ms,m.key=.int k n/\E s=ae (.int .i64 m.born)
def bytesV(l:List UInt8):List Value:=l.map fun b=>.int .u8 b.toNat
def xZ(w:World)(e:TypeId)(v:Value)(l:List UInt8):Prop:=
 (v=.slice ao 0 0/\l=[])\/∃g cap cur fz,v=.slice (ae ⟨g,0,ao⟩) l.length cap/\w.heap[g]?=ae (.cells cur e fz)/\(fz.2<=l.length\/cap<=fz.1)/\l.length<=cap/\cap<=maxLen/\cur.size=cap/\cur.toList.take l.length=bytesV l
def xU(K:Kx)(H:Mem)(E:Env)(w:World)(id:Nat):SB->Prop
 | .box cells elem=>∃b cs,E id=ae (.pointer (ae ⟨b,0,ao⟩))/\w.heap[b]?=ae (.cells cs elem (0,0))/\ni H E cells cs.toList/\Mine K H b | .row cells elem st n=>∃v xs,E id=ae v/\w.ownsRow 0 elem st v n xs/\ni H E cells xs/\∀b,nH v=ae b->Mine K H b | .own elem st n g=>∃v xs,E id=ae v/\w.ownsRow 0 elem st v n xs/\pG H st n g xs/\∀b,nH v=ae b->Mine K H b | .fz st n g=>∃v,E id=ae v/\Rep H (.sl st n g) v | .map es=>∃b ms clk,E id=ae (.map (ae b))/\w.heap[b]?=ae (.map ms clk)/\Gj H E es ms.toList/\Mine K H b | .KA l=>∃v,E id=ae v/\Rep H (.pt l) v | .yE elem st n g more=>∃v xs ys,E id=ae v/\w.ownsRow 0 elem st v (n+more.length / st) (xs++ys)/\pG H st n g xs/\ni H E more ys/\more.length % st=0/\vY more=ah/\∀b,nH v=ae b->Mine K H b | .fm k M fs us tag=>∃b ms clk fv uv,E id=ae (.map (ae b))/\w.heap[b]?=ae (.map ms clk)/\xP H E fs fv/\xP H E us uv/\(∀n o,(n,o)∈fv->M n=o)/\vJ k ms.toList clk (NT M uv)/\abI E k ms.toList tag/\Mine K H b | .pm vt M us=>∃b ms clk uv,E id=ae (.map (ae b))/\w.heap[b]?=ae (.map ms clk)/\Qd H E us uv/\aik vt M/\alB vt us/\Uz ms.toList (KR M uv)/\Mine K H b | .buf e l=>∃v,E id=ae v/\xZ w e v l/\∀b,nH v=ae b->Mine K H b
def nU(E:Env)(id:Nat):SB->Option Nat
 | .fz _ _ _=>ao | .KA _=>ao |_=>(E id).bind nH
structure nI(K:Kx)(H:Mem)(E:Env)(w:World)(hp:List (Nat×SB)):Prop where
 ent:∀id sb,mQ hp id=ae sb->xU K H E w id sb
 vV:∀id id' sb sb' b,mQ hp id=ae sb->mQ hp id'=ae sb'->nU E id sb=ae b->nU E id' sb'=ae b->id=id'
structure sF(K:Kx)(H:Mem)(w:World):Prop where
 os:w.os=K.w0.os
 tape:w.tape=K.w0.tape
 output:w.output=K.w0.output
 size:K.w0.heap.size<=w.heap.size
 kept:∀b,b<K.w0.heap.size->¬K.own b->w.heap[b]?=K.w0.heap[b]?
 on:H.on w
 le:K.H0.le H
 fresh:∀b,H b≠ao->K.H0 b≠ao\/K.w0.heap.size<=b\/K.own b
open Go.RowKit (Below)
def mM:Prim where
 add k x y:=k.wrap (x+y)
 sub k x y:=k.wrap (x - y)
 mul k x y:=k.wrap (x*y)
 neg k x:=k.wrap (0 - x)
 lt x y:=decide (x<y)
 le x y:=decide (x<=y)
 eq x y:=x==y
 max x y:=if y>x then y else x
 min x y:=if y<x then y else x
 inB i n:=decide (0<=i/\i<n)
 upTo i n:=decide (0<=i/\i<=n)
 toN i:=i.toNat
 nK n:=n
 addN i j:=i+j
 uy i j:=i - j
 Wu i j:=decide (i<=j)
 room n b:=decide (n*b<=140737488355328/\n<=maxLen)
 len l:=l.length
 nt b:=!b
 ite c x y:=bif c then x else y
 beq x y:=x==y
 seq x y:=x==y
 app x y:=x++y
 snoc g n h i:=if i<n then g i else h (i - n)
 upd g i off l j:=if j=i then (g j).take off++l++(g j).drop (off+l.length) else g j
 bin op k a b:=P5 op k a b
 conv k a:=k.wrap a
 ins g i l j:=if j<i then g j else if j=i then l else g (j - 1)
 kp a l b m:=decide (a=b/\l=m)
 isS o:=o.isSome
 ari o:=match o with|some (.int .i64 n)=>n|_=>0
 AA o:=match o with|some (.bool b)=>b|_=>ag
def E0:Env:=fun _=>ao
def M0:Mem:=fun _=>ao
def aal(P:Program)(fields:Array Field)(fs:List (Nat×Nat×Bool)):Prop:=
 fields.size=fs.length/\∀(j:Nat) (f:Field),fields[j]?=ae f->∃inf:TypeInfo,P.info? f.type=ae inf/\
  fs[j]?=ae (f.offset,inf.size,match P.underlying f.type with|some (.struct _) |some (.array _ _)=>ah|_=>ag)/\(P.underlying f.type).isSome=ah
def abJ(P:Program)(t:Nat):Ty->Prop
 | .int k=>P.underlying t=ae (.int k) | .bool=>P.underlying t=ae .bool | .str=>P.underlying t=ae .string | .ptr e=>P.underlying t=ae (.pointer e) | .fn=>∃ps rs b,P.underlying t=ae (.func ps rs b) | .iface=>∃ms,P.underlying t=ae (.interface ms) | .map k e=>P.underlying t=ae (.map k e) | .slice e=>P.underlying t=ae (.slice e) | .struct fs=>∃fields,P.underlying t=ae (.struct fields)/\aal P fields fs | .arr n e=>P.underlying t=ae (.array n e) | .other=>False
structure Gl(P:Program)(t:Nat)(i:BQ):Prop where
 desc:abJ P t i.ty
 info:∃(inf:TypeInfo) (z:Value),P.info? t=ae inf/\inf.size=i.size/\inf.bytes=i.bytes/\inf.zero=ae z/\ni M0 E0 i.zero z.cells.toList/\z.cells.size=i.size/\
  (i.ty.isAgg=ah->∃cs,z=.agg cs)/\(i.ty.isAgg=ag->i.size=1/\z.oneCell'=ah)
def wV(H:Mem)(g:Nat)(s:Sh):Prop:=
 match s with
 | .mX l=>(∃cs e f,H g=ae (.cells cs e f)/\cs.size=l.length)/\∃c:Nat->Value,(∀(j:Nat),j<l.length->hcell H g j=ae (c j)/\(c j).oneCell'=ah)/\∀(j:Nat) (s:Sh),l[j]?=ae s->Rep H s (c j) |s=>∃v,hcell H g 0=ae v/\Rep H s v/\v.oneCell'=ah
structure qE(gls:List (Nat×Sh))(H:Mem):Prop where
 at_:∀g s,mQ gls g=ae s->wV H g s
 apart:∀g g' T T',mQ gls g=ae (.er g T)->mQ gls g'=ae (.er g' T')->g≠g'->hcell H g 0≠hcell H g' 0
theorem qE.le{gls:List (Nat×Sh)}{H H':Mem}(h:qE gls H)(hH:H.le H'):qE gls H' where
 at_ g s hg:=by
  have:=h.at_ g s hg;cases s with
  |mX l=>obtain ⟨⟨cs,e,f,q1,q2⟩,c,h1,h2⟩:=this;exact ⟨⟨cs,e,f,hH _ _ q1,q2⟩,c,fun j hj=>⟨CG hH (h1 j hj).1,(h1 j hj).2⟩,fun j s hs=>(h2 j s hs).le hH⟩ |_=>obtain ⟨v,h1,h2,h3⟩:=this;exact ⟨v,CG hH h1,h2.le hH,h3⟩
 apart g g' T T' h1 h2 hne:=by
  have a1:wV H g (.er g T):=h.at_ g _ h1;have a2:wV H g' (.er g' T'):=h.at_ g' _ h2;obtain ⟨v1,b1,_⟩:=a1;obtain ⟨v2,b2,_⟩:=a2;have:=h.apart g g' T T' h1 h2 hne;grind [CG]
section
variable{P:Program}{C:Ctx}{K:Kx}{H:Mem}{E:Env}{w:World}
theorem agi{t:Nat}{i:BQ}(h:Gl P t i)(w:World):(isAgg t).run P w=.ok i.ty.isAgg w:=by
 have hd:=h.desc;unfold isAgg;cases hi:i.ty<;>rw[hi] at hd<;>simp only[abJ] at hd
 case struct fs=>obtain ⟨f,hf,_⟩:=hd;simp[run_underlying hf,Ty.isAgg]
 case fn=>obtain ⟨_,_,_,hd⟩:=hd;simp[run_underlying hd,Ty.isAgg]
 case iface=>obtain ⟨_,hd⟩:=hd;simp[run_underlying hd,Ty.isAgg]
 all_goals simp[run_underlying hd,Ty.isAgg]
theorem AL{t:Nat}{i:BQ}(h:Gl P t i)(w:World):(sizeOf t).run P w=.ok i.size w:=by
 obtain ⟨inf,z,h1,h2,_⟩:=h.info;simp[sizeOf,typeInfo,h1,h2]
theorem ajD{t:Nat}{i:BQ}(h:Gl P t i)(w:World):∃z:Value,(zeroValue t).run P w=.ok z w/\ni M0 E0 i.zero z.cells.toList/\z.cells.size=i.size:=by
 obtain ⟨inf,z,h1,_,_,h4,h5,h6,_⟩:=h.info;simp_all [zeroValue,typeInfo]
theorem agj(v:Value):Den H E (.ofValue v) v:=by
 unfold SV.ofValue;split<;>first|exact ⟨rfl,rfl⟩ |simp[Den]
theorem ou{tm:List SV}{a:Act}(hd:ni H E tm a.tmps.toList)(x:Operand):Den H E (oI tm x) (a.eval x):=by
 cases x with
 |tmp t=>
  simp only[oI,Act.eval];by_cases ht:t<tm.length
  ·have h1:tm[t]?=ae tm[t]:=aC ht
   obtain ⟨v,hv,h2⟩:=hd.get h1;simp_all
  ·rw[List.getD_eq_getElem?_getD,List.getElem?_eq_none (Nat.le_of_not_lt ht)]
   trivial
 |const v=>exact agj v |global g=>exact rfl |func f=>exact ⟨#[],rfl,trivial⟩
theorem ado{x:Value}(h:x.oneCell'=ah):Den H E (SV.lit x) x:=by
 unfold SV.lit;split
 ·rfl
 ·rfl
 ·rfl
 ·exact ⟨rfl,h⟩
mutual
theorem OG:∀{s:Sh} {v:Value},Rep H s v->Den H E (Sm s) v
 | .i _ _,_,h=>by cases h;rfl | .b _,_,h=>by cases h;rfl | .v _,_,h=>by cases h with|v _ h1=>exact ado h1
 | .str _,_,h=>h | .sl _ _ _,_,h=>h | .qK _ _,_,h=>h | .er _ _,_,h=>h | .fn _ l,_,h=>by
  cases h with
  |fn _ _ vs h1 h2=>exact ⟨vs,rfl,AO (sD.G5 (by omega) fun j s v e1 e2=>h2 j s v e1 (by grind))⟩
 | .pt l,_,h=>by
  cases h with
  |pt _ b off c h1 h2 h3=>exact ⟨b,off,c,rfl,Nat.zero_lt_one,rfl,fun j hj=>⟨h1 j hj,h2 j hj⟩,h3⟩
 | .os _ _ _ _,_,h=>by cases h | .agg l,_,h=>by
  cases h with
  |agg _ vs h1 h2=>exact ⟨vs,rfl,AO (sD.G5 (by omega) fun j s v e1 e2=>h2 j s v e1 (by grind))⟩
 | .mX l,_,h=>by
  cases h with
  |mX _ vs h1 h2=>exact ⟨vs,rfl,AO (sD.G5 (by omega) fun j s v e1 e2=>h2 j s v e1 (by grind))⟩
theorem AO:∀{l:List Sh} {vs:List Value},sD H l vs->ni H E (EW l) vs
 |[],[],_=>trivial |_::_,_::_,⟨h1,h2⟩=>⟨OG h1,AO h2⟩ |[],_::_,h=>h.elim |_::_,[],h=>h.elim
end
theorem SK{s:Sh}{v:Value}(h:Rep H s v)(h1:v.oneCell'=ah):Den H E s.AB v:=by
 cases h;case v hx=>
  simp only[Sh.AB];unfold SV.lit;split
  ·rfl
  ·rfl
  ·rfl
  ·exact ⟨rfl,hx⟩
 all_goals simp[Sh.AB,Den]
 case sl0 st g A cap hc=>exact .sl0 st g A cap hc
 case sl st n g b off cap c a1 a2 a3 a4 a5 a6=>exact .sl st n g b off cap c a1 a2 a3 a4 a5 a6
 case str l=>exact .str l
 case agg l vs _ _=>simp[da] at h1
 case mX l vs _ _=>simp[da] at h1
 case qK t x u hu=>exact .qK t x u hu
 case fn f l vs hs hv=>grind [AO,sD.G5]
 case er g T b cs e a1 a2=>exact .er g T b cs e a1 a2
 case pt l b off c a1 a2 a3=>exact ⟨b,off,⟨rfl,rfl⟩,c,fun j hj=>⟨a1 j hj,a2 j hj⟩,a3⟩
def OH(H:Mem)(E:Env)(hp:List (Nat×SB))(w w':World):Prop:=
 ∀b,(H b≠ao\/∃id sb,mQ hp id=ae sb/\nU E id sb=ae b)->w'.heap[b]?=w.heap[b]?
theorem OH.refl(H:Mem)(E:Env)(hp:List (Nat×SB))(w:World):OH H E hp w w:=fun _ _=>rfl
theorem CJ{l:List SV}{off n:Nat}{r:List SV}(h:seg l off n=ae r):off+n<=l.length/\r=(l.drop off).take n:=by
 unfold seg at h;cases hb:cq (off+n) l.length<;>simp[hb] at h
 simp_all
theorem Fg{agg:Bool}{l:List SV}{v:SV}(h:pack agg l=ae v):(agg=ah/\v=.agg l)\/(agg=ag/\l=[v]):=by
 unfold pack at h;grind
theorem aam{t:Nat}{i:BQ}(ht:Gl P t i){a:Addr}{cs:List Value}(hl:cs.length=i.size)(hc:∀j v,cs[j]?=ae v->w.cell? (a.add j)=ae v):
  (loadVar t a).run P w=.ok (if i.ty.isAgg then .agg cs.toArray else cs.headD undef) w:=by
 unfold loadVar;simp only[ct,agi ht,cK];cases hi:i.ty.isAgg
 ·obtain ⟨_,_,_,_,_,_,_,_,_,h1⟩:=ht.info
  have h1:=(h1 hi).1;rw[h1] at hl;match cs,hl with
  |[c],_=>
   have:=hc 0 c rfl;simp_all [kg,run_load]
 ·have:=run_loadCells_list (P:=P) (w:=w) a cs hc
  rw[hl] at this;simp[AL ht,this]
def Fh(agg:Bool)(cs:List Value):Value:=if agg then .agg cs.toArray else cs.headD undef
theorem CO{agg:Bool}{l:List SV}{sv:SV}{cs:List Value}(h:pack agg l=ae sv)(hd:ni H E l cs):Den H E sv (Fh agg cs):=by
 rcases Fg h with ⟨rfl,rfl⟩ |⟨rfl,rfl⟩
 ·exact ⟨cs.toArray,by simp[Fh],hd⟩
 ·match cs,hd with
  |[c],⟨hc,_⟩=>exact hc
theorem AP{hp:List (Nat×SB)}{w':World}(ha:OH H E hp w w'){id b:Nat}{sb:SB}(hl:mQ hp id=ae sb)(hb:nU E id sb=ae b):
  w'.heap[b]?=w.heap[b]?:=ha b (.inr ⟨id,sb,hl,hb⟩)
theorem Qe{elem st n:Nat}{v:Value}{xs:List Value}(h:w.ownsRow 0 elem st v n xs){j:Nat}{u:Value}(hu:xs[j]?=ae u):
  ∃b cur,nH v=ae b/\w.heap[b]?=ae (.cells cur elem (0,0))/\cur.toList[j]?=ae u:=by
 obtain ⟨hl,h⟩:=h;rcases h with ⟨rfl,rfl⟩ |⟨g,cap,cur,rfl,_,hg,_,_,hs,ht⟩
 ·simp_all
 ·refine ⟨g,cur,rfl,hg,?_⟩
  grind
theorem ZF{st n:Nat}{g:Nat->List Sh}{xs:List Value}(h:pG H st n g xs){i:Nat}(hi:i<n):
  ni H E ((g i).map Sh.AB) ((xs.drop (i*st)).take st):=by
 obtain ⟨h1,h2,h3,h4⟩:=h;have hg:=h2 i hi;have hlen:i*st+st<=xs.length:=by
  rw[h1];calc i*st+st=(i+1)*st:=by grind
   _<=n*st:=Nat.mul_le_mul_right _ hi
 have key:∀(l:List Sh) (vs:List Value),vs.length=l.length->(∀(j:Nat) (s:Sh) (v:Value),l[j]?=ae s->vs[j]?=ae v->Rep H s v/\v.oneCell'=ah)->ni H E (l.map Sh.AB) vs:=by
  intro l;induction l with
  |nil=>intro vs hl _;match vs,hl with|[],_=>trivial
  |cons s l ih=>
   intro vs hl h;match vs,hl with
   |v::vs,hl=>
    have h0:=h 0 s v rfl rfl;exact ⟨SK h0.1 h0.2,ih vs (by grind) fun j s' v' e1 e2=>h (j+1) s' v' (by grind) (by grind)⟩
 grind
theorem range_map_get{st k:Nat}{c:Nat->Value}{v:Value}(h:((aD st).map c)[k]?=ae v):k<st/\c k=v:=by
 grind
theorem OI{l:List Sh}{st:Nat}{c:Nat->Value}(hl:l.length=st)(hr:∀(j:Nat) (s:Sh),l[j]?=ae s->Rep H s (c j))(h1:∀j,j<st->(c j).oneCell'=ah):
  ni H E (l.map Sh.AB) ((aD st).map c):=by
 have key:∀(l:List Sh) (c:Nat->Value),(∀(j:Nat) (s:Sh),l[j]?=ae s->Rep H s (c j)/\(c j).oneCell'=ah)->ni H E (l.map Sh.AB) ((aD l.length).map c):=by
  intro l;induction l with
  |nil=>intro c _;trivial |cons s l ih=>
   intro c h;rw[cJ,List.range_succ_eq_map,dF,dF,List.map_map];exact ⟨SK (h 0 s rfl).1 (h 0 s rfl).2,ih (c ∘ Nat.succ) fun j s' e=>h (j+1) s' (by simpa using e)⟩
 grind
theorem UA{c:Core}{agg:Bool}{size:Nat}{x sv:SV}{u:Value}(hx:Den H E x u)(hh:nI K H E w c.hp)(hg:qE C.gls H)(hsz:agg=ag->size=1)
  (h:aby C c agg size x=ae sv):∃(a:Addr) (cs:List Value),u=.pointer (ae a)/\cs.length=size/\Den H E sv (Fh agg cs)/\
   ∀w',OH H E c.hp w w'->H.on w'->∀(j:Nat) (v:Value),cs[j]?=ae v->w'.cell? (a.add j)=ae v:=by
 unfold aby at h;split at h
 ·
  rename_i id off;obtain ⟨b,hb,rfl⟩:=hx;split at h
  ·rename_i cells elem hl
   obtain ⟨b',cs,he,hw,hd,_⟩:=hh.ent _ _ hl;simp only[he,bB,nH,dP] at hb;subst hb;cases hs:seg cells off size with
   |none=>grind |some r=>
    simp only[hs,bB] at h;obtain ⟨hle,rfl⟩:=CJ hs;have hdl:=hd.length;refine ⟨_,(cs.toList.drop off).take size,rfl,by grind,CO h ((hd.drop off).take size),?_⟩;intro w' ha _ j v hv;rw[bU] at hv;split at hv
    ·rw[cd,eG] at hv
     grind [AP,nU,nH,fM,bx]
    ·cases hv
  ·rename_i cells elem st n hl
   obtain ⟨v',xs,he,ho,hd,_⟩:=hh.ent _ _ hl;cases hs:seg cells off size with
   |none=>grind |some r=>
    simp only[hs,bB] at h;obtain ⟨hle,rfl⟩:=CJ hs;have hdl:=hd.length;refine ⟨_,(xs.drop off).take size,rfl,by grind,CO h ((hd.drop off).take size),?_⟩;intro w' ha _ j v hv;rw[bU] at hv;split at hv
    ·rw[cd] at hv
     obtain ⟨b',cur,hb',hw,hu⟩:=Qe ho hv;simp only[he,bB,hb',dP] at hb;grind [AP,nU,fM,bx]
    ·cases hv
  ·rename_i l hl
   obtain ⟨v',he,hr⟩:=hh.ent _ _ hl;cases hr with
   |pt _ b2 off2 c2 h1 h2 h3=>
    have h02:b2=b/\off2=0:=by
     rw[he] at hb;simp only[bB] at hb;unfold nH at hb;grind
    obtain ⟨rfl,rfl⟩:=h02;cases hs:seg (l.map Sh.AB) off size with
    |none=>grind |some r=>
     simp only[hs,bB] at h;obtain ⟨hle,rfl⟩:=CJ hs;rw[ck] at hle;have hd:ni H E (l.map Sh.AB) ((aD l.length).map c2):=OI rfl h3 h2;refine ⟨_,(((aD l.length).map c2).drop off).take size,rfl,by grind,CO h ((hd.drop off).take size),?_⟩;intro w' _ hon j v hv;rw[bU] at hv;split at hv
     ·rw[cd] at hv
      obtain ⟨hk,rfl⟩:=range_map_get hv;grind [EK,bx]
     ·cases hv
  ·cases h
 ·
  rename_i id st i off;obtain ⟨b,v',he,hb,hi,rfl⟩:=hx;split at h
  ·rename_i elem st' n g hl
   obtain ⟨v'',xs,he',ho,hr,_⟩:=hh.ent _ _ hl;rw[he] at he';cases he';have hn:lenV v'=n:=by
    rcases ho.2 with ⟨rfl,rfl⟩ |⟨_,_,_,rfl,_⟩<;>rfl
   rw[hn] at hi;cases hst:(st==st')<;>simp only[hst,cond_true,cond_false] at h
   ·cases h
   obtain rfl:st=st':=by grind
   cases hs:seg ((g i).map Sh.AB) off size with
   |none=>grind |some r=>
    simp only[hs,bB] at h;obtain ⟨hle,rfl⟩:=CJ hs;have hd:=ZF (E:=E) hr hi;have hdl:=hd.length;refine ⟨_,(((xs.drop (i*st)).take st).drop off).take size,rfl,by grind,CO h ((hd.drop off).take size),?_⟩;intro w' ha _ j v hv;rw[bU] at hv;split at hv
    ·rw[cd,bU] at hv
     split at hv
     ·rw[cd] at hv
      grind [Qe,AP,nU,fM,bx]
     ·cases hv
    ·cases hv
  ·rename_i st' n g hl
   obtain ⟨v'',he',hr⟩:=hh.ent _ _ hl;rw[he] at he';cases he';cases hst:(st==st')<;>simp only[hst,cond_true,cond_false] at h
   ·cases h
   obtain rfl:st=st':=by grind
   cases hr with
   |sl0 _ _ A cap hc=>simp[lenV] at hi |sl _ _ _ b2 off2 cap c h1 h2 h3 h4 h5 h6=>
    simp only[lenV] at hi;have h02:b2=b/\off2=0:=by
     unfold nH at hb;grind
    obtain ⟨rfl,rfl⟩:=h02;cases hs:seg ((g i).map Sh.AB) off size with
    |none=>grind |some r=>
     simp only[hs,bB] at h;obtain ⟨hle,rfl⟩:=CJ hs;rw[ck,h3 i hi] at hle;have hd:ni H E ((g i).map Sh.AB) ((aD st).map (c i)):=OI (h3 i hi) (fun j s hs=>h6 i j s hi hs) (fun j hj=>h5 i j hi hj);refine ⟨_,(((aD st).map (c i)).drop off).take size,rfl,by grind,CO h ((hd.drop off).take size),?_⟩;intro w' _ hon j v hv;rw[bU] at hv;split at hv
     ·rw[cd] at hv
      obtain ⟨hk,rfl⟩:=range_map_get hv;grind [EK,bx,iC]
     ·cases hv
  ·cases h
 ·
  rename_i st n g i off;obtain ⟨b,o,c,rfl,hi,hgl,hc,hr⟩:=hx;cases hs:seg ((g i).map Sh.AB) off size with
  |none=>grind |some r=>
   simp only[hs,bB] at h;obtain ⟨hle,rfl⟩:=CJ hs;rw[ck,hgl] at hle;have hd:ni H E ((g i).map Sh.AB) ((aD st).map c):=OI hgl hr (fun j hj=>(hc j hj).2);refine ⟨_,(((aD st).map c).drop off).take size,rfl,by grind,CO h ((hd.drop off).take size),?_⟩;intro w' _ hon j v hv;rw[bU] at hv;split at hv
   ·rw[cd] at hv
    obtain ⟨hk,rfl⟩:=range_map_get hv;grind [EK,bx,iC]
   ·cases hv
 ·rename_i g
  obtain rfl:u=_:=hx;cases agg<;>simp only[cond_true,cond_false] at h
  ·cases hl:mQ C.gls g with
   |none=>grind |some s=>
    have hgl:=hg.at_ g s hl;have h:s.AB=sv/\∃v,hcell H g 0=ae v/\Rep H s v/\v.oneCell'=ah:=by
     cases s<;>simp[hl] at h<;>exact ⟨h,hgl⟩
    obtain ⟨rfl,v,h1,h2,h3⟩:=h;refine ⟨_,[v],rfl,(hsz rfl).symm,SK h2 h3,?_⟩;grind [kg,EK]
  ·cases h
 ·cases h
end
structure KT(P:Program)(t:Nat):Prop where
 und:∃fs,P.underlying t=ae (.struct fs)
 chk:∀(em:Bool) (n:rX) (w:World),(Instr.checkKey em 10000 t (qX n)).run P w=.ok () w
 eq:∀(n m:rX) (w:World),(Op.equal t (qX n) (qX m)).run P w=.ok (decide (n=m)) w
class oC(P:Program)(C:Ctx):Prop where
 ty:∀t i,C.tys.get t=ae i->Gl P t i
 fn:∀g fn,C.fns.get g=ae fn->P.funcs[g]?=ae fn
 A:C.A=mM
 mixed:P.follows .mixedOrders=ah
 eqs:∀t i,C.eqs.contains t=ah->C.tys.get t=ae i->∀(xs ys:List Cq) (w:World),qV xs i.zero=ah->qV ys i.zero=ah->∀x y:Operand,
  (do eqGuard .eql t x y (.agg (xs.map Cq.v).toArray) (.agg (ys.map Cq.v).toArray);binOp .eql t (.agg (xs.map Cq.v).toArray) (.agg (ys.map Cq.v).toArray):Sem Value).run P w=.ok (.bool (decide (xs=ys))) w/\
  (do eqGuard .neq t x y (.agg (xs.map Cq.v).toArray) (.agg (ys.map Cq.v).toArray);binOp .neq t (.agg (xs.map Cq.v).toArray) (.agg (ys.map Cq.v).toArray):Sem Value).run P w=.ok (.bool (!decide (xs=ys))) w
 Ox:∀T,C.Ox.contains T=ah->∃inf e ie,P.info? T=ae inf/\inf.comparable=ah/\P.underlying T=ae (.pointer e)/\P.info? e=ae ie/\ie.size≠0
 VB:∀t,C.VB.contains t=ah->KT P t
section
variable{P:Program}{C:Ctx}{K:Kx}{H:Mem}{E:Env}{w:World}
def Qg(P:Program)(H:Mem)(E:Env)(w:World)(c:Core)(a:Act)(o:Oper)(φ:SV×Core->Prop):Prop:=
 ∃(p:SV×Core) (v:Value),φ p/\p.2=c/\Den H E p.1 v/\∀w',OH H E c.hp w w'->H.on w'->(execOp a.eval o).run P w'=.ok (.value v) w'
def QP(P:Program)(H:Mem)(E:Env)(c:Core)(a:Act)(o:Oper)(φ:SV×Core->Prop):Prop:=
 ∃(p:SV×Core) (v:Value),φ p/\p.2=c/\Den H E p.1 v/\∀w',(execOp a.eval o).run P w'=.ok (.value v) w'
theorem QP.q{c:Core}{a:Act}{o:Oper}{φ:SV×Core->Prop}(h:QP P H E c a o φ):Qg P H E w c a o φ:=
 let ⟨p,v,h1,h2,h3,h4⟩:=h;⟨p,v,h1,h2,h3,fun w' _ _=>h4 w'⟩
theorem yV{c:Core}{x:Option SV}{φ:SV×Core->Prop}(h:(DF c x).All φ):∃v,x=ae v/\φ (v,c):=by
 cases x with
 |none=>exact h.elim |some v=>exact ⟨v,rfl,h⟩
theorem VX{c:Core}{a:Act}{o:Oper}{x:Operand}{φ:SV×Core->Prop}(ho:o.op=.move x\/o.op=.assign x)(hd:ni H E c.tm a.tmps.toList)
  (h:(ret c (oI c.tm x)).All φ):QP P H E c a o φ:=by
 refine ⟨_,a.eval x,h,rfl,ou hd x,fun w'=>?_⟩;rcases ho with ho|ho<;>simp[execOp,ho]
theorem Qh{x:SV}{b:Bool}{u:Value}(h:VP x=ae b)(hd:Den H E x u):u=.bool b:=by
 cases x<;>simp[VP] at h
 all_goals (subst h;exact hd)
theorem ail{c:Core}{a:Act}{o:Oper}{x y z:Operand}{φ:SV×Core->Prop}(hA:C.A=mM)(ho:o.op=.pick x y z)(hd:ni H E c.tm a.tmps.toList)
  (h:(DF c (af9 C.A (oI c.tm x) (oI c.tm y) (oI c.tm z))).All φ):QP P H E c a o φ:=by
 obtain ⟨v,hv,hφ⟩:=yV h;have dx:=ou (H:=H) (E:=E) hd x;have dy:=ou (H:=H) (E:=E) hd y;have dz:=ou (H:=H) (E:=E) hd z;unfold af9 at hv;split at hv
 ·rename_i hx
  rw[hx] at dx;cases hv;refine ⟨_,a.eval y,hφ,rfl,dy,fun w'=>?_⟩;simp_all [Den,execOp,asBool]
 ·rename_i hx
  rw[hx] at dx;cases hv;refine ⟨_,a.eval z,hφ,rfl,dz,fun w'=>?_⟩;simp_all [Den,execOp,asBool]
 ·rename_i b hx
  rw[hx] at dx;simp only[Den] at dx;split at hv
  ·rename_i p q hp hq
   cases hv;have ep:=Qh hp dy;have eq:=Qh hq dz;refine ⟨_,.bool (bif b then p else q),hφ,rfl,?_,fun w'=>?_⟩
   ·rw[hA];rfl
   simp_all [execOp,asBool]
  ·cases hv
 ·cases hv
theorem alC{c:Core}{a:Act}{o:Oper}{t:Nat}{x:Operand}{φ:SV×Core->Prop}(hA:C.A=mM)(ho:o.op=.unOp .not t x)(hd:ni H E c.tm a.tmps.toList)
  (h:(DF c (notS C.A (oI c.tm x))).All φ):QP P H E c a o φ:=by
 obtain ⟨v,hv,hφ⟩:=yV h;have dx:=ou (H:=H) (E:=E) hd x;unfold notS at hv;split at hv<;>cases hv
 all_goals
  rename_i b hx;rw[hx] at dx;simp only[Den] at dx;refine ⟨_,.bool (!b),hφ,rfl,?_,fun w'=>by simp[execOp,ho,dx,Op.unary]⟩
 ·rfl
 ·rw[hA];rfl
theorem alD{c:Core}{a:Act}{o:Oper}{t:Nat}{x:Operand}{φ:SV×Core->Prop}(hA:C.A=mM)(ho:o.op=.unOp .neg t x)(hd:ni H E c.tm a.tmps.toList)
  (h:(DF c (negS C.A (oI c.tm x))).All φ):QP P H E c a o φ:=by
 obtain ⟨v,hv,hφ⟩:=yV h;have dx:=ou (H:=H) (E:=E) hd x;unfold negS at hv;split at hv<;>cases hv
 all_goals
  rename_i k n hx;rw[hx] at dx;simp only[Den] at dx;refine ⟨_,.int k (k.wrap (0 - n)),hφ,rfl,?_,fun w'=>by simp[execOp,ho,dx,Op.unary,Op.intArith]⟩
 ·rfl
 ·rw[hA];rfl
theorem WH{c:Core}{a:Act}{o:Oper}{x:Operand}{i:Nat}{φ:SV×Core->Prop}(ho:o.op=.extract x i)(hd:ni H E c.tm a.tmps.toList)
  (h:(I9 c (oI c.tm x) i).All φ):QP P H E c a o φ:=by
 have dx:=ou (H:=H) (E:=E) hd x;unfold I9 at h;split at h
 ·rename_i l hx
  obtain ⟨v,hv,hφ⟩:=yV h;rw[hx] at dx;obtain ⟨vs,he,hl⟩:=dx;obtain ⟨u,hu,hdu⟩:=hl.get hv;refine ⟨_,u,hφ,rfl,hdu,fun w'=>?_⟩;simp_all [eG,execOp,Instr.extract]
 ·exact h.elim
theorem UC{c:Core}{a:Act}{o:Oper}{f:Nat}{fs cs:Array Operand}{φ:SV×Core->Prop}(ho:o.op=.makeFunc (.func f) fs cs)(hd:ni H E c.tm a.tmps.toList)
  (h:(bif fs.size==0 then ret c (.fn f (cs.toList.map (oI c.tm))) else .fail).All φ):QP P H E c a o φ:=by
 cases hf:(fs.size==0)<;>simp only[hf,cond_true,cond_false] at h
 ·exact h.elim
 have hf:fs=#[]:=by grind
 subst hf;have key:∀l:List Operand,ni H E (l.map (oI c.tm)) (l.map a.eval):=by
  intro l;induction l with
  |nil=>trivial |cons x l ih=>exact ⟨ou hd x,ih⟩
 refine ⟨_,.func (.func f) #[] (cs.map a.eval),h,rfl,⟨cs.map a.eval,rfl,by simp_all⟩,fun w'=>?_⟩;simp[execOp,ho,Instr.makeFunc]
theorem alE{c:Core}{a:Act}{o:Oper}{x:Operand}{φ:SV×Core->Prop}(ho:o.op=.nilCheck x)(hd:ni H E c.tm a.tmps.toList)
  (h:(Wy c (oI c.tm x)).All φ):QP P H E c a o φ:=by
 have dx:=ou (H:=H) (E:=E) hd x;unfold Wy at h;split at h
 ·rename_i i off hx
  rw[hx] at dx;have dx':=dx;obtain ⟨b,_,he⟩:=dx;exact ⟨_,a.eval x,h,rfl,dx',fun w'=>by simp[execOp,ho,he]⟩
 ·rename_i i st j off hx
  rw[hx] at dx;have dx':=dx;obtain ⟨b,_,_,_,_,he⟩:=dx;exact ⟨_,a.eval x,h,rfl,dx',fun w'=>by simp[execOp,ho,he]⟩
 ·rename_i st n g i off hx
  rw[hx] at dx;have dx':=dx;obtain ⟨b,_,_,he,_⟩:=dx;exact ⟨_,a.eval x,h,rfl,dx',fun w'=>by simp[execOp,ho,he]⟩
 ·rename_i f l hx
  rw[hx] at dx;have dx':=dx;obtain ⟨vs,he,_⟩:=dx;exact ⟨_,a.eval x,h,rfl,dx',fun w'=>by simp[execOp,ho,he]⟩
 ·exact h.elim
theorem apF{c:Core}{a:Act}{o:Oper}{t:Nat}{x:Operand}{φ:SV×Core->Prop}(hC:oC P C)(ho:o.op=.load t x)(hd:ni H E c.tm a.tmps.toList)
  (hh:nI K H E w c.hp) (hg:qE C.gls H) (h:(Sv C c t (oI c.tm x)).All φ):Qg P H E w c a o φ:=by
 have dx:=ou (H:=H) (E:=E) hd x;unfold Sv at h;split at h
 ·rename_i i hi
  have ht:=hC.ty _ _ hi;obtain ⟨sv,hs,hφ⟩:=yV h;obtain ⟨ad,cs,he,hl,hden,hc⟩:=UA dx hh hg (fun e=>by obtain ⟨_,_,_,_,_,_,_,_,_,h1⟩:=ht.info;grind) hs;refine ⟨_,_,hφ,rfl,hden,fun w' ha hon=>?_⟩;have:=aam (w:=w') ht hl (hc w' ha hon);simp_all [execOp,Instr.loadAt,dJ,Fh]
 ·exact h.elim
theorem WI{fields:Array Field}{fs:List (Nat×Nat×Bool)}(hf:aal P fields fs){j off size:Nat}{agg:Bool}(h:fs[j]?=ae (off,size,agg)):
  ∃(f:Field) (inf:TypeInfo),fields[j]?=ae f/\f.offset=off/\P.info? f.type=ae inf/\inf.size=size/\(P.underlying f.type).isSome=ah/\
   (match P.underlying f.type with|some (.struct _) |some (.array _ _)=>ah|_=>ag)=agg:=by
 obtain ⟨h1,h2⟩:=hf;have hj:j<fields.size:=by grind
 have hfj:fields[j]?=ae fields[j]:=Array.getElem?_eq_getElem hj;grind
theorem CP{n m:Nat}(h:bO n m=ah):n<m:=Nat.le_of_ble_eq_true h
theorem VE{f:Field}{inf:TypeInfo}(hi:P.info? f.type=ae inf)(hs:0<inf.size)(a:Addr)(w:World):(fieldPlace a f).run P w=.ok (a.add f.offset) w:=by
 simp_all [fieldPlace,sizeOf,typeInfo,Nat.ne_of_gt]
theorem Qi{c:Core}{a:Act}{o:Oper}{t f:Nat}{x:Operand}{φ:SV×Core->Prop}(hC:oC P C)(ho:o.op=.fieldAddr t x f)(hd:ni H E c.tm a.tmps.toList)
  (h:(EY C c t f (oI c.tm x)).All φ):QP P H E c a o φ:=by
 have dx:=ou (H:=H) (E:=E) hd x;unfold EY at h;split at h
 ·rename_i i hi
  have ht:=(hC.ty _ _ hi).desc;split at h
  ·rename_i fs hty
   rw[hty] at ht;obtain ⟨fields,hu,hf⟩:=ht;split at h
   ·rename_i off size agg hfs
    cases hb:bO 0 size<;>simp only[hb,cond_true,cond_false] at h
    ·exact h.elim
    obtain ⟨fd,inf,h1,rfl,h2,h3,_⟩:=WI hf hfs;have hp:=fun (ad:Addr) (w':World)=>VE (P:=P) h2 (by simp_all) ad w';split at h
    ·rename_i id off2 hx
     rw[hx] at dx;obtain ⟨b,h4,he⟩:=dx;refine ⟨_,.pointer (ae ⟨b,off2+fd.offset,ao⟩),h,rfl,⟨b,h4,rfl⟩,fun w'=>?_⟩;simp_all [execOp,gD,run_underlying,dJ,bx]
    ·rename_i id st j off2 hx
     rw[hx] at dx;obtain ⟨b,v,h4,h5,h6,he⟩:=dx;refine ⟨_,.pointer (ae ⟨b,j*st+off2+fd.offset,ao⟩),h,rfl,⟨b,v,h4,h5,h6,by simp⟩,fun w'=>?_⟩;simp_all [execOp,gD,run_underlying,dJ,bx]
    ·rename_i st n g j off2 hx
     rw[hx] at dx;obtain ⟨b,o2,cc,he,h4⟩:=dx;refine ⟨_,.pointer (ae ⟨b,o2+off2+fd.offset,ao⟩),h,rfl,⟨b,o2,cc,by simp,h4⟩,fun w'=>?_⟩;simp_all [execOp,gD,run_underlying,dJ,bx]
    ·exact h.elim
   ·exact h.elim
  ·exact h.elim
 ·exact h.elim
theorem ajE{ty:Nat}{inf:TypeInfo}{agg:Bool}(hi:P.info? ty=ae inf)(hs:(P.underlying ty).isSome=ah)
  (ha:(match P.underlying ty with|some (.struct _) |some (.array _ _)=>ah|_=>ag)=agg) {cs:List Value} {off:Nat} (hl:off+inf.size<=cs.length) (h1:agg=ag->inf.size=1) (w:World) :
  (part ty cs.toArray off).run P w=.ok (Fh agg ((cs.drop off).take inf.size)) w:=by
 cases hu:P.underlying ty with
 |none=>grind |some d=>
  rw[hu] at ha;have hag:(isAgg ty).run P w=.ok agg w:=by
   unfold isAgg;simp only[ct,run_underlying hu,cK];cases d<;>simp_all
  unfold part;simp only[ct,hag,cK];cases agg
  ·have h1:=h1 rfl
   have hlt:off<cs.length:=by omega
   rw[h1];have:(cs.drop off).take 1=[cs[off]]:=by rw[List.drop_eq_getElem_cons hlt];rfl
   simp[this,Fh,hlt]
  ·simp[sizeOf,typeInfo,hi,Fh,List.extract_eq_take_drop]
theorem adp{c:Core}{a:Act}{o:Oper}{t f:Nat}{x:Operand}{φ:SV×Core->Prop}(hC:oC P C)(ho:o.op=.field t x f)(hd:ni H E c.tm a.tmps.toList)
  (h:(OB C c t f (oI c.tm x)).All φ):QP P H E c a o φ:=by
 have dx:=ou (H:=H) (E:=E) hd x;unfold OB at h;split at h
 ·rename_i i hi
  have ht:=(hC.ty _ _ hi).desc;split at h
  ·rename_i fs l hty hx
   rw[hty] at ht;obtain ⟨fields,hu,hf⟩:=ht;rw[hx] at dx;obtain ⟨vs,he,hl⟩:=dx;split at h
   ·rename_i off size agg hfs
    obtain ⟨sv,hs,hφ⟩:=yV h;obtain ⟨fd,inf,h1,rfl,h2,h3,h4,h5⟩:=WI hf hfs;subst h3;cases hsg:seg l fd.offset inf.size with
    |none=>simp_all |some r=>
     simp only[hsg,bB] at hs;obtain ⟨hle,rfl⟩:=CJ hsg;have hlen:=hl.length;refine ⟨_,Fh agg ((vs.toList.drop fd.offset).take inf.size),hφ,rfl,CO hs ((hl.drop _).take _),fun w'=>?_⟩;have hp:=ajE (P:=P) h2 h4 h5 (cs:=vs.toList) (off:=fd.offset) (by omega) (fun e=>by
      subst e;rcases Fg hs with ⟨e,_⟩ |⟨_,e⟩
      ·cases e
      grind [List.length_take]) w'
     simp_all [execOp,Instr.field,run_underlying,asAgg]
   ·exact h.elim
  ·exact h.elim
 ·exact h.elim
end
end Go.Sx
