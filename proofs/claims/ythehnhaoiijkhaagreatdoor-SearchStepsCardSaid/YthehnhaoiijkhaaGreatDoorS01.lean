/- Own work. -/
import Derived.OrdersHeld
import Derived.Calls
import Derived.Laws.AppendOwn
import Derived.Laws.OwnMore
import Derived.Below
import Derived.WalkKit
open Int (ofNat)
open Array renaming getD_eq_getD_getElem?->iM,getElem?_toList->dX,length_toList->bV
open BEq renaming beq->rG
open BitVec renaming ofInt->gu
open Bool renaming true->aF,false->aA
open Go.Addr renaming add_zero'->wV,add_lit->eU
open Go.Instr renaming sureAddr->mG,fieldAt->qw
open Go.Region renaming binds->jI,ready->kP,free->kY
open Go.Result renaming andThen_ok->fV
open Go.Sem renaming run_bind->gK
open Go.Value renaming oneCell'->jW
open Go.World renaming cell?->oK
open List renaming all_cons->lH,range'->lq,mem_range'_1->lu,getD_eq_getElem?_getD->aX,getD_cons_zero->sS,getD_cons_succ->sU,filter_cons->oJ,map_cons->jr,filter_congr->uG,getElem?_cons_succ->jP,length_cons->iT,range'_succ->vg,getElem?_cons_zero->jQ,range_eq_range'->rU,replicate->dU,range->aY,getElem?_eq_some_iff->aQ,getElem?_eq_getElem->aS,getElem?_take->bZ,length_take->cu,length_drop->dS,getElem?_drop->eH,length_map->dQ
open Nat renaming beq->fC,blt->fZ,ble_eq_true_of_le->rQ,ble->gY,add_zero->jB,sub_self->qR,zero_add->gU,sub_zero->uH,le_of_ble_eq_true->fP,add_assoc->jX
open Option renaming none->aN,some->ay,bind_some->eP
open Option.some renaming injEq->kU
namespace Go.Sx
instance (priority:=high)VP:BEq Nat:=⟨fC⟩
instance (priority:=high)aiA:LawfulBEq Nat where
 eq_of_beq h:=Nat.eq_of_beq_eq_true h
 rfl:=Nat.beq_refl _
inductive BT(α:Type)where
 |nil
 |node (l:BT α) (k:Nat) (v:α) (r:BT α)
def BT.get{α:Type}:BT α->Nat->Option α
 | .nil,_=>aN | .node l k v r,i=>bif fZ i k then l.get i else bif fZ k i then r.get i else ay v
def BT.All{α:Type}(φ:Nat->α->Prop):BT α->Prop
 | .nil=>True | .node l k v r=>φ k v/\l.All φ/\r.All φ
def BT.allB{α:Type}(f:Nat->α->Bool):BT α->Bool
 | .nil=>aF | .node l k v r=>f k v&&l.allB f&&r.allB f
theorem BT.All.get{α:Type}{φ:Nat->α->Prop}:∀{t:BT α} {i:Nat} {v:α},t.All φ->t.get i=ay v->φ i v
 | .nil,_,_,_,h=>by cases h | .node l k v r,i,v',h,hg=>by
  simp only[BT.get] at hg;cases h1:fZ i k<;>simp only[h1,cond_true,cond_false] at hg
  ·cases h2:fZ k i<;>simp only[h2,cond_true,cond_false] at hg
   ·cases hg
    have a1:¬i<k:=fun h=>by have:fZ i k=aF:=rQ h;rw[this] at h1;cases h1
    have a2:¬k<i:=fun h=>by have:fZ k i=aF:=rQ h;rw[this] at h2;cases h2
    obtain rfl:k=i:=by omega
    exact h.1
   ·exact BT.All.get h.2.2 hg
  ·exact BT.All.get h.2.1 hg
theorem BT.TF{α:Type}{f:Nat->α->Bool}:∀{t:BT α},t.allB f=aF->t.All fun k v=>f k v=aF
 | .nil,_=>trivial | .node l k v r,h=>by
  simp only[BT.allB,Bool.and_eq_true] at h;exact ⟨h.1.1,BT.TF h.1.2,BT.TF h.2⟩
inductive Sh where
 |i (k:IntKind) (n:Int)
 |b (x:Bool)
 |str (l:List UInt8)
 |v (x:Value)
 |sl (st n:Nat) (get:Nat->List Sh)
 |os (e st n:Nat) (get:Nat->List Sh)
 |agg (l:List Sh)
 |Ba (l:List Sh)
 |Dv (t:Nat) (x:Sh)
 |fn (f:Nat) (caps:List Sh)
 |er (g T:Nat)
 |pt (l:List Sh)
 deriving Inhabited
inductive SV where
 |any
 |val (v:Value)
 |int (k:IntKind) (n:Int)
 |sym (k:IntKind) (n:Int)
 |bool (b:Bool)
 |test (b:Bool)
 |str (l:List UInt8)
 |ptr (id off:Nat)
 |gs (id:Nat)
 |gp (id st i off:Nat)
 |Fg|Bj|GN|Ed|F6
 |fn (f:Nat) (cap:List SV)
 |agg (l:List SV)
 |Ba (l:List SV)
 |Dv (t:Nat) (x:SV)
 |mp (id:Nat)
 |sh (s:Sh)
 |G5 (st n:Nat) (get:Nat->List Sh) (i off:Nat)
 |glob (g:Nat)
 |ev (id:Nat)
 |vw (id n:Nat)
 deriving Inhabited
inductive VT where
 |int|bool
 deriving DecidableEq,Inhabited
inductive SB where
 |box (cells:List SV) (elem:Nat)
 |row (cells:List SV) (elem st n:Nat)
 |own (elem st n:Nat) (get:Nat->List Sh)
 |fz (st n:Nat) (get:Nat->List Sh)
 |map (es:List (SV×SV))
 |Rt (l:List Sh)
 |Hl (elem st n:Nat) (get:Nat->List Sh) (more:List SV)
 |fm (k:IntKind) (M:Int->Option Value) (fs us:List (Int×Bool×SV)) (tag:Option (Nat×Int))
 |buf (e:Nat) (l:List UInt8)
 |pm (vt:VT) (M:Int×List UInt8->Option Value) (us:List ((Int×List UInt8)×Bool×SV))
inductive Ty where
 |int (k:IntKind) |bool|str|ptr (e:Nat) |fn|iface
 |map (k e:Nat)
 |slice (e:Nat)
 |struct (fs:List (Nat×Nat×Bool))
 |arr (n e:Nat)
 |other
structure Kr where
 ty:Ty
 size:Nat
 bytes:Nat
 zero:List SV
structure Prim where
 add:IntKind->Int->Int->Int
 sub:IntKind->Int->Int->Int
 mul:IntKind->Int->Int->Int
 neg:IntKind->Int->Int
 lt:Int->Int->Bool
 le:Int->Int->Bool
 eq:Int->Int->Bool
 max:Int->Int->Int
 min:Int->Int->Int
 inB:Int->Nat->Bool
 upTo:Int->Nat->Bool
 toN:Int->Nat
 Bl:Nat->Int
 addN:Nat->Nat->Nat
 JM:Nat->Nat->Nat
 leN:Nat->Nat->Bool
 room:Nat->Nat->Bool
 len:List UInt8->Nat
 nt:Bool->Bool
 ite:Bool->Bool->Bool->Bool
 beq:Bool->Bool->Bool
 seq:List UInt8->List UInt8->Bool
 app:List UInt8->List UInt8->List UInt8
 snoc:(Nat->List Sh)->Nat->(Nat->List Sh)->Nat->List Sh
 upd:(Nat->List Sh)->Nat->Nat->List Sh->Nat->List Sh
 bin:BinOp->IntKind->Int->Int->Int
 conv:IntKind->Int->Int
 ins:(Nat->List Sh)->Nat->List Sh->Nat->List Sh
 kp:Int->List UInt8->Int->List UInt8->Bool
 isS:Option Value->Bool
 asH:Option Value->Int
 H8:Option Value->Bool
inductive BQ where
 |int (a b:Int)
 |nat (a b:Nat)
 |bool (a b:Bool)
 |str (a b:List UInt8)
 |val (a b:Value)
 |sh (a b:Sh)
 |get (n:Nat) (g g':Nat->List Sh)
 |L9 (g g':Nat->List Sh)
 |mp (M M':Int->Option Value)
 |mg (M M':Int×List UInt8->Option Value)
def BQ.ok:BQ->Prop
 | .int a b=>a=b | .nat a b=>a=b | .bool a b=>a=b | .str a b=>a=b | .val a b=>a=b | .sh a b=>a=b | .get n g g'=>∀i,i<n->g i=g' i | .L9 g g'=>g=g' | .mp M M'=>M=M' | .mg M M'=>M=M'
def BQ.all:List BQ->Prop
 |[]=>True |e::l=>e.ok/\BQ.all l
inductive Tree(α:Type)where
 |leaf (a:α)
 |node (b:Bool) (t f:Tree α)
 |need (b:Bool) (t:Tree α)
 |must (l:List BQ) (t:Tree α)
 |both (t f:Tree α)
 |fail
def Tree.bind{α β:Type}:Tree α->(α->Tree β)->Tree β
 | .leaf a,k=>k a | .node b t f,k=>.node b (t.bind k) (f.bind k) | .need b t,k=>.need b (t.bind k) | .must l t,k=>.must l (t.bind k) | .both t f,k=>.both (t.bind k) (f.bind k) | .fail,_=>.fail
def Tree.All{α:Type}(φ:α->Prop):Tree α->Prop
 | .leaf a=>φ a | .node b t f=>(b=aF->t.All φ)/\(b=aA->f.All φ) | .need b t=>b=aF/\t.All φ | .must l t=>BQ.all l/\t.All φ | .both t f=>t.All φ/\f.All φ | .fail=>False
def Tree.lone{α:Type}:Tree α->Bool
 | .both _ _=>aA | .node _ t f=>t.lone&&f.lone | .need _ t=>t.lone | .must _ t=>t.lone |_=>aF
structure Ctx where
 A:Prim
 tys:BT Kr
 fns:BT Func
 spec:Nat->Option (List Sh->Tree Sh)
 eqs:List Nat
 VQ:List Nat
 MP:Nat->List Nat->Bool
 gls:List (Nat×Sh)
 live:BT Nat
 am2:Nat->Option (IntKind×List Int):=fun _=>aN
 lits:Bool:=aA
 ins:Nat->Option Nat:=fun _=>aN
 lend:Nat->Bool:=fun _=>aA
 grow:Nat->Option Nat:=fun _=>aN
 pks:List Nat:=[]
 aeH:Nat->Option VT:=fun _=>aN
def AA{α:Type}:List (Nat×α)->Nat->Option α
 |[],_=>aN |(j,x)::l,i=>bif j==i then ay x else AA l i
def hset{α:Type}:List (Nat×α)->Nat->α->List (Nat×α)
 |[],_,_=>[] |(j,x)::l,i,y=>bif j==i then (j,y)::l else (j,x)::hset l i y
def hdel{α:Type}:List (Nat×α)->Nat->List (Nat×α)
 |[],_=>[] |(j,x)::l,i=>bif j==i then hdel l i else (j,x)::hdel l i
def hins{α:Type}:List (Nat×α)->Nat->α->List (Nat×α)
 |[],i,y=>[(i,y)] |(j,x)::l,i,y=>bif fZ j i then (j,x)::hins l i y else (i,y)::(j,x)::l
structure Core where
 tm:List SV
 hp:List (Nat×SB)
 nx:Nat
 lim:Nat
 tc:List Nat
def SV.ofValue:Value->SV
 | .int k n=>.int k n | .bool b=>.bool b | .pointer aN=>.Fg | .slice aN 0 0=>.Bj | .nilFunc=>.GN | .nilIface=>.Ed | .map aN=>.F6 | .string s=>.str s.data.toList | .chan aN=>.val (.chan aN) |_=>.any
def SV.lit:Value->SV
 | .int k n=>.int k n | .nilIface=>.Ed | .bool b=>.bool b |x=>.val x
mutual
def XJ:Sh->SV
 | .agg l=>.agg (Q8 l) | .Ba l=>.Ba (Q8 l) | .fn f l=>.fn f (Q8 l) | .i k n=>.sym k n | .b x=>.test x | .v x=>SV.lit x | .pt l=>.G5 l.length 1 (fun _=>l) 0 0 |s=>.sh s
def Q8:List Sh->List SV
 |[]=>[] |x::r=>XJ x::Q8 r
end
def Sh.Jw:Sh->SV
 | .fn f l=>.fn f (Q8 l) | .i k n=>.sym k n | .b x=>.test x | .v x=>SV.lit x | .pt l=>.G5 l.length 1 (fun _=>l) 0 0 |s=>.sh s
def BP(tm:List SV):Operand->SV
 | .tmp t=>tm.getD t .any | .const v=>.ofValue v | .global g=>.glob g | .func f=>.fn f []
def SV.cells:SV->List SV
 | .agg l=>l |x=>[x]
def setAt(l:List SV)(off:Nat):List SV->List SV
 |[]=>l |x::r=>setAt (l.set off x) (off+1) r
def Ty.isAgg:Ty->Bool
 | .struct _=>aF | .arr _ _=>aF |_=>aA
def pack(agg:Bool)(l:List SV):Option SV:=
 bif agg then ay (.agg l) else match l with
  |[x]=>ay x |_=>aN
def seg(l:List SV)(off n:Nat):Option (List SV):=
 bif gY (off+n) l.length then ay ((l.drop off).take n) else aN
def SV.ZT:SV->Bool
 | .any=>aA | .ev _=>aA | .sh (.agg _)=>aA |_=>aF
def Qc(place:Nat->Option (Nat×Nat))(ev:Operand->SV):List SV->List (Nat×Operand)->Option (List SV)
 |z,[]=>ay z |z,(i,x)::r=>match place i with
  |some (off,size)=>bif (ev x).ZT&&(ev x).cells.length==size&&gY (off+size) z.length then Qc place ev (setAt z off (ev x).cells) r else aN |none=>aN
def rep(l:List SV):Nat->List SV
 |0=>[] |n+1=>l++rep l n
def chunks(st:Nat):Nat->List Sh->List (List Sh)
 |0,_=>[] |n+1,l=>l.take st::chunks st n (l.drop st)
def BD(ll:List (List Sh))(i:Nat):List Sh:=ll.getD i []
def SV.one:SV->Bool
 | .any| .agg _| .Ba _| .ev _=>aA | .sh (.agg _) | .sh (.Ba _)=>aA |_=>aF
def FU:List SV->Bool
 |[]=>aF |x::r=>x.one&&FU r
mutual
def Ee(hp:List (Nat×SB)):SV->Option Sh
 | .int k n=>ay (.i k n) | .sym k n=>ay (.i k n) | .bool x=>ay (.b x) | .test x=>ay (.b x) | .str l=>ay (.str l) | .val v=>ay (.v v) | .Fg=>ay (.v (.pointer aN)) | .GN=>ay (.v .nilFunc) | .Ed=>ay (.v .nilIface) | .Bj=>ay (.sl 0 0 fun _=>[]) | .sh s=>ay s | .agg l=>(IB hp l).map .agg | .Ba l=>(IB hp l).map .Ba | .fn f l=>(IB hp l).map (.fn f) | .Dv t x=>(Ee hp x).map (.Dv t) | .gs id=>match AA hp id with
  |some (.fz st m g)=>ay (.sl st m g) |_=>aN
 | .ptr id off=>match AA hp id with
  |some (.Rt l)=>bif off==0 then ay (.pt l) else aN |_=>aN
 | .G5 st _ g i off=>bif off==0&&(g i).length==st then ay (.pt (g i)) else aN |_=>aN
def IB(hp:List (Nat×SB)):List SV->Option (List Sh)
 |[]=>ay [] |x::r=>match Ee hp x,IB hp r with
  |some s,ay l=>ay (s::l) |_,_=>aN
end
mutual
def aiB:SV->List Nat
 | .gs id=>[id] | .ptr id _=>[id] | .agg l=>JO l | .Ba l=>JO l | .fn _ l=>JO l | .Dv _ x=>aiB x |_=>[]
def JO:List SV->List Nat
 |[]=>[] |x::r=>aiB x++JO r
end
def FH:Nat->List (Nat×SB)->List Nat->Option (List (Nat×SB))
 |_,hp,[]=>ay hp |0,_,_=>aN |m+1,hp,id::r=>match AA hp id with
  |some (.fz _ _ _)=>FH m hp r |some (.Rt _)=>FH m hp r |some (.own _ st n g)=>FH m (hset hp id (.fz st n g)) r |some (.row cells _ st n)=>match IB hp cells with
   |some l=>bif FU cells then FH m (hset hp id (.fz st n (BD (chunks st n l)))) r else aN |none=>FH m hp (JO cells++id::r)
  |some (.box cells _)=>match IB hp cells with
   |some l=>bif FU cells then FH m (hset hp id (.Rt l)) r else aN |none=>FH m hp (JO cells++id::r)
  |_=>aN
def freeze(hp:List (Nat×SB))(ids:List Nat):Option (List (Nat×SB)):=FH 40 hp ids
mutual
def Dk:Sh->Nat->SV×List (Nat×SB)×Nat
 | .os e st n g,b=>(.gs b,[(b,.own e st n g)],b+1) | .agg l,b=>let r:=EL l b;(.agg r.1,r.2) | .Ba l,b=>let r:=EL l b;(.Ba r.1,r.2) | .i k n,b=>(.sym k n,[],b) | .b x,b=>(.test x,[],b) | .v x,b=>(SV.lit x,[],b) | .fn f l,b=>(.fn f (Q8 l),[],b) | .pt l,b=>(.G5 l.length 1 (fun _=>l) 0 0,[],b) |s,b=>(.sh s,[],b)
def EL:List Sh->Nat->List SV×List (Nat×SB)×Nat
 |[],b=>([],[],b) |x::r,b=>let p:=Dk x b;let q:=EL r p.2.2;(p.1::q.1,p.2.1++q.2.1,q.2.2)
end
def DL(hp:List (Nat×SB)):List (Nat×SB)->List (Nat×SB)
 |[]=>hp |(i,b)::r=>DL (hins hp i b) r
def VR(A:Prim)(op:BinOp)(k:IntKind)(x y:Int):Option Int:=
 match op with
 | .add=>ay (A.add k x y) | .sub=>ay (A.sub k x y) | .mul=>ay (A.mul k x y) |_=>aN
def aeI(op:BinOp)(k:IntKind)(x y:Int):Option Int:=
 match op with
 | .add=>ay (k.wrap (x+y)) | .sub=>ay (k.wrap (x - y)) | .mul=>ay (k.wrap (x*y)) |_=>aN
def afY(A:Prim)(op:BinOp)(x y:Int):Option Bool:=
 match op with
 | .eql=>ay (A.eq x y) | .neq=>ay (A.nt (A.eq x y)) | .lss=>ay (A.lt x y) | .leq=>ay (A.le x y) | .gtr=>ay (A.lt y x) | .geq=>ay (A.le y x) |_=>aN
def cmpL(op:BinOp)(x y:Int):Option Bool:=
 match op with
 | .eql=>ay (x==y) | .neq=>ay (x != y) | .lss=>ay (decide (x<y)) | .leq=>ay (decide (x<=y)) | .gtr=>ay (decide (y<x)) | .geq=>ay (decide (y<=x)) |_=>aN
def Ctx.ty(C:Ctx)(t:Nat):Option Kr:=C.tys.get t
def orO{α:Type}:Option α->Option α->Option α
 |some a,_=>ay a |none,b=>b
def Ef(op:BinOp)(nil:Bool):Option SV:=
 match op with
 | .eql=>ay (.bool nil) | .neq=>ay (.bool !nil) |_=>aN
def eqB(A:Prim)(op:BinOp)(x y:Bool):Option SV:=
 match op with
 | .eql=>ay (.test (A.beq x y)) | .neq=>ay (.test (A.nt (A.beq x y))) |_=>aN
def eqS(A:Prim)(op:BinOp)(x y:List UInt8):Option SV:=
 match op with
 | .eql=>ay (.test (A.seq x y)) | .neq=>ay (.test (A.nt (A.seq x y))) |_=>aN
inductive Cq where
 |i (n:Int)
 |b (x:Bool)
 deriving DecidableEq
def Cq.v:Cq->Value
 | .i n=>.int .i64 n | .b x=>.bool x
def OA:List SV->Option (List Cq)
 |[]=>ay [] | .int .i64 n::r=>(OA r).map fun l=>.i n::l | .sym .i64 n::r=>(OA r).map fun l=>.i n::l | .bool x::r=>(OA r).map fun l=>.b x::l | .test x::r=>(OA r).map fun l=>.b x::l |_=>aN
def Dw:List Cq->List SV->Bool
 |[],[]=>aF | .i _::r,.int .i64 _::z=>Dw r z | .b _::r,.bool _::z=>Dw r z |_,_=>aA
def Qd(A:Prim):List Cq->List Cq->Bool
 | .i x::xs,.i y::ys=>A.ite (A.eq x y) (Qd A xs ys) aA | .b x::xs,.b y::ys=>A.ite (A.beq x y) (Qd A xs ys) aA |_,_=>aF
def ady(gls:List (Nat×Sh))(g T:Nat):Bool:=match AA gls g with
 |some (.er g' T')=>g'==g&&T'==T |_=>aA
def am4(gls:List (Nat×Sh))(op:BinOp):SV->SV->Option SV
 | .fn _ _,.GN=>Ef op aA | .GN,.GN=>Ef op aF | .ptr _ _,.Fg=>Ef op aA | .G5 _ _ _ _ _,.Fg=>Ef op aA | .val (.pointer (ay _)),.Fg=>Ef op aA | .Fg,.Fg=>Ef op aF | .Dv _ _,.Ed=>Ef op aA | .sh (.Dv _ _),.Ed=>Ef op aA | .sh (.er _ _),.Ed=>Ef op aA | .Ed,.Ed=>Ef op aF | .sh (.er g T),.sh (.er g' T')=>bif g==g'&&T==T' then Ef op aF else bif ady gls g T&&ady gls g' T'&&T==T' && !(g==g') then Ef op aA else aN | .Ed,.sh (.er _ _)=>Ef op aA | .Dv t _,.sh (.er _ T)=>bif t==T then aN else Ef op aA | .sh (.Dv t _),.sh (.er _ T)=>bif t==T then aN else Ef op aA |_,_=>aN
def FN:Ty->SV->Bool
 | .fn,.fn _ _=>aF | .fn,.GN=>aF | .ptr _,.ptr _ _=>aF | .ptr _,.G5 _ _ _ _ _=>aF | .ptr _,.val (.pointer (ay _))=>aF | .ptr _,.Fg=>aF | .iface,.Dv _ _=>aF | .iface,.sh (.Dv _ _)=>aF | .iface,.sh (.er _ _)=>aF | .iface,.Ed=>aF |_,_=>aA
def isConst:Operand->Bool
 | .const _=>aF |_=>aA
def am5(A:Prim)(op:BinOp)(x y:SV):Option SV:=
 match x,y with
 | .bool a,.bool b=>match op with| .eql=>ay (.bool (a==b)) | .neq=>ay (.bool (a != b)) |_=>aN
 | .bool a,.test b=>eqB A op a b | .test a,.bool b=>eqB A op a b | .test a,.test b=>eqB A op a b |_,_=>aN
def VU:SV->Bool
 | .Ed=>aF |_=>aA
def asI(VQ:List Nat):SV->Bool
 | .sh (.er _ T)=>VQ.contains T |_=>aF
def akv(VQ:List Nat)(gls:List (Nat×Sh))(op:BinOp)(ty:Ty)(lit:Bool)(x y:SV):Option SV:=
 bif asI VQ x&&FN ty x&&FN ty y&&(lit || !(VU x&&VU y)) then am4 gls op x y else aN
def am6(C:Ctx)(op:BinOp)(t:Nat)(lit:Bool)(x y:SV):Option SV:=
 let A:=C.A
 match x,y with
 | .int k a,.int l b=>bif k==l then orO ((aeI op k a b).map (.int k)) ((cmpL op a b).map .bool) else aN | .int k a,.sym l b=>bif k==l then orO ((VR A op k a b).map (.sym k)) ((afY A op a b).map .test) else aN | .sym k a,.int l b=>bif k==l then orO ((VR A op k a b).map (.sym k)) ((afY A op a b).map .test) else aN | .sym k a,.sym l b=>bif k==l then orO ((VR A op k a b).map (.sym k)) ((afY A op a b).map .test) else aN | .str a,.str b=>match op with| .eql=>ay (.bool (a==b)) | .neq=>ay (.bool (a != b)) |_=>aN
 | .str a,.sh (.str b)=>eqS A op a b | .sh (.str a),.str b=>eqS A op a b | .sh (.str a),.sh (.str b)=>eqS A op a b | .agg a,.agg b=>match OA a,OA b,C.ty t with
  |some a,ay b,ay i=>bif C.eqs.contains t&&Dw a i.zero&&Dw b i.zero then match op with
   | .eql=>ay (.test (Qd A a b)) | .neq=>ay (.test (A.nt (Qd A a b))) |_=>aN
   else aN
  |_,_,_=>aN
 |x,y=>match C.ty t with
  |none=>aN |some i=>match i.ty with
   | .bool=>am5 A op x y |ty=>akv C.VQ C.gls op ty lit x y
def am7(hp:List (Nat×SB)):SV->Option Nat
 | .gs id=>match AA hp id with
  |some (.row _ _ _ n)=>ay n |some (.own _ _ n _)=>ay n |some (.fz _ n _)=>ay n |_=>aN
 | .sh (.sl _ n _)=>ay n |_=>aN
def XK:Operand->Bool
 | .const (.slice aN 0 0)=>aF |_=>aA
def adz(C:Ctx)(c:Core)(op:BinOp)(t:Nat)(y:Operand)(x:SV):Option (Tree (SV×Core)):=
 match C.ty t with
 |some i=>match i.ty with
  | .slice _=>bif XK y then
    match Ef op aF,Ef op aA with
    |some a,ay b=>match x with
     | .Bj=>ay (.leaf (a,c)) |x=>match am7 c.hp x with
      |some n=>ay (.node (C.A.leN n 0) (.both (.leaf (a,c)) (.leaf (b,c))) (.leaf (b,c))) |none=>aN
    |_,_=>aN
   else aN
  |_=>aN
 |none=>aN
def textOf:SV->Option (List UInt8)
 | .str l=>ay l | .sh (.str l)=>ay l |_=>aN
def VW(op:BinOp)(k:IntKind)(a b:Int):Int:=
 match op with
 | .and=>k.wrap (gu k.bits a&&&gu k.bits b).toNat | .or=>k.wrap (gu k.bits a|||gu k.bits b).toNat | .xor=>k.wrap (gu k.bits a^^^gu k.bits b).toNat | .andNot=>k.wrap (gu k.bits a&&&~~~ gu k.bits b).toNat | .shl=>k.wrap (a*2^(min b.toNat k.bits)) | .shr=>a.fdiv (2^(min b.toNat k.bits)) | .quo=>k.wrap (a.tdiv b) | .rem=>a.tmod b |_=>0
def numOf:SV->Option (IntKind×Int×Bool)
 | .int k n=>ay (k,n,aF) | .sym k n=>ay (k,n,aA) |_=>aN
def Nk(A:Prim)(op:BinOp)(k:IntKind)(a b:Int)(la lb:Bool)(c:Core):Tree (SV×Core):=
 .leaf (bif la&&lb then .int k (VW op k a b) else .sym k (A.bin op k a b),c)
def am8(C:Ctx)(c:Core)(op:BinOp)(x y:SV):Option (Tree (SV×Core)):=
 match op,numOf x,numOf y with
 | .shl,ay (k,a,la),ay (_,b,lb)=>ay (bif lb then bif decide (0<=b) then Nk C.A .shl k a b la lb c else .fail else .need (C.A.le 0 b) (Nk C.A .shl k a b la lb c)) | .shr,ay (k,a,la),ay (_,b,lb)=>ay (bif lb then bif decide (0<=b) then Nk C.A .shr k a b la lb c else .fail else .need (C.A.le 0 b) (Nk C.A .shr k a b la lb c)) | .quo,ay (k,a,la),ay (l,b,lb)=>bif k==l then ay (bif lb then bif b==0 then .fail else Nk C.A .quo k a b la lb c else .need (C.A.nt (C.A.eq b 0)) (Nk C.A .quo k a b la lb c)) else aN | .rem,ay (k,a,la),ay (l,b,lb)=>bif k==l then ay (bif lb then bif b==0 then .fail else Nk C.A .rem k a b la lb c else .need (C.A.nt (C.A.eq b 0)) (Nk C.A .rem k a b la lb c)) else aN | .and,ay (k,a,la),ay (l,b,lb)=>bif k==l then ay (Nk C.A .and k a b la lb c) else aN | .or,ay (k,a,la),ay (l,b,lb)=>bif k==l then ay (Nk C.A .or k a b la lb c) else aN | .xor,ay (k,a,la),ay (l,b,lb)=>bif k==l then ay (Nk C.A .xor k a b la lb c) else aN | .andNot,ay (k,a,la),ay (l,b,lb)=>bif k==l then ay (Nk C.A .andNot k a b la lb c) else aN |_,_,_=>aN
def akw(C:Ctx)(c:Core)(op:BinOp)(x y:SV):Option (Tree (SV×Core)):=
 match op with
 | .add=>match textOf x,textOf y with
  |some a,ay b=>ay (.need (C.A.leN (C.A.addN (C.A.len a) (C.A.len b)) 9223372036854775807) (.leaf (.sh (.str (C.A.app a b)),c))) |_,_=>aN
 |_=>aN
def aaC(C:Ctx)(c:Core)(op:BinOp)(t:Nat)(x y:Operand)(lit:Bool):Tree (SV×Core):=
 match am8 C c op (BP c.tm x) (BP c.tm y) with
 |some r=>r |none=>match akw C c op (BP c.tm x) (BP c.tm y) with
 |some r=>r |none=>match adz C c op t y (BP c.tm x) with
 |some r=>r |none=>match am6 C op t lit (BP c.tm x) (BP c.tm y) with
  |some v=>.leaf (v,c) |none=>.fail
def notS(A:Prim):SV->Option SV
 | .bool b=>ay (.bool !b) | .test b=>ay (.test (A.nt b)) |_=>aN
def negS(A:Prim):SV->Option SV
 | .int k n=>ay (.int k (k.wrap (0 - n))) | .sym k n=>ay (.sym k (A.neg k n)) |_=>aN
def aaf:SV->Option Bool
 | .bool x=>ay x | .test x=>ay x |_=>aN
def aiC(A:Prim)(c a b:SV):Option SV:=
 match c with
 | .bool aF=>ay a | .bool aA=>ay b | .test c=>match aaf a,aaf b with
  |some x,ay y=>ay (.test (A.ite c x y)) |_,_=>aN
 |_=>aN
def akx(A:Prim)(hp:List (Nat×SB)):SV->Option SV
 | .gs id=>match AA hp id with
  |some (.row _ _ _ n)=>ay (.int .i64 n) |some (.own _ _ n _)=>ay (.sym .i64 (A.Bl n)) |some (.Hl _ st n _ more)=>ay (.sym .i64 (A.Bl (A.addN n (Nat.div more.length st)))) |some (.fz _ n _)=>ay (.sym .i64 (A.Bl n)) |some (.buf _ l)=>ay (.sym .i64 (A.Bl (A.len l))) |_=>aN
 | .vw _ n=>ay (.sym .i64 (A.Bl n)) | .sh (.sl _ n _)=>ay (.sym .i64 (A.Bl n)) | .Bj=>ay (.int .i64 0) | .str l=>ay (.int .i64 l.length) | .sh (.str l)=>ay (.sym .i64 (A.Bl (A.len l))) |_=>aN
def Hw:SV->Option Int
 | .int _ n=>ay n | .sym _ n=>ay n |_=>aN
def ret(c:Core)(v:SV):Tree (SV×Core):=.leaf (v,c)
def alloc(c:Core)(b:SB)(v:SV):Tree (SV×Core):=
 bif fZ c.nx c.lim then ret {c with hp:=hins c.hp c.nx b,nx:=c.nx+1} v else .fail
def Mc(c:Core):Option SV->Tree (SV×Core)
 |some v=>.leaf (v,c) |none=>.fail
def UK(C:Ctx)(c:Core)(e:Nat):Tree (SV×Core):=
 match C.ty e with
 |some i=>alloc c (.box i.zero e) (.ptr c.nx 0) |none=>.fail
def UL(C:Ctx)(c:Core)(t:Nat)(parts:List (Nat×Operand)):Tree (SV×Core):=
 match C.ty t with
 |some i=>match i.ty with
  | .struct fs=>match Qc (fun j=>fs[j]?.map fun f=>(f.1,f.2.1)) (BP c.tm) i.zero parts with
   |some l=>ret c (.agg l) |none=>.fail
  |_=>.fail
 |none=>.fail
def LG(C:Ctx)(c:Core)(t n:Nat)(parts:List (Nat×Operand)):Tree (SV×Core):=
 match C.ty t with
 |some i=>match i.ty with
  | .slice e=>match C.ty e with
   |some j=>bif gY (n*j.size) 16777216&&fZ 0 j.size then
     match Qc (fun k=>ay (k*j.size,j.size)) (BP c.tm) (rep j.zero n) parts with
     |some l=>alloc c (.row l e j.size n) (.gs c.nx) |none=>.fail
    else .fail
   |none=>.fail
  |_=>.fail
 |none=>.fail
def aeJ(C:Ctx)(c:Core)(agg:Bool)(size:Nat):SV->Option SV
 | .ptr id off=>match AA c.hp id with
  |some (.box cs _)=>(seg cs off size).bind (pack agg) |some (.row cs _ _ _)=>(seg cs off size).bind (pack agg) |some (.Rt l)=>(seg (l.map Sh.Jw) off size).bind (pack agg) |_=>aN
 | .gp id st i off=>match AA c.hp id with
  |some (.own _ st' _ g)=>bif st==st' then (seg ((g i).map Sh.Jw) off size).bind (pack agg) else aN |some (.fz st' _ g)=>bif st==st' then (seg ((g i).map Sh.Jw) off size).bind (pack agg) else aN |_=>aN
 | .G5 _ _ g i off=>(seg ((g i).map Sh.Jw) off size).bind (pack agg) | .glob g=>bif agg then aN else (AA C.gls g).bind fun s=>match s with
  | .Ba _=>aN |s=>ay s.Jw
 |_=>aN
def XL(C:Ctx)(c:Core)(t:Nat)(x:SV):Tree (SV×Core):=
 match C.ty t with
 |some i=>Mc c (aeJ C c i.ty.isAgg i.size x) |none=>.fail
def UM(C:Ctx)(c:Core)(t:Nat)(x v:SV):Tree (SV×Core):=
 match C.ty t with
 |some i=>bif v.cells.length==i.size&&FU v.cells then
   match x with
   | .ptr id off=>match AA c.hp id with
    |some (.box cs e)=>bif gY (off+i.size) cs.length then ret {c with hp:=hset c.hp id (.box (setAt cs off v.cells) e),tc:=id::c.tc} .any else .fail
    |some (.row cs e st n)=>bif gY (off+i.size) cs.length then ret {c with hp:=hset c.hp id (.row (setAt cs off v.cells) e st n),tc:=id::c.tc} .any else .fail
    |_=>.fail
   | .gp id st j off=>match AA c.hp id with
    |some (.own e st' n g)=>bif st==st'&&gY (off+i.size) st then match IB c.hp v.cells with
      |some l=>ret {c with hp:=hset c.hp id (.own e st n (C.A.upd g j off l)),tc:=id::c.tc} .any
      |none=>.fail
     else .fail
    |_=>.fail
   |_=>.fail
  else .fail
 |none=>.fail
def aaD(c:Core):SV->Tree (SV×Core)
 | .ptr i o=>ret c (.ptr i o) | .gp i st j o=>ret c (.gp i st j o) | .G5 st n g i o=>ret c (.G5 st n g i o) | .fn f l=>ret c (.fn f l) |_=>.fail
def Nl(C:Ctx)(c:Core)(t f:Nat)(x:SV):Tree (SV×Core):=
 match C.ty t with
 |some i=>match i.ty with
  | .struct fs=>match fs[f]? with
   |some (off,size,_)=>bif fZ 0 size then match x with
    | .ptr id o=>ret c (.ptr id (o+off)) | .gp id st j o=>ret c (.gp id st j (o+off)) | .G5 st n g j o=>ret c (.G5 st n g j (o+off)) |_=>.fail
    else .fail
   |none=>.fail
  |_=>.fail
 |none=>.fail
def UN(C:Ctx)(c:Core)(t f:Nat)(x:SV):Tree (SV×Core):=
 match C.ty t with
 |some i=>match i.ty,x with
  | .struct fs,.agg l=>match fs[f]? with
   |some (off,size,agg)=>Mc c ((seg l off size).bind (pack agg)) |none=>.fail
  |_,_=>.fail
 |none=>.fail
def aiD(A:Prim)(n:Int)(f:Nat->Tree (SV×Core))(m:Nat):Nat->Tree (SV×Core)
 |0=>.fail |k+1=>.node (A.eq n (ofNat (m - (k+1)))) (f (m - (k+1))) (aiD A n f m k)
def aky(A:Prim)(n:Int):SV->Nat
 | .int _ k=>k.toNat |_=>A.toN n
def Np(C:Ctx)(c:Core)(t:Nat)(x i:SV):Tree (SV×Core):=
 match C.ty t with
 |some ti=>match ti.ty with
  | .slice e=>match C.ty e with
   |some te=>match x,Hw i with
    | .gs id,ay n=>match AA c.hp id with
     |some (.row _ _ st m)=>match i with
      | .int _ n=>bif decide (0<=n)&&decide (n<m)&&st==te.size then ret c (.ptr id (n.toNat*st)) else .fail |_=>.fail
     |some (.own _ st m _)=>bif st==te.size then .need (C.A.inB n m) (ret c (.gp id st (aky C.A n i) 0)) else .fail |some (.fz st m g)=>bif st==te.size then .need (C.A.inB n m) (ret c (.G5 st m g (aky C.A n i) 0)) else .fail |_=>.fail
    | .sh (.sl st m g),ay n=>bif st==te.size then .need (C.A.inB n m) (ret c (.G5 st m g (aky C.A n i) 0)) else .fail |_,_=>.fail
   |none=>.fail
  | .arr m e=>match C.ty e with
   |some te=>match x,i with
    | .glob g,.int _ n=>match AA C.gls g with
     |some (.Ba l)=>bif decide (0<=n)&&decide (n<m)&&l.length==m*te.size then ret c (.G5 te.size m (BD (chunks te.size m l)) n.toNat 0) else .fail |_=>.fail
    | .glob g,.sym _ n=>match AA C.gls g with
     |some (.Ba l)=>bif l.length==m*te.size then .need (C.A.inB n m) (aiD C.A n (fun j=>ret c (.G5 te.size m (BD (chunks te.size m l)) j 0)) m m) else .fail |_=>.fail
    |_,_=>.fail
   |none=>.fail
  |_=>.fail
 |none=>.fail
def Qe(c:Core)(x:SV)(i:Nat):Tree (SV×Core):=
 match x with
 | .Ba l=>Mc c l[i]? |_=>.fail
def OB(A:Prim):SV->Option Nat
 | .int _ k=>ay k.toNat | .sym _ n=>ay (A.toN n) |_=>aN
def akz(hp:List (Nat×SB))(st:Nat):SV->Option (Nat×Nat)
 | .gs id=>match AA hp id with
  |some (.own _ st' n _)=>bif st==st' then ay (id,n) else aN |_=>aN
 |_=>aN
def UO(C:Ctx)(c:Core)(t:Nat)(x:SV)(lo hi:Option SV):Tree (SV×Core):=
 match C.ty t with
 |some ti=>match ti.ty with
  | .slice e=>match C.ty e with
   |some te=>
    match akz c.hp te.size x,lo,hi with
    |some (id,n),aN,ay h=>match Hw h,OB C.A h with
     |some hi,ay h=>.need (C.A.upTo hi n) (ret c (.vw id h)) |_,_=>.fail
    |_,_,_=>
    match (match x with| .gs id=>freeze c.hp [id] |_=>ay c.hp) with
    |none=>.fail |some hp=>match Ee hp x with
     |some (.sl st n g)=>bif st==te.size then
       match lo,hi with
       |none,aN=>ret {c with hp} (.sh (.sl st n g))
       |none,ay h=>match Hw h,OB C.A h with
        |some hi,ay h=>.need (C.A.upTo hi n) (ret {c with hp} (.sh (.sl st h g)))
        |_,_=>.fail
       |some l,aN=>match Hw l,OB C.A l with
        |some li,ay l=>.need (C.A.upTo li n) (ret {c with hp} (.sh (.sl st (C.A.JM n l) fun j=>g (C.A.addN l j))))
        |_,_=>.fail
       |some l,ay h=>match Hw l,OB C.A l,Hw h,OB C.A h with
        |some li,ay l,ay hi,ay h=>.need (C.A.upTo hi n) (.need (C.A.upTo li h) (ret {c with hp} (.sh (.sl st (C.A.JM h l) fun j=>g (C.A.addN l j)))))
        |_,_,_,_=>.fail
      else .fail
     |_=>.fail
   |none=>.fail
  |_=>.fail
 |none=>.fail
def isZero:SV->Bool
 | .int _ n=>n==0 |_=>aA
def am9(k:SV)(e st:Nat):SB:=
 match k with
 | .int _ _=>.row [] e st 0 |_=>.own e st 0 fun _=>[]
def Nq(C:Ctx)(c:Core)(t:Nat)(l k:SV)(same:Bool):Tree (SV×Core):=
 match C.ty t with
 |some ti=>match ti.ty with
  | .slice e=>match C.ty e with
   |some te=>match Hw k,OB C.A k with
    |some ki,ay kn=>
     bif isZero l then .need (C.A.le 0 ki) (.need (C.A.room kn te.bytes) (alloc c (am9 k e te.size) (.gs c.nx)))
     else bif same&&FU te.zero&&fZ 0 te.size then match IB [] te.zero with
      |some z=>.need (C.A.le 0 ki) (.need (C.A.room kn te.bytes) (alloc c (.own e te.size kn fun _=>z) (.gs c.nx))) |none=>.fail
     else .fail
    |_,_=>.fail
   |none=>.fail
  |_=>.fail
 |none=>.fail
def xOf(hp:List (Nat×SB))(e st:Nat):SV->Option (Nat×(Nat->List Sh)×List SV)
 | .gs id=>match AA hp id with
  |some (.own e' st' n g)=>bif e==e'&&st==st' then ay (n,g,[]) else aN |some (.Hl e' st' n g more)=>bif e==e'&&st==st' then ay (n,g,more) else aN |_=>aN
 |_=>aN
def rowOf(hp:List (Nat×SB))(st:Nat):SV->Option (List SV×Nat)
 | .Bj=>ay ([],0) | .gs id=>match AA hp id with
  |some (.row cells _ st' n)=>bif st==st' then ay (cells,n) else aN |_=>aN
 |_=>aN
def Nr(hp:List (Nat×SB))(st:Nat):SV->Option (Nat×(Nat->List Sh))
 | .Bj=>ay (0,fun _=>[]) | .gs id=>match AA hp id with
  |some (.row cells _ st' n)=>bif st==st'&&FU cells then (IB hp cells).map fun l=>(n,BD (chunks st n l)) else aN |some (.own _ st' n g)=>bif st==st' then ay (n,g) else aN |some (.fz st' n g)=>bif st==st' then ay (n,g) else aN |_=>aN
 | .sh (.sl st' n g)=>bif st==st' then ay (n,g) else bif st'==0&&n==0 then ay (0,fun _=>[]) else aN | .vw id n=>match AA hp id with
  |some (.own _ st' _ g)=>bif st==st' then ay (n,g) else aN |_=>aN
 |_=>aN
def Qg:SV->Option Nat
 | .gs id=>ay id |_=>aN
def Ns(hp:List (Nat×SB))(e:Nat):SV->Bool
 | .Bj=>aF | .gs id=>match AA hp id with
  |some (.row _ e' _ _)=>e==e' |some (.own e' _ _ _)=>e==e' |some (.Hl e' _ _ _ _)=>e==e' |some (.buf e' _)=>e==e' |_=>aA
 |_=>aA
def N8(x y:SV):Bool:=
 match Qg x,Qg y with
 |some i,ay j=>i==j |_,_=>aA
def Dh(c:Core)(s:SV):Core:=
 match Qg s with
 |some id=>{c with hp:=hdel c.hp id,tc:=id::c.tc}
 |none=>c
def aaE:List SV->Option (List UInt8)
 |[]=>ay [] | .int .u8 n::r=>bif decide (0<=n)&&decide (n<256) then (aaE r).map fun l=>UInt8.ofNat n.toNat::l else aN |_=>aN
def Ry(hp:List (Nat×SB))(e:Nat):SV->Option (List UInt8)
 | .Bj=>ay [] | .gs id=>match AA hp id with
  |some (.buf e' l)=>bif e==e' then ay l else aN |some (.row cells e' st n)=>bif e==e'&&st==1&&n==cells.length then aaE cells else aN |_=>aN
 |_=>aN
def JQ(C:Ctx)(e:Nat):Bool:=
 match C.ty e with
 |some te=>match te.ty,te.zero with
  | .int .u8,[.int .u8 n]=>te.size==1&&te.bytes==1&&n==0 |_,_=>aA
 |none=>aA
def Qh(C:Ctx)(c:Core)(t u:Nat)(s x:SV):Tree (SV×Core):=
 match C.ty t,C.ty u with
 |some ti,ay ui=>match ti.ty,ui.ty with
  | .slice e,.str=>match Ry c.hp e s,textOf x with
   |some l,ay m=>bif JQ C e&&Ns c.hp e s then
     .need (C.A.room (C.A.addN (C.A.len l) (C.A.len m)) 1) (alloc (Dh c s) (.buf e (C.A.app l m)) (.gs c.nx))
    else .fail
   |_,_=>.fail
  |_,_=>.fail
 |_,_=>.fail
def Qi(C:Ctx)(c:Core)(t:Nat)(s x:SV):Option (Tree (SV×Core)):=
 match s with
 | .gs id=>match AA c.hp id with
  |some (.buf e l)=>match C.ty t,Ry c.hp e x with
   |some ti,ay m=>match ti.ty with
    | .slice e'=>bif e==e'&&JQ C e && !N8 s x then
      ay (.need (C.A.room (C.A.addN (C.A.len l) (C.A.len m)) 1) (alloc (Dh c s) (.buf e (C.A.app l m)) (.gs c.nx)))
     else aN
    |_=>aN
   |_,_=>aN
  |_=>aN
 |_=>aN
def XM(C:Ctx)(c:Core)(t u:Nat)(x:SV):Tree (SV×Core):=
 match C.ty t,C.ty u with
 |some ti,ay ui=>match ti.ty,ui.ty with
  | .int _,.int k=>match x with
   | .int _ n=>ret c (.int k (k.wrap n)) | .sym _ n=>ret c (.sym k (C.A.conv k n)) |_=>.fail
  | .str,.slice e=>match textOf x with
   |some l=>bif JQ C e then .need (C.A.room (C.A.len l) 1) (alloc c (.buf e l) (.gs c.nx)) else .fail |none=>.fail
  | .slice e,.str=>match Ry c.hp e x with
   |some l=>bif JQ C e then ret c (.sh (.str l)) else .fail |none=>.fail
  |_,_=>.fail
 |_,_=>.fail
def Rz(C:Ctx)(c:Core)(t:Nat)(s x:SV):Tree (SV×Core):=
 match C.ty t with
 |some ti=>match ti.ty with
  | .slice e=>match C.ty e with
   |some te=>
    bif Ns c.hp e s && !N8 s x&&fZ 0 te.size then
     match rowOf c.hp te.size s,rowOf c.hp te.size x with
     |some (a,n),ay (b,m)=>
      bif FU b&&gY ((n+m)*te.bytes) 140737488355328&&gY (n+m) 1073741824 then alloc (Dh c s) (.row (a++b) e te.size (n+m)) (.gs c.nx) else .fail
     |_,_=>match Nr c.hp te.size s,Nr c.hp te.size x with
      |some (n,g),ay (m,h)=>.need (C.A.room (C.A.addN n m) te.bytes) (alloc (Dh c s) (.own e te.size (C.A.addN n m) (C.A.snoc g n h)) (.gs c.nx)) |_,_=>match xOf c.hp e te.size s,rowOf c.hp te.size x with
       |some (n,g,more),ay (b,_)=>bif FU b then .need (C.A.room (C.A.addN n (Nat.div (more++b).length te.size)) te.bytes) (alloc (Dh c s) (.Hl e te.size n g (more++b)) (.gs c.nx)) else .fail |_,_=>.fail
    else .fail
   |none=>.fail
  |_=>.fail
 |none=>.fail
def Ja:SV->Option (IntKind×Int×Bool)
 | .int k n=>ay (k,n,aF) | .sym k n=>ay (k,n,aA) |_=>aN
def RD(kk:IntKind)(k:Int):List (SV×SV)->Option (Option SV)
 |[]=>ay aN |(.int j m,v)::r=>bif j==kk then bif m==k then ay (ay v) else RD kk k r else aN |_=>aN
def VX(A:Prim)(kk:IntKind)(k:Int)(z:SV)(f:SV->Bool->Tree (SV×Core)):List (SV×SV)->Tree (SV×Core)
 |[]=>f z aA |(.int j m,v)::r=>bif j==kk then .node (A.eq k m) (f v aF) (VX A kk k z f r) else .fail |_=>.fail
def VY(k:IntKind)(n:Int)(v:SV):List (SV×SV)->Option (List (SV×SV))
 |[]=>ay [(.int k n,v)] |(.int j m,u)::r=>bif j==k then bif m==n then ay ((.int k n,v)::r) else (VY k n v r).map fun r=>(.int j m,u)::r else aN |_=>aN
def af0(l:List Int):List (Int×Bool×SV):=l.map fun n=>(n,aA,.any)
def Qj(C:Ctx)(c:Core)(t:Nat):Tree (SV×Core):=
 match C.am2 t with
 |some (k,l)=>alloc c (.fm k (fun _=>aN) (af0 l) [] aN) (.mp c.nx) |none=>match C.aeH t with
  |some vt=>alloc c (.pm vt (fun _=>aN) []) (.mp c.nx) |none=>alloc c (.map []) (.mp c.nx)
def findF(A:Prim)(k:Int)(f:Bool->SV->Tree (SV×Core)):List (Int×Bool×SV)->Tree (SV×Core)
 |[]=>.fail |[(j,p,v)]=>.need (A.eq k j) (f p v) |(j,p,v)::r=>.node (A.eq k j) (f p v) (findF A k f r)
def intOf:SV->Option Int
 | .int .i64 n=>ay n | .sym .i64 n=>ay n | .sh (.i .i64 n)=>ay n |_=>aN
def strOf:SV->Option (List UInt8)
 | .str l=>ay l | .sh (.str l)=>ay l |_=>aN
def aag:SV->Option (Int×List UInt8)
 | .agg [a,b]=>match intOf a,strOf b with
  |some n,ay l=>ay (n,l) |_,_=>aN
 | .sh (.agg [.i .i64 n,.str l])=>ay (n,l) |_=>aN
def SV.adA:SV->VT->Bool
 | .int .i64 _,.int=>aF | .sym .i64 _,.int=>aF | .bool _,.bool=>aF | .test _,.bool=>aF |_,_=>aA
def ana(A:Prim)(vt:VT)(o:Option Value):SV:=match vt with
 | .int=>.sym .i64 (A.asH o) | .bool=>.test (A.H8 o)
def aiF(A:Prim)(vt:VT)(M:Int×List UInt8->Option Value)(k:Int×List UInt8)(f:Bool->SV->Tree (SV×Core)):List ((Int×List UInt8)×Bool×SV)->Tree (SV×Core)
 |[]=>.node (A.isS (M k)) (f aF (ana A vt (M k))) (f aA .any) |(j,p,v)::r=>.node (A.kp k.1 k.2 j.1 j.2) (f p v) (aiF A vt M k f r)
def Jb(c:Core)(ok:Bool)(v:SV)(b:Bool):Tree (SV×Core):=ret c (bif ok then .Ba [v,.bool b] else v)
def RF(C:Ctx)(c:Core)(t:Nat)(m k:SV)(ok:Bool):Tree (SV×Core):=
 match C.ty t with
 |some ti=>match ti.ty with
  | .map kt e=>match C.ty kt,C.ty e with
   |some kti,ay te=>match kti.ty,pack te.ty.isAgg te.zero with
    | .struct _,ay z=>bif C.pks.contains kt then
      match m with
      | .mp id=>match AA c.hp id with
       |some (.pm vt M us)=>match aag k with
        |some n=>aiF C.A vt M n (fun p v=>bif p then Jb c ok v aF else Jb c ok z aA) us |none=>.fail
       |_=>.fail
      |_=>.fail
     else .fail
    | .int kk,ay z=>
     match m with
     | .F6=>match Ja k with
      |some (j,_,_)=>bif j==kk then Jb c ok z aA else .fail |none=>.fail
     | .mp id=>match AA c.hp id with
      |some (.map es)=>match k with
       | .int j n=>bif j==kk then match RD kk n es with
        |some (ay v)=>Jb c ok v aF |some aN=>Jb c ok z aA |none=>.fail
        else .fail
       | .sym j n=>bif j==kk then VX C.A kk n z (Jb c ok) es else .fail |_=>.fail
      |some (.fm fk _ fs us _)=>match Ja k with
       |some (j,n,_)=>bif j==kk&&fk==kk then findF C.A n (fun p v=>bif p then Jb c ok v aF else Jb c ok z aA) (us++fs) else .fail |none=>.fail
      |_=>.fail
     |_=>.fail
    |_,_=>.fail
   |_,_=>.fail
  |_=>.fail
 |none=>.fail
def N9(C:Ctx)(c:Core)(t:Nat)(m k v:SV):Tree (SV×Core):=
 match C.ty t with
 |some ti=>match ti.ty with
  | .map kt _=>match C.ty kt with
   |some kti=>match kti.ty,m,k with
    | .int kk,.mp id,.int k n=>match AA c.hp id with
     |some (.map es)=>bif kk==k then match VY k n v es with
      |some es=>ret {c with hp:=hset c.hp id (.map es),tc:=id::c.tc} .any
      |none=>.fail
      else .fail
     |_=>.fail
    | .struct _,.mp id,k=>match AA c.hp id with
     |some (.pm vt M us)=>match aag k with
      |some n=>bif C.pks.contains kt&&v.one&&v.adA vt then ret {c with hp:=hset c.hp id (.pm vt M ((n,aF,v)::us)),tc:=id::c.tc} .any else .fail
      |none=>.fail
     |_=>.fail
    |_,_,_=>.fail
   |none=>.fail
  |_=>.fail
 |none=>.fail
def OC(C:Ctx)(c:Core)(t:Nat)(m k:SV):Tree (SV×Core):=
 match C.ty t with
 |some ti=>match ti.ty with
  | .map kt e=>match C.ty kt,C.ty e with
   |some kti,ay te=>match kti.ty,pack te.ty.isAgg te.zero,m,Ja k with
    | .int kk,ay z,.mp id,ay (j,n,_)=>match AA c.hp id with
     |some (.fm fk M fs us _)=>bif j==kk&&fk==kk&&z.one&&fZ c.nx c.lim then
       findF C.A n (fun p v=>ret {c with hp:=hset c.hp id (.fm fk M fs ((n,aF,bif p then v else z)::us) (ay (c.nx,n))),nx:=c.nx+1,tc:=id::c.tc} (.Ba [bif p then v else z,.ev c.nx])) (us++fs)
      else .fail
     |_=>.fail
    |_,_,_,_=>.fail
   |_,_=>.fail
  |_=>.fail
 |none=>.fail
def LH(c:Core)(m s v:SV):Tree (SV×Core):=
 match m,s with
 | .mp id,.ev s=>match AA c.hp id with
  |some (.fm fk M fs us (ay (s',n)))=>bif s==s'&&v.one then ret {c with hp:=hset c.hp id (.fm fk M fs ((n,aF,v)::us) (ay (s',n))),tc:=id::c.tc} .any else .fail
  |_=>.fail
 |_,_=>.fail
def RG(C:Ctx)(c:Core)(t:Nat)(m k:SV):Tree (SV×Core):=
 match C.ty t with
 |some ti=>match ti.ty with
  | .map kt _=>match C.ty kt with
   |some kti=>match kti.ty,m,Ja k with
    | .int kk,.mp id,ay (j,n,_)=>match AA c.hp id with
     |some (.fm fk M fs us _)=>bif j==kk&&fk==kk then ret {c with hp:=hset c.hp id (.fm fk M fs ((n,aA,.any)::us) aN),tc:=id::c.tc} .any else .fail
     |_=>.fail
    |_,_,_=>.fail
   |none=>.fail
  |_=>.fail
 |none=>.fail
def spread(c:Core)(F:List Sh->Tree Sh)(args:List SV):Tree (SV×Core):=
 match freeze c.hp (JO args) with
 |none=>.fail |some hp=>match IB hp args with
  |none=>.fail |some BI=>(F BI).bind fun r=>bif gY (Dk r c.nx).2.2 c.lim then ret {c with hp:=DL hp (Dk r c.nx).2.1,nx:=(Dk r c.nx).2.2} (Dk r c.nx).1 else .fail
mutual
def H9:Sh->Bool
 | .i _ _=>aF | .b _=>aF | .str _=>aF | .v _=>aF | .agg l=>O8 l | .Ba l=>O8 l |_=>aA
def O8:List Sh->Bool
 |[]=>aF |x::r=>H9 x&&O8 r
end
def VZ(c:Core)(F:List Sh->Tree Sh)(args:List SV):Tree (SV×Core):=
 match freeze c.hp (JO args) with
 |none=>.fail |some hp=>match IB hp args with
  |none=>.fail |some BI=>(F BI).bind fun r=>bif H9 r then ret c (Dk r c.nx).1 else .fail
def maxS(A:Prim)(mx:Bool)(x y:SV):Option SV:=
 match Ja x,Ja y with
 |some (k,a,la),ay (l,b,lb)=>bif k==l then
   ay (bif la&&lb then .int k (bif mx then (bif decide (a<b) then b else a) else (bif decide (b<a) then b else a)) else .sym k (bif mx then A.max a b else A.min a b))
  else aN
 |_,_=>aN
def O9:Ty->SV->Bool
 | .str,.str _=>aF | .str,.sh (.str _)=>aF | .slice _,.gs _=>aF | .slice _,.sh (.sl _ _ _)=>aF | .slice _,.Bj=>aF | .slice _,.vw _ _=>aF |_,_=>aA
def XO:SV->Option Int
 | .int .i64 n=>ay n | .sym .i64 n=>ay n |_=>aN
def V3(C:Ctx)(c:Core)(e:Nat):List SV->Tree (SV×Core)
 |[s,i,.gs id']=>match C.ty e with
  |some te=>match Nr c.hp te.size s,AA c.hp id' with
   |some (n,g),ay (.row cells e2 st2 m)=>
    bif Ns c.hp e s&&e==e2&&st2==te.size&&m==1 && !N8 s (.gs id')&&fZ 0 te.size&&FU cells then
     match IB c.hp cells,XO i,OB C.A i with
     |some l,ay iv,ay k=>.need (C.A.upTo iv n) (.need (C.A.room (C.A.addN n 1) te.bytes) (alloc (Dh c s) (.own e te.size (C.A.addN n 1) (C.A.ins g k l)) (.gs c.nx))) |_,_,_=>.fail
    else .fail
   |_,_=>.fail
  |none=>.fail
 |_=>.fail
def TG(C:Ctx)(c:Core)(e:Nat):List SV->Tree (SV×Core)
 |[.Bj,i]=>match C.ty e,XO i,OB C.A i with
  |some te,ay iv,ay k=>.need (C.A.le 0 iv) (.need (C.A.room k te.bytes) (alloc c (.own e te.size 0 fun _=>[]) (.gs c.nx))) |_,_,_=>.fail
 |_=>.fail
def TI(C:Ctx)(call:Nat->List SV->Core->Tree (SV×Core))(c:Core)(k:Call):Tree (SV×Core):=
 let ev:=BP c.tm
 match k.callee with
 | .builtin b=>match b,k.args.toList,k.argTypes.toList with
  | .len,[x],[t]=>match C.ty t with
   |some i=>bif O9 i.ty (ev x) then Mc c (akx C.A c.hp (ev x)) else .fail |none=>.fail
  | .delete,[m,k],t::_=>RG C c t (ev m) (ev k) | .append,[s,x],[t,u]=>bif t==u then match Qi C c t (ev s) (ev x) with
    |some r=>r |none=>Rz C c t (ev s) (ev x)
   else Qh C c t u (ev s) (ev x)
  | .max,[x,y],_=>Mc c (maxS C.A aF (ev x) (ev y)) | .min,[x,y],_=>Mc c (maxS C.A aA (ev x) (ev y)) |_,_,_=>.fail
 | .value f=>match ev f with
  | .fn g cs=>
   let args:=k.args.toList.map ev++cs
   match C.ins g with
   |some e=>V3 C c e args |none=>match C.grow g with
   |some e=>TG C c e args |none=>match C.spec g with
   |some F=>bif C.lend g then VZ c F args else spread c F args |none=>call g args c
  |_=>.fail
 |_=>.fail
def Qk(C:Ctx)(call:Nat->List SV->Core->Tree (SV×Core))(c:Core)(o:Oper):Tree (SV×Core):=
 let ev:=BP c.tm
 match o.op with
 | .move x=>ret c (ev x) | .assign x=>ret c (ev x) | .pick x a b=>Mc c (aiC C.A (ev x) (ev a) (ev b)) | .alloc e=>UK C c e | .box e x=>bif (ev x).ZT then alloc c (.box (ev x).cells e) (.ptr c.nx 0) else .fail | .build t parts=>UL C c t parts.toList | .buildSlice t n parts=>LG C c t n parts.toList | .load t x=>XL C c t (ev x) | .store t x v=>UM C c t (ev x) (ev v) | .nilCheck x=>aaD c (ev x) | .binOp op t x y _=>aaC C c op t x y (isConst x||isConst y) | .unOp .not _ x=>Mc c (notS C.A (ev x)) | .unOp .neg _ x=>Mc c (negS C.A (ev x)) | .fieldAddr t x f=>Nl C c t f (ev x) | .field t x f=>UN C c t f (ev x) | .indexAddr t x i=>Np C c t (ev x) (ev i) | .extract x i=>Qe c (ev x) i | .makeFunc (.func f) fs cs=>bif fs.size==0 then ret c (.fn f (cs.toList.map ev)) else .fail | .makeInterface t x=>match C.ty t with
  |some i=>match i.ty with
   | .iface=>.fail | .other=>.fail |_=>ret c (.Dv t (ev x))
  |none=>.fail
 | .makeMap t aN=>Qj C c t | .makeSlice t l k=>Nq C c t (ev l) (ev k) (match l,k with| .tmp i,.tmp j=>i==j|_,_=>aA)
 | .slice t x lo hi aN=>UO C c t (ev x) (lo.map ev) (hi.map ev) | .lookup t m k ok=>RF C c t (ev m) (ev k) ok | .insert t m k v=>N9 C c t (ev m) (ev k) (ev v) | .mapUpdate t m k v=>N9 C c t (ev m) (ev k) (ev v) | .mapEntry t m k=>OC C c t (ev m) (ev k) | .entryStore _ m s v=>LH c (ev m) (ev s) (ev v) | .call k=>TI C call c k | .convert t u x=>XM C c t u (ev x) |_=>.fail
mutual
def SV.hard:SV->SV
 | .sym k n=>.int k n | .test b=>.bool b | .agg l=>.agg (aeK l) | .Ba l=>.Ba (aeK l) |x=>x
def aeK:List SV->List SV
 |[]=>[] |x::r=>x.hard::aeK r
end
def exec(C:Ctx)(call:Nat->List SV->Core->Tree (SV×Core))(c:Core)(o:Oper):Tree (SV×Core):=
 bif C.lits then (Qk C call c o).bind fun p=>.leaf (p.1.hard,p.2) else Qk C call c o
mutual
def refs:SV->List Nat
 | .gs id=>[id] | .ptr id _=>[id] | .gp id _ _ _=>[id] | .mp id=>[id] | .agg l=>OE l | .Ba l=>OE l | .fn _ l=>OE l | .Dv _ x=>refs x |_=>[]
def OE:List SV->List Nat
 |[]=>[] |x::r=>refs x++OE r
end
def anb:List (SV×SV)->List Nat
 |[]=>[] |(a,b)::r=>refs a++refs b++anb r
def aiG:List (Int×Bool×SV)->List Nat
 |[]=>[] |(_,_,b)::r=>refs b++aiG r
def anc:List ((Int×List UInt8)×Bool×SV)->List Nat
 |[]=>[] |(_,_,b)::r=>refs b++anc r
def ane:SB->List Nat
 | .box l _=>OE l | .row l _ _ _=>OE l | .map es=>anb es | .Hl _ _ _ _ l=>OE l | .fm _ _ fs us _=>aiG fs++aiG us | .pm _ _ us=>anc us |_=>[]
def reach(hp:List (Nat×SB)):Nat->List Nat->List Nat->List Nat
 |0,_,seen=>seen |_,[],seen=>seen |n+1,i::r,seen=>bif seen.contains i then reach hp n r seen else match AA hp i with
  |some b=>reach hp n (ane b++r) (i::seen) |none=>reach hp n r (i::seen)
def MH(hp:List (Nat×SB)):List Nat->List Nat
 |[]=>[] |i::r=>match AA hp i with
  |some b=>ane b++MH hp r |none=>MH hp r
def dropKey(p:Nat->Bool):List (Nat×SB)->List (Nat×SB)
 |[]=>[] |(i,b)::r=>bif p i then dropKey p r else (i,b)::dropKey p r
def gc(nx lim:Nat)(v:SV)(c:Core):List (Nat×SB):=
 let live:=reach c.hp 4000 (refs v++MH c.hp c.tc) []
 dropKey (fun i=>gY nx i&&fZ i lim && !live.contains i) c.hp
def Q9(tm:List SV)(dst:Option Nat)(v:SV):List SV:=
 match dst with
 |some d=>tm.set d v |none=>tm
def Core.put(c:Core)(dst:Option Nat)(v:SV):Core:={c with tm:=Q9 c.tm dst v}
def opAt(l:List Oper)(i:Nat):Option Oper:=l[i]?
inductive Want where
 |yes|no|ask (slot:Nat) (b want:Bool) |lost
def Oa(ops:List Oper)(tm:List SV)(o:Oper):Want:=
 match o.guard with
 |none=>.yes |some (j,b)=>match (opAt ops j).bind (·.dst) with
  |some d=>match tm.getD d .any with
   | .bool c=>bif c==b then .yes else .no | .test c=>.ask d c b | .Ba _=>.no |_=>.lost
  |none=>.lost
def skV(ops:List Oper)(i:Nat):SV:=
 bif ops.any (fun o=>match o.guard with|some (j,_)=>fC j i|none=>aA) then .Ba [] else .any
def af2(C:Ctx)(call:Nat->List SV->Core->Tree (SV×Core))(c:Core)(o:Oper):Tree Core:=
 (exec C call c o).bind fun p=>.leaf (p.2.put o.dst p.1)
def aah(C:Ctx)(call:Nat->List SV->Core->Tree (SV×Core))(ops:List Oper)(c:Core)(i:Nat):Tree Core:=
 match opAt ops i with
 |none=>.leaf c |some o=>match Oa ops c.tm o with
  | .yes=>af2 C call c o | .no=>.leaf (c.put o.dst (skV ops i)) | .ask d t b=>.node t
    (let c':=c.put (ay d) (.bool aF);bif b then af2 C call c' o else .leaf (c'.put o.dst (skV ops i)))
    (let c':=c.put (ay d) (.bool aA);bif b then .leaf (c'.put o.dst (skV ops i)) else af2 C call c' o)
  | .lost=>.fail
def Dx:Op->Bool
 | .move _| .assign _| .pick .. | .load .. | .nilCheck _| .binOp .. | .unOp .. | .fieldAddr .. | .field .. | .indexAddr .. | .extract .. | .makeFunc .. | .makeInterface .. | .build .. | .lookup ..=>aF | .call {callee:=.builtin .len,..} | .call {callee:=.builtin .max,..} | .call {callee:=.builtin .min,..}=>aF |_=>aA
def MI(hp:List (Nat×SB))(unl:List Nat):List (Nat×SB):=
 match hp with
 |[]=>[] |(j,x)::l=>bif unl.contains j then MI l unl else (j,x)::MI l unl
def Kt:SV->Bool
 | .sh (.er _ _)=>aF |_=>aA
def KT(tm:List SV):Op->Bool
 | .load .. | .lookup ..=>aA | .binOp _ _ x y _=>!(Kt (BP tm x)&&Kt (BP tm y)) |o=>Dx o
def Pg(o:Oper):List Nat:=(o.after.toList.filter (jI .any)).map (·.on)
def Ph(all:List Bool):List Oper->Nat->List Bool->List Nat
 |o::r,i,b::l=>bif !b&&(Pg o).all (fun j=>all.getD j aA) then i::Ph all r (i+1) l else Ph all r (i+1) l |_,_,_=>[]
def aeM(ops:Array Oper)(listed:Array Bool):List Nat:=Ph listed.toList ops.toList 0 listed.toList
def V4(ops:Array Oper)(oi:Oper)(i:Nat):List Oper->Nat->List Bool->Bool
 |o::r,j,b::l=>(fC j i||b||(Pg o).contains i||oi.apart ops o)&&V4 ops oi i r (j+1) l |_,_,_=>aF
def aeN(ops:Array Oper)(listed:Array Bool)(i:Nat):Bool:=
 match opAt ops.toList i with
 |none=>aA |some oi=>V4 ops oi i ops.toList 0 listed.toList
theorem aiH(a b:Nat):@rG Nat VP a b=@rG Nat instBEqOfDecidableEq a b:=by
 by_cases h:a=b
 ·subst h
  rw[@beq_self_eq_true Nat VP,@beq_self_eq_true Nat instBEqOfDecidableEq]
 ·have h1:@rG Nat VP a b=aA:=by
   cases hb:@rG Nat VP a b with
   |false=>rfl |true=>exact (h (@eq_of_beq Nat VP aiA a b hb)).elim
  have h2:@rG Nat instBEqOfDecidableEq a b=aA:=decide_eq_false h;rw[h1,h2]
theorem YT{l:List Nat}{p q:Nat->Bool}(h:∀j,j∈l->p j=q j):l.all p=l.all q:=by
 induction l with
 |nil=>rfl |cons x r ih=>rw[lH,lH,h x (List.mem_cons_self ..),ih fun j hj=>h j (List.mem_cons_of_mem _ hj)]
theorem YU(all:List Bool):∀(ops:List Oper) (k:Nat) (l:List Bool),(∀i,l.getD i aF=all.getD (k+i) aF)->
  Ph all ops k l=(lq k ops.length).filter fun i=>!all.getD i aF&&((ops[i - k]?).map (·.after.all fun e=>!Region.binds .any e||all.getD e.on aA)).getD aA
 |[],k,l,_=>by cases l<;>rfl |o::r,k,[],h=>by
  have h2:∀i,all.getD (k+i) aF=aF:=fun i=>by rw[<-h i];simp
  simp only[Ph];symm
  rw[List.filter_eq_nil_iff];intro i hi;have:=lu.1 hi;have e:=h2 (i - k);rw[show k+(i - k)=i by omega] at e;simp only[aX] at e;simp[e]
 |o::r,k,b::l,h=>by
  have h0:=h 0;simp only[sS,jB] at h0;have ih:=YU all r (k+1) l (fun i=>by have:=h (i+1);simp only[sU] at this;rw[this];congr 1;omega);have he:(Pg o).all (fun j=>all.getD j aA)=o.after.all fun e=>!Region.binds .any e||all.getD e.on aA:=by
   rw[<-Array.all_toList];unfold Pg;generalize o.after.toList=es;induction es with
   |nil=>rfl |cons e es ih=>
    simp only[oJ,lH];cases jI .any e
    ·simp
    ·simp only[if_true,jr,lH,Bool.not_true,Bool.false_or]
     rw[ih]
  have ht:(lq (k+1) r.length).filter (fun i=>!all.getD i aF&&((r[i - (k+1)]?).map (·.after.all fun e=>!Region.binds .any e||all.getD e.on aA)).getD aA) =
    (lq (k+1) r.length).filter (fun i=>!all.getD i aF&&(((o::r)[i - k]?).map (·.after.all fun e=>!Region.binds .any e||all.getD e.on aA)).getD aA):=by
   refine uG fun i hi=>?_
   have:=lu.1 hi;rw[show i - k=(i - (k+1))+1 by omega,jP]
  simp only[Ph,iT,vg,oJ,ih,ht,he,h0,qR,jQ,Option.map_some,Option.getD_some];cases (!all.getD k aF&&o.after.all fun e=>!Region.binds .any e||all.getD e.on aA)<;>rfl
theorem adB{listed:Array Bool}(i:Nat)(d:Bool):listed.getD i d=listed.toList.getD i d:=by
 rw[iM,aX,dX]
theorem aiI(ops:Array Oper)(listed:Array Bool):aeM ops listed=kP .any ops listed:=by
 unfold aeM kP;rw[YU listed.toList ops.toList 0 listed.toList (fun i=>by rw[gU]),bV,rU];refine uG fun i _=>?_
 simp only[adB,uH,dX]
theorem aaG(ops:Array Oper)(oi:Oper)(i:Nat)(all:List Bool):∀(r:List Oper) (k:Nat) (l:List Bool),(∀j,l.getD j aF=all.getD (k+j) aF)->
  V4 ops oi i r k l=(lq k r.length).all fun j=>j==i||all.getD j aF||match r[j - k]? with
   |some oj=>oj.after.any (fun e=>jI .any e&&e.on==i)||oi.apart ops oj |none=>aF
 |[],k,l,_=>by cases l<;>rfl |o::r,k,[],h=>by
  have h2:∀i,all.getD (k+i) aF=aF:=fun i=>by rw[<-h i];simp
  simp only[V4];symm
  rw[List.all_eq_true];intro j hj;have:=lu.1 hj;have e:=h2 (j - k);rw[show k+(j - k)=j by omega] at e;simp only[aX] at e;simp[e]
 |o::r,k,b::l,h=>by
  have h0:=h 0;simp only[sS,jB] at h0;have ih:=aaG ops oi i all r (k+1) l (fun i=>by have:=h (i+1);simp only[sU] at this;rw[this];congr 1;omega);have he:(Pg o).contains i=o.after.any fun e=>jI .any e&&e.on==i:=by
   rw[<-Array.any_toList];unfold Pg;generalize o.after.toList=es;induction es with
   |nil=>rfl |cons e es ih=>
    simp only[oJ,List.any_cons];cases jI .any e
    ·simpa using ih
    ·simp only[if_true,jr,List.contains_cons,Bool.true_and]
     rw[ih];congr 1;cases h1:(e.on==i)<;>cases h2:(i==e.on)<;>simp_all
  have ht:(lq (k+1) r.length).all (fun j=>j==i||all.getD j aF||match r[j - (k+1)]? with
     |some oj=>oj.after.any (fun e=>jI .any e&&e.on==i)||oi.apart ops oj |none=>aF) =
    (lq (k+1) r.length).all (fun j=>j==i||all.getD j aF||match (o::r)[j - k]? with
     |some oj=>oj.after.any (fun e=>jI .any e&&e.on==i)||oi.apart ops oj |none=>aF):=by
   refine YT fun j hj=>?_
   have:=lu.1 hj;rw[show j - k=(j - (k+1))+1 by omega,jP]
  have hb:fC k i=(k==i):=rfl;simp only[V4,iT,vg,lH];rw[ih,ht,he,h0,hb];simp only[qR,jQ,Bool.or_assoc]
theorem adC(ops:Array Oper)(listed:Array Bool)(i:Nat):aeN ops listed i=kY .any ops listed i:=by
 have hop:opAt ops.toList i=ops[i]?:=by simp[opAt]
 unfold aeN kY;rw[hop];cases ops[i]? with
 |none=>rfl |some oi=>
  simp only;rw[aaG ops oi i listed.toList ops.toList 0 listed.toList (fun i=>by rw[gU]),bV,rU];refine YT fun j _=>?_
  simp only[adB,uH,dX];simp only[aiH];rfl
inductive Quiet where
 |take (i:Nat) (needs:List Bool) (v v0:SV)
 |ask (slot:Nat) (b:Bool)
 |no
def aeO:Nat->List SV->Core->Tree (SV×Core):=fun _ _ _=>.fail
def aeP:Option (List Bool×SV)->Option (List Bool×SV)
 |some (_,.any)=>aN |r=>r
def Em:Tree (SV×Core)->List Bool->Option (List Bool×SV)
 | .leaf p,bs=>ay (bs,p.1) | .need b t,bs=>Em t (b::bs) |_,_=>aN
def TJ(C:Ctx)(BM:Array Oper)(lock:List (Nat×SB))(listed:Array Bool)(Iq:List SV)(c:Core)(i:Nat):Quiet:=
 match opAt BM.toList i with
 |none=>.no |some o=>match Oa BM.toList c.tm o with
  | .ask d t _=>.ask d t | .no=>bif aeN BM listed i then .take i [] (skV BM.toList i) (skV BM.toList i) else .no | .yes=>bif Dx o.op&&aeN BM listed i then
    match aeP (Em (exec C aeO {c with tm:=Iq,hp:=lock} o) []) with
    |some (bs,v)=>.take i bs v v |none=>bif KT c.tm o.op then match Em (exec C aeO c o) [] with
     |some (bs,v)=>.take i bs v .any |none=>.no
     else .no
   else .no
  | .lost=>.no
def V5(C:Ctx)(BM:Array Oper)(lock:List (Nat×SB))(listed:Array Bool)(Iq:List SV)(c:Core):List Nat->Quiet
 |[]=>.no |i::r=>match TJ C BM lock listed Iq c i with
  | .no=>V5 C BM lock listed Iq c r |q=>q
def needs{α:Type}(t:Tree α):List Bool->Tree α
 |[]=>t |b::r=>.need b (needs t r)
def allOf{α:Type}(f:Nat->Tree α):List Nat->Tree α
 |[]=>.fail |[i]=>f i |i::r=>.both (f i) (allOf f r)
def disjoint(l:List Nat)(hp:List (Nat×SB)):Bool:=l.all fun i=>(AA hp i).isNone
def JR(c:Core)(n:Nat):Nat:=Nat.min 1048576 ((c.lim - c.nx) / (n+1))
def explore(C:Ctx)(call:Nat->List SV->Core->Tree (SV×Core))(base step:Nat)(BM:Array Oper)(lock:List (Nat×SB)):
  Nat->Array Bool->List SV->Core->Tree Core
 |0,_,_,_=>.fail |n+1,listed,Iq,c=>
  match aeM BM listed with
  |[]=>.leaf c |rs=>match V5 C BM lock listed Iq c rs with
   | .take i bs v v0=>let d:=(opAt BM.toList i).bind (·.dst)
    needs (explore C call base step BM lock n (listed.setIfInBounds i aF) (Q9 Iq d v0) (c.put d v)) bs
   | .ask d t=>.node t (explore C call base step BM lock n listed (Iq.set d (.bool aF)) (c.put (ay d) (.bool aF))) (explore C call base step BM lock n listed (Iq.set d (.bool aA)) (c.put (ay d) (.bool aA))) | .no=>allOf (fun i=>(aah C call BM.toList {c with tc:=[],nx:=base+step*i,lim:=base+step*(i+1)} i).bind fun c'=>
     bif disjoint c'.tc lock then explore C call base step BM lock n (listed.setIfInBounds i aF) (Q9 Iq ((opAt BM.toList i).bind (·.dst)) .any) {c' with tc:=c'.tc++c.tc,nx:=c.nx,lim:=c.lim} else .fail) rs
def Fh(a b:Option (List BQ)):Option (List BQ):=
 match a,b with
 |some x,ay y=>ay (x++y) |_,_=>aN
def Dp(c:Bool)(a:Option (List BQ)):Option (List BQ):=bif c then a else aN
def anf:Sh->Sh->Option (List BQ)
 | .er g t,.er h u=>Dp (g==h&&t==u) (ay []) |s,s'=>ay [.sh s s']
mutual
def YV:SV->SV->Option (List BQ)
 | .any,.any=>ay [] | .int k n,.int l m=>Dp (k==l&&n==m) (ay []) | .sym k n,.sym l m=>Dp (k==l) (ay [.int n m]) | .bool a,.bool b=>Dp (a==b) (ay []) | .test a,.test b=>ay [.bool a b] | .str a,.str b=>Dp (a==b) (ay []) | .val v,.val u=>ay [.val v u] | .ptr a b,.ptr c d=>Dp (a==c&&b==d) (ay []) | .gs a,.gs b=>Dp (a==b) (ay []) | .gp a st i o,.gp a' st' i' o'=>Dp (a==a'&&st==st'&&o==o') (ay [.nat i i']) | .G5 st n g i o,.G5 st' n' g' i' o'=>Dp (st==st'&&o==o') (ay [.nat n n',.L9 g g',.nat i i']) | .Fg,.Fg=>ay [] | .Bj,.Bj=>ay [] | .GN,.GN=>ay [] | .Ed,.Ed=>ay [] | .F6,.F6=>ay [] | .fn f l,.fn g m=>Dp (f==g) (LJ l m) | .agg l,.agg m=>LJ l m | .Ba l,.Ba m=>LJ l m | .Dv t x,.Dv u y=>Dp (t==u) (YV x y) | .mp a,.mp b=>Dp (a==b) (ay []) | .glob a,.glob b=>Dp (a==b) (ay []) | .ev a,.ev b=>Dp (a==b) (ay []) | .sh s,.sh u=>anf s u |_,_=>aN
def LJ:List SV->List SV->Option (List BQ)
 |[],[]=>ay [] |x::l,y::m=>Fh (YV x y) (LJ l m) |_,_=>aN
end
def XP:List (SV×SV)->List (SV×SV)->Option (List BQ)
 |[],[]=>ay [] |(a,b)::l,(c,d)::m=>Fh (YV a c) (Fh (YV b d) (XP l m)) |_,_=>aN
def aaH:List (Int×Bool×SV)->List (Int×Bool×SV)->Option (List BQ)
 |[],[]=>ay [] |(a,p,b)::l,(c,q,d)::m=>Dp (p==q) (Fh (ay [.int a c]) (Fh (YV b d) (aaH l m))) |_,_=>aN
def adD:List ((Int×List UInt8)×Bool×SV)->List ((Int×List UInt8)×Bool×SV)->Option (List BQ)
 |[],[]=>ay [] |((a,s),p,b)::l,((c,t),q,d)::m=>Dp (p==q) (Fh (ay [.int a c,.str s t]) (Fh (YV b d) (adD l m))) |_,_=>aN
def aiJ:Option (Nat×Int)->Option (Nat×Int)->Option (List BQ)
 |none,aN=>ay [] |some (a,n),ay (b,m)=>Dp (a==b) (ay [.int n m]) |_,_=>aN
def ang:SB->SB->Option (List BQ)
 | .box l e,.box m f=>Dp (e==f) (LJ l m) | .row l e s n,.row m f t k=>Dp (e==f&&s==t&&n==k) (LJ l m) | .own e s n g,.own f t m h=>Dp (e==f&&s==t) (ay [.nat n m,.L9 g h]) | .fz s n g,.fz t m h=>Dp (s==t) (ay [.nat n m,.L9 g h]) | .map l,.map m=>XP l m | .Rt l,.Rt m=>ay [.sh (.pt l) (.pt m)] | .Hl e s n g x,.Hl f t m h y=>Dp (e==f&&s==t) (Fh (ay [.nat n m,.L9 g h]) (LJ x y)) | .buf e l,.buf f m=>Dp (e==f) (ay [.str l m]) | .fm k M fs us tg,.fm l N gs vs th=>Dp (k==l) (Fh (ay [.mp M N]) (Fh (aaH fs gs) (Fh (aaH us vs) (aiJ tg th)))) | .pm vt M us,.pm wt N vs=>Dp (vt==wt) (Fh (ay [.mg M N]) (adD us vs)) |_,_=>aN
def adE:List (Nat×SB)->List (Nat×SB)->Option (List BQ)
 |[],[]=>ay [] |(i,a)::l,(j,b)::m=>Dp (i==j) (Fh (ang a b) (adE l m)) |_,_=>aN
def aeQ(a b:Core):Option (List BQ):=Dp (a.nx==b.nx&&a.lim==b.lim&&a.tc==b.tc) (Fh (LJ a.tm b.tm) (adE a.hp b.hp))
def af4(i:Nat):List Nat->List Nat
 |[]=>[i] |j::l=>bif i==j then j::l else bif fZ i j then i::j::l else j::af4 i l
def RH:List Nat->List Nat
 |[]=>[] |i::l=>af4 i (RH l)
inductive Ob where
 |b (x:Bool)
 |e (l:List BQ)
def strip{α:Type}:Tree α->Option (List Ob×α)
 | .leaf a=>ay ([],a) | .need b t=>(strip t).map fun p=>(.b b::p.1,p.2) | .must l t=>(strip t).map fun p=>(.e l::p.1,p.2) |_=>aN
def wrap{α:Type}(t:Tree α):List Ob->Tree α
 |[]=>t | .b x::r=>.need x (wrap t r) | .e l::r=>.must l (wrap t r)
def XQ{α:Type}(l:List BQ)(t:Tree α):Tree α:=
 match l with
 |[]=>t |l=>.must l t
def aai(t f:Tree Core):Tree Core:=
 match strip t,strip f with
 |some (o,a),ay (q,b)=>match aeQ a b with
  |some l=>wrap (XQ l (.leaf a)) (o++q) |none=>.both t f
 |_,_=>.both t f
def merge:Tree Core->Tree Core
 | .both t f=>aai (merge t) (merge f) | .node b t f=>.node b (merge t) (merge f) | .need b t=>.need b (merge t) | .must l t=>.must l (merge t) |t=>t
def aaj:Nat->List SV->List SV
 |_,[]=>[] |m,x::l=>(bif fC (m % 2) 1 then x else .any)::aaj (m / 2) l
def Nu(C:Ctx)(g:Nat)(tm:List SV):List SV:=
 match C.live.get g with
 |some m=>aaj m tm |none=>tm
def TK:SV->List Nat
 | .ptr id _=>[id] | .gp id _ _ _=>[id] | .gs id=>[id] | .mp id=>[id] |_=>[]
def touches(c:Core):Op->List Nat
 | .store _ x _=>TK (BP c.tm x) | .insert _ x _ _=>TK (BP c.tm x) | .mapUpdate _ x _ _=>TK (BP c.tm x) | .mapEntry _ x _=>TK (BP c.tm x) | .entryStore _ x _ _=>TK (BP c.tm x) | .call k=>match k.callee with
  | .value f=>reach c.hp 4000 (refs (BP c.tm f)++OE (k.args.toList.map (BP c.tm))) [] | .builtin .append=>OE (k.args.toList.map (BP c.tm)) | .builtin .delete=>OE (k.args.toList.map (BP c.tm)) |_=>[]
 | .slice _ x _ _ _=>TK (BP c.tm x) |_=>[]
def XR(C:Ctx):List Oper->Core->List Nat->List Nat
 |[],_,acc=>acc |o::r,c,acc=>XR C r (c.put o.dst (bif Dx o.op then match Em (exec C aeO c o) [] with
   |some (_,v)=>v |none=>.any
  else .any)) (touches c o.op++acc)
def drawn(C:Ctx)(call:Nat->List SV->Core->Tree (SV×Core))(g:Nat)(BM:Array Oper)(c:Core):Tree Core:=
 let lock:=MI c.hp (XR C BM.toList c [])
 bif gY (c.nx+JR c BM.size*BM.size) c.lim&&Region.noSelect BM then
  merge ((explore C call c.nx (JR c BM.size) BM lock (2*BM.size+1) (Array.replicate BM.size aA) c.tm {c with nx:=0,lim:=0}).bind fun c'=>.leaf {tm:=Nu C g c'.tm,hp:=c'.hp,nx:=c.nx+JR c BM.size*BM.size,lim:=c.lim,tc:=RH c'.tc})
 else .fail
inductive It where
 |code (p:List Nat)
 |inBlock (id:Nat)
 |reg (p:List Nat) (l:List Nat)
 |XT
inductive Out where
 |done (v:SV) (c:Core)
 |stop (fn:Nat) (todo:List It) (c:Core)
def child:Code->Nat->Code
 | .seq a _,0=>a | .seq _ b,_=>b | .cond _ a _,0=>a | .cond _ _ b,_=>b | .block _ b,_=>b | .loop b,_=>b | .rangeFunc _ _ a _,0=>a | .rangeFunc _ _ _ b,_=>b |_,_=>.skip
def Bo(c:Code):List Nat->Code
 |[]=>c |i::p=>child (Bo c p) i
def Gj(id:Nat):List It->Option (List It)
 | .inBlock j::k=>bif j==id then ay k else Gj id k |_::k=>Gj id k |[]=>aN
def aaI(C:Ctx)(c:Core):List ResultVar->Option (List SV)
 |[]=>ay [] | .tmp t::r=>match c.tm[t]?,aaI C c r with
  |some v,ay l=>ay (v::l) |_,_=>aN
 | .cell a t::r=>match C.ty t,aaI C c r with
  |some i,ay l=>(aeJ C c i.ty.isAgg i.size (c.tm.getD a .any)).map fun v=>v::l |_,_=>aN
def result(C:Ctx)(fn:Func)(c:Core):Tree Out:=
 match aaI C c fn.results.toList with
 |some [v]=>.leaf (.done v c) |some l=>.leaf (.done (.Ba l) c) |none=>.fail
def AU(fn:Func):Code:=match fn.body with|some b=>b|none=>.skip
def alF(c:Core):Out->Tree (SV×Core)
 | .done v c'=>.leaf (v,{tm:=c.tm,hp:=gc c.nx c.lim v c',nx:=c'.nx,lim:=c'.lim,tc:=c'.tc}) | .stop _ _ _=>.fail
def MQ(C:Ctx)(run:Nat->List It->Core->Tree Out)(g:Nat)(args:List SV)(c:Core):Tree (SV×Core):=
 match C.fns.get g with
 |none=>.fail |some fn=>bif gY args.length fn.ntmps&&fn.body.isSome then
   (run g [.code []] {tm:=args++dU (fn.ntmps - args.length) .any,hp:=c.hp,nx:=c.nx,lim:=c.lim,tc:=c.tc}).bind (alF c)
  else .fail
def V6:Operand->Option Nat
 | .tmp t=>ay t |_=>aN
inductive Sig where
 |go (td:List It) (c:Core)
 |done (v:SV) (c:Core)
 |halt (td:List It) (c:Core)
def aeR:Out->Tree Sig
 | .done v c=>.leaf (.done v c) | .stop _ td c=>.leaf (.halt td c)
def RI(C:Ctx)(call:Nat->List SV->Core->Tree (SV×Core))(top:Bool)(g:Nat)(fn:Func)(td:List It)(c:Core):Tree Sig:=
 match td with
 |[]=>(result C fn c).bind aeR | .inBlock _::k=>.leaf (.go k c) | .XT::_=>.fail | .reg _ []::k=>.leaf (.go k {c with tm:=Nu C g c.tm})
 | .reg p (i::r)::k=>match Bo (AU fn) p with
  | .region _ ops _=>(aah C call ops.toList c i).bind fun c=>.leaf (.go (.reg p r::k) c) |_=>.fail
 | .code p::k=>match Bo (AU fn) p with
  | .skip=>.leaf (.go k c) | .ret=>(result C fn c).bind aeR | .seq _ _=>.leaf (.go (.code (0::p)::.code (1::p)::k) c) | .block id _=>.leaf (.go (.code (0::p)::.inBlock id::k) c) | .loop _=>bif C.MP g p then .leaf (.halt td c) else .leaf (.go (.code (0::p)::.code p::k) c) | .exit id=>match Gj id k with
   |some k=>.leaf (.go k c) |none=>.fail
  | .cond x _ _=>match BP c.tm x with
   | .bool aF=>.leaf (.go (.code (0::p)::k) c) | .bool aA=>.leaf (.go (.code (1::p)::k) c) | .test b=>let d:=V6 x
    .node b (.leaf (.go (.code (0::p)::k) (c.put d (.bool aF)))) (.leaf (.go (.code (1::p)::k) (c.put d (.bool aA))))
   |_=>.fail
  | .region _ ops dr=>bif dr then
    let t:=drawn C call g ops c
    bif top && !t.lone then t.bind fun c=>.leaf (.halt k c) else t.bind fun c=>.leaf (.go k c)
   else .leaf (.go (.reg p (aY ops.size)::k) c)
  |_=>.fail
def run(C:Ctx):Nat->Bool->Nat->List It->Core->Tree Out
 |0,_,g,td,c=>.leaf (.stop g td c) |n+1,top,g,td,c=>
  match C.fns.get g with
  |none=>.fail |some fn=>(RI C (MQ C (run C n aA)) top g fn td c).bind fun s=>match s with
   | .go td c=>run C n top g td c | .done v c=>.leaf (.done v c) | .halt td c=>.leaf (.stop g td c)
open Go.RowKit (Below)
abbrev Mem:=Nat->Option Obj
def Mem.le(H H':Mem):Prop:=∀b o,H b=ay o->H' b=ay o
def Mem.on(H:Mem)(w:World):Prop:=∀b o,H b=ay o->w.heap[b]?=ay o
def hcell(H:Mem)(b off:Nat):Option Value:=
 match H b with
 |some (.cells c _ _)=>c[off]? |_=>aN
theorem Jy{H H':Mem}(h:H.le H'){b off:Nat}{v:Value}(hc:hcell H b off=ay v):hcell H' b off=ay v:=by
 unfold hcell at *;cases hb:H b with
 |none=>simp[hb] at hc |some o=>rw[h b o hb];rw[hb] at hc;exact hc
theorem MR{H:Mem}{w:World}(h:H.on w){b off:Nat}{v:Value}(hc:hcell H b off=ay v):w.cell? ⟨b,off,aN⟩=ay v:=by
 unfold hcell at hc;cases hb:H b with
 |none=>simp[hb] at hc |some o=>
  rw[hb] at hc;have:=h b o hb;cases o<;>simp at hc
  simp[oK,this,hc]
inductive Rep(H:Mem):Sh->Value->Prop
 |i (k:IntKind) (n:Int):Rep H (.i k n) (.int k n)
 |b (x:Bool):Rep H (.b x) (.bool x)
 |str (l:List UInt8):Rep H (.str l) (.string ⟨l.toArray⟩)
 |v (x:Value) (h:x.oneCell'=aF):Rep H (.v x) x
 |sl0 (st:Nat) (g:Nat->List Sh) (A:Option Addr) (cap:Nat):cap<=maxLen->Rep H (.sl st 0 g) (.slice A 0 cap)
 |sl (st n:Nat) (g:Nat->List Sh) (b off cap:Nat) (c:Nat->Nat->Value):n<=cap->cap<=maxLen->(∀(i:Nat),i<n->(g i).length=st)->
   (∀(i j:Nat),i<n->j<st->hcell H b (off+i*st+j)=ay (c i j))->(∀(i j:Nat),i<n->j<st->(c i j).oneCell'=aF)->
   (∀(i j:Nat) (s:Sh),i<n->(g i)[j]?=ay s->Rep H s (c i j))->Rep H (.sl st n g) (.slice (ay ⟨b,off,aN⟩) n cap)
 |agg (l:List Sh) (vs:Array Value):vs.size=l.length->(∀(j:Nat) (s:Sh) (v:Value),l[j]?=ay s->vs[j]?=ay v->Rep H s v)->Rep H (.agg l) (.agg vs)
 |Ba (l:List Sh) (vs:Array Value):vs.size=l.length->(∀(j:Nat) (s:Sh) (v:Value),l[j]?=ay s->vs[j]?=ay v->Rep H s v)->Rep H (.Ba l) (.tuple vs)
 |Dv (t:Nat) (x:Sh) (u:Value):Rep H x u->Rep H (.Dv t x) (.iface t u)
 |fn (f:Nat) (l:List Sh) (vs:Array Value):vs.size=l.length->(∀(j:Nat) (s:Sh) (v:Value),l[j]?=ay s->vs[j]?=ay v->Rep H s v)->Rep H (.fn f l) (.func (.func f) #[] vs)
 |er (g T:Nat) (b:Addr) (cs:Array Value) (e:Nat):hcell H g 0=ay (.iface T (.pointer (ay b)))->H b.block=ay (.cells cs e (0,0))->
   Rep H (.er g T) (.iface T (.pointer (ay b)))
 |pt (l:List Sh) (b off:Nat) (c:Nat->Value):(∀(j:Nat),j<l.length->hcell H b (off+j)=ay (c j))->(∀(j:Nat),j<l.length->(c j).oneCell'=aF)->(∀(j:Nat) (s:Sh),l[j]?=ay s->Rep H s (c j))->
   Rep H (.pt l) (.pointer (ay ⟨b,off,aN⟩))
theorem Rep.le{H H':Mem}(h:H.le H'){s:Sh}{v:Value}(r:Rep H s v):Rep H' s v:=by
 induction r with
 |i k n=>exact .i k n |b x=>exact .b x |str l=>exact .str l |v x hx=>exact .v x hx |sl0 st g A cap hc=>exact .sl0 st g A cap hc |sl st n g b off cap c h1 h2 h3 h4 h5 _ ih=>exact .sl st n g b off cap c h1 h2 h3 (fun i j hi hj=>Jy h (h4 i j hi hj)) h5 ih |agg l vs hs _ ih=>exact .agg l vs hs ih |Ba l vs hs _ ih=>exact .Ba l vs hs ih |Dv t x u _ ih=>exact .Dv t x u ih |fn f l vs hs _ ih=>exact .fn f l vs hs ih |er g T b cs e h1 h2=>exact .er g T b cs e (Jy h h1) (h _ _ h2) |pt l b off c h1 h2 _ ih=>exact .pt l b off c (fun j hj=>Jy h (h1 j hj)) h2 ih
def D9(H:Mem):List Sh->List Value->Prop
 |[],[]=>True |s::l,v::vs=>Rep H s v/\D9 H l vs |_,_=>False
theorem D9.le{H H':Mem}(h:H.le H'):∀{l:List Sh} {vs:List Value},D9 H l vs->D9 H' l vs
 |[],[],_=>trivial |_::_,_::_,⟨a,b⟩=>⟨a.le h,D9.le h b⟩ |[],_::_,h=>h.elim |_::_,[],h=>h.elim
theorem D9.length{H:Mem}:∀{l:List Sh} {vs:List Value},D9 H l vs->vs.length=l.length
 |[],[],_=>rfl |_::_,_::_,⟨_,b⟩=>by simp[D9.length b] |[],_::_,h=>h.elim |_::_,[],h=>h.elim
theorem D9.at_{H:Mem}:∀{l:List Sh} {vs:List Value},D9 H l vs->∀{j:Nat} {s:Sh} {v:Value},l[j]?=ay s->vs[j]?=ay v->Rep H s v
 |_::_,_::_,⟨a,_⟩,0,_,_,h1,h2=>by simp at h1 h2;subst h1;subst h2;exact a |_::_,_::_,⟨_,b⟩,j+1,_,_,h1,h2=>D9.at_ b (by simpa using h1) (by simpa using h2) |[],[],_,_,_,_,h1,_=>by simp at h1 |[],_::_,h,_,_,_,_,_=>h.elim |_::_,[],h,_,_,_,_,_=>h.elim
theorem D9.OG{H:Mem}:∀{l:List Sh} {vs:List Value},vs.length=l.length->(∀(j:Nat) (s:Sh) (v:Value),l[j]?=ay s->vs[j]?=ay v->Rep H s v)->D9 H l vs
 |[],[],_,_=>trivial |_::_,_::_,hl,h=>⟨h 0 _ _ rfl rfl,D9.OG (by simpa using hl) fun j s v h1 h2=>h (j+1) s v (by simpa using h1) (by simpa using h2)⟩ |[],_::_,h,_=>by simp at h |_::_,[],h,_=>by simp at h
def CQ(H:Mem)(st n:Nat)(g:Nat->List Sh)(xs:List Value):Prop:=
 xs.length=n*st/\(∀i,i<n->(g i).length=st)/\(∀u∈xs,u.oneCell'=aF)/\
 ∀(i j:Nat) (s:Sh) (v:Value),i<n->(g i)[j]?=ay s->xs[i*st+j]?=ay v->Rep H s v
theorem CQ.le{H H':Mem}(h:H.le H'){st n:Nat}{g:Nat->List Sh}{xs:List Value}(r:CQ H st n g xs):CQ H' st n g xs:=
 ⟨r.1,r.2.1,r.2.2.1,fun i j s v hi h1 h2=>(r.2.2.2 i j s v hi h1 h2).le h⟩
abbrev Env:=Nat->Option Value
def Env.le(E E':Env):Prop:=∀i v,E i=ay v->E' i=ay v
def AY:Value->Option Nat
 | .pointer (ay ⟨b,0,aN⟩)=>ay b | .slice (ay ⟨b,0,aN⟩) _ _=>ay b | .map (ay b)=>ay b |_=>aN
def lenV:Value->Nat
 | .slice _ n _=>n |_=>0
mutual
def Den(H:Mem)(E:Env):SV->Value->Prop
 | .any,_=>True | .val v,u=>u=v/\v.oneCell'=aF | .int k n,u=>u=.int k n | .sym k n,u=>u=.int k n | .bool b,u=>u=.bool b | .test b,u=>u=.bool b | .str l,u=>u=.string ⟨l.toArray⟩ | .ptr id off,u=>∃b,(E id).bind AY=ay b/\u=.pointer (ay ⟨b,off,aN⟩) | .gs id,u=>E id=ay u/\∃A n c,u=.slice A n c | .gp id st i off,u=>∃b v,E id=ay v/\AY v=ay b/\i<lenV v/\u=.pointer (ay ⟨b,i*st+off,aN⟩) | .Fg,u=>u=.pointer aN | .Bj,u=>u=.slice aN 0 0 | .GN,u=>u=.nilFunc | .Ed,u=>u=.nilIface | .F6,u=>u=.map aN | .fn f l,u=>∃vs:Array Value,u=.func (.func f) #[] vs/\AV H E l vs.toList | .agg l,u=>∃vs:Array Value,u=.agg vs/\AV H E l vs.toList | .Ba l,u=>∃vs:Array Value,u=.tuple vs/\AV H E l vs.toList | .Dv t x,u=>∃v,u=.iface t v/\Den H E x v | .mp id,u=>∃b,E id=ay (.map (ay b))/\u=.map (ay b) | .sh s,u=>Rep H s u | .G5 st n g i off,u=>∃(b o:Nat) (c:Nat->Value),u=.pointer (ay ⟨b,o+off,aN⟩)/\i<n/\(g i).length=st/\
   (∀j,j<st->hcell H b (o+j)=ay (c j)/\(c j).oneCell'=aF)/\∀(j:Nat) (s:Sh),(g i)[j]?=ay s->Rep H s (c j)
 | .glob g,u=>u=.pointer (ay ⟨g,0,aN⟩) | .ev id,u=>E id=ay u | .vw id n,u=>∃A m c,E id=ay (.slice A m c)/\n<=m/\u=.slice A n c
def AV(H:Mem)(E:Env):List SV->List Value->Prop
 |[],[]=>True |s::l,v::vs=>Den H E s v/\AV H E l vs |_,_=>False
end
section
variable{H H':Mem}{E E':Env}
mutual
theorem Den.le(hH:H.le H')(hE:E.le E'):∀{s:SV} {v:Value},Den H E s v->Den H' E' s v
 | .any,_,_=>trivial | .val _,_,h=>h | .int _ _,_,h=>h | .sym _ _,_,h=>h | .bool _,_,h=>h | .test _,_,h=>h | .str _,_,h=>h | .ptr id off,u,⟨b,h1,h2⟩=>⟨b,by
   cases he:E id with
   |none=>simp[he] at h1 |some v=>rw[hE _ _ he];simpa[he] using h1,h2⟩
 | .gs id,u,⟨h,h'⟩=>⟨hE _ _ h,h'⟩ | .gp id st i off,u,⟨b,v,h1,h2⟩=>⟨b,v,hE _ _ h1,h2⟩ | .Fg,_,h=>h | .Bj,_,h=>h | .GN,_,h=>h | .Ed,_,h=>h | .F6,_,h=>h | .fn _ _,_,⟨vs,h1,h2⟩=>⟨vs,h1,AV.le hH hE h2⟩ | .agg _,_,⟨vs,h1,h2⟩=>⟨vs,h1,AV.le hH hE h2⟩ | .Ba _,_,⟨vs,h1,h2⟩=>⟨vs,h1,AV.le hH hE h2⟩ | .Dv _ _,_,⟨v,h1,h2⟩=>⟨v,h1,Den.le hH hE h2⟩ | .mp id,_,⟨b,h1,h2⟩=>⟨b,hE _ _ h1,h2⟩ | .sh _,_,h=>Rep.le hH h | .G5 _ _ _ _ _,_,⟨b,o,c,h1,h2,h3,h4,h5⟩=>⟨b,o,c,h1,h2,h3,fun j hj=>⟨Jy hH (h4 j hj).1,(h4 j hj).2⟩,fun j s hs=>(h5 j s hs).le hH⟩ | .glob _,_,h=>h | .ev _,_,h=>hE _ _ h | .vw _ _,_,⟨A,m,c,h1,h2⟩=>⟨A,m,c,hE _ _ h1,h2⟩
theorem AV.le(hH:H.le H')(hE:E.le E'):∀{l:List SV} {vs:List Value},AV H E l vs->AV H' E' l vs
 |[],[],_=>trivial |_::_,_::_,⟨a,b⟩=>⟨Den.le hH hE a,AV.le hH hE b⟩ |[],_::_,h=>h.elim |_::_,[],h=>h.elim
end
theorem AV.length:∀{l:List SV} {vs:List Value},AV H E l vs->vs.length=l.length
 |[],[],_=>rfl |_::_,_::_,⟨_,b⟩=>by simp[AV.length b] |[],_::_,h=>h.elim |_::_,[],h=>h.elim
theorem AV.at_:∀{l:List SV} {vs:List Value},AV H E l vs->∀{j:Nat} {s:SV} {v:Value},l[j]?=ay s->vs[j]?=ay v->Den H E s v
 |_::_,_::_,⟨a,_⟩,0,_,_,h1,h2=>by simp at h1 h2;subst h1;subst h2;exact a |_::_,_::_,⟨_,b⟩,j+1,_,_,h1,h2=>AV.at_ b (by simpa using h1) (by simpa using h2) |[],[],_,_,_,_,h1,_=>by simp at h1 |[],_::_,h,_,_,_,_,_=>h.elim |_::_,[],h,_,_,_,_,_=>h.elim
theorem AV.get:∀{l:List SV} {vs:List Value},AV H E l vs->∀{j:Nat} {s:SV},l[j]?=ay s->∃v,vs[j]?=ay v/\Den H E s v:=by
 intro l vs h j s hs;have hj:j<l.length:=(aQ.1 hs).1;have hj':j<vs.length:=by rw[h.length];exact hj
 exact ⟨vs[j],aS hj',h.at_ hs (aS hj')⟩
theorem AV.append:∀{l l':List SV} {vs vs':List Value},AV H E l vs->AV H E l' vs'->AV H E (l++l') (vs++vs')
 |[],_,[],_,_,h'=>h' |_::_,_,_::_,_,⟨a,b⟩,h'=>⟨a,AV.append b h'⟩ |[],_,_::_,_,h,_=>h.elim |_::_,_,[],_,h,_=>h.elim
theorem AV.drop:∀{l:List SV} {vs:List Value},AV H E l vs->∀n,AV H E (l.drop n) (vs.drop n)
 |_,_,h,0=>h |[],[],_,_+1=>trivial |_::_,_::_,⟨_,b⟩,n+1=>AV.drop b n |[],_::_,h,_+1=>h.elim |_::_,[],h,_+1=>h.elim
theorem AV.take:∀{l:List SV} {vs:List Value},AV H E l vs->∀n,AV H E (l.take n) (vs.take n)
 |_,_,_,0=>by simp[AV] |[],[],_,_+1=>trivial |_::_,_::_,⟨a,b⟩,n+1=>⟨a,AV.take b n⟩ |[],_::_,h,_+1=>h.elim |_::_,[],h,_+1=>h.elim
theorem AV.set:∀{l:List SV} {vs:List Value},AV H E l vs->∀(n:Nat) {s:SV} {v:Value},Den H E s v->AV H E (l.set n s) (vs.set n v)
 |[],[],_,_,_,_,_=>trivial |_::_,_::_,⟨_,b⟩,0,_,_,h=>⟨h,b⟩ |_::_,_::_,⟨a,b⟩,n+1,_,_,h=>⟨a,AV.set b n h⟩ |[],_::_,h,_,_,_,_=>h.elim |_::_,[],h,_,_,_,_=>h.elim
theorem AV.any:∀(n:Nat) (vs:List Value),vs.length=n->AV H E (dU n .any) vs
 |0,[],_=>trivial |n+1,_::vs,h=>⟨trivial,AV.any n vs (by simpa using h)⟩ |0,_::_,h=>by simp at h |_+1,[],h=>by simp at h
end
structure Kx where
 w0:World
 own:Nat->Prop
 H0:Mem
def Mine(K:Kx)(H:Mem)(b:Nat):Prop:=H b=aN/\(K.w0.heap.size<=b\/K.own b)
def Oc(H:Mem)(E:Env):List (SV×SV)->List MapEntry->Prop
 |[],[]=>True |(k,v)::l,m::ms=>Den H E k m.key/\Den H E v m.val/\Oc H E l ms |_,_=>False
def GR(H:Mem)(E:Env):List (Int×Bool×SV)->List (Int×Option Value)->Prop
 |[],[]=>True |(k,p,sv)::l,(n,o)::r=>n=k/\(match p,o with|true,ay v=>Den H E sv v/\v.oneCell'=aF|false,aN=>True|_,_=>False)/\GR H E l r
 |_,_=>False
def Uj(M:Int->Option Value):List (Int×Option Value)->Int->Option Value
 |[]=>M |(n,o)::r=>fun k=>if k=n then o else Uj M r k
abbrev Ea:=Int×List UInt8
def Dz(n:Ea):Value:=.agg #[.int .i64 n.1,.string ⟨n.2.toArray⟩]
def V7(H:Mem)(E:Env):List (Ea×Bool×SV)->List (Ea×Option Value)->Prop
 |[],[]=>True |(k,p,sv)::l,(n,o)::r=>n=k/\(match p,o with|true,ay v=>Den H E sv v/\v.oneCell'=aF|false,aN=>True|_,_=>False)/\V7 H E l r
 |_,_=>False
def RJ(M:Ea->Option Value):List (Ea×Option Value)->Ea->Option Value
 |[]=>M |(n,o)::r=>fun k=>if k=n then o else RJ M r k
def anh:VT->Value->Prop
 | .int,v=>∃n,v=.int .i64 n | .bool,v=>∃b,v=.bool b
def akA(vt:VT)(M:Ea->Option Value):Prop:=∀k v,M k=ay v->anh vt v
def ani(vt:VT)(us:List (Ea×Bool×SV)):Prop:=∀u∈us,u.2.1=aF->u.2.2.adA vt=aF
structure YW(ms:List MapEntry)(N:Ea->Option Value):Prop where
 key:∀m∈ms,∃n,m.key=Dz n
 ZU:∀m∈ms,∀n,m.key=Dz n->N n=ay m.val
 ex:∀n v,N n=ay v->∃m∈ms,m.key=Dz n
 one:∀(i j:Nat) (m m':MapEntry),ms[i]?=ay m->ms[j]?=ay m'->m.key=m'.key->i=j
def I5(k:IntKind)(n:Int):List MapEntry->Option Value
 |[]=>aN |m::r=>match Instr.sameNow (.int k) (.int k n) m.key with
  |some aF=>ay m.val |_=>I5 k n r
structure FP(k:IntKind)(ms:List MapEntry)(clk:Nat)(N:Int->Option Value):Prop where
 key:∀m∈ms,∃n,m.key=.int k n
 at_:∀n,I5 k n ms=N n
 one:∀(i j:Nat) (m m':MapEntry),ms[i]?=ay m->ms[j]?=ay m'->m.key=m'.key->i=j
 born:∀(i j:Nat) (m m':MapEntry),ms[i]?=ay m->ms[j]?=ay m'->m.born=m'.born->i=j
 lt:∀m∈ms,m.born<clk
def aeS(E:Env)(k:IntKind)(ms:List MapEntry):Option (Nat×Int)->Prop
 |none=>True |some (s,n)=>∃m∈ms,m.key=.int k n/\E s=ay (.int .i64 m.born)
def bytesV(l:List UInt8):List Value:=l.map fun b=>.int .u8 b.toNat
def G6(w:World)(e:TypeId)(v:Value)(l:List UInt8):Prop:=
 (v=.slice aN 0 0/\l=[])\/∃g cap cur fz,v=.slice (ay ⟨g,0,aN⟩) l.length cap/\w.heap[g]?=ay (.cells cur e fz)/\(fz.2<=l.length\/cap<=fz.1)/\l.length<=cap/\cap<=maxLen/\cur.size=cap/\cur.toList.take l.length=bytesV l
def GV(K:Kx)(H:Mem)(E:Env)(w:World)(id:Nat):SB->Prop
 | .box cells elem=>∃b cs,E id=ay (.pointer (ay ⟨b,0,aN⟩))/\w.heap[b]?=ay (.cells cs elem (0,0))/\AV H E cells cs.toList/\Mine K H b | .row cells elem st n=>∃v xs,E id=ay v/\w.ownsRow 0 elem st v n xs/\AV H E cells xs/\∀b,AY v=ay b->Mine K H b | .own elem st n g=>∃v xs,E id=ay v/\w.ownsRow 0 elem st v n xs/\CQ H st n g xs/\∀b,AY v=ay b->Mine K H b | .fz st n g=>∃v,E id=ay v/\Rep H (.sl st n g) v | .map es=>∃b ms clk,E id=ay (.map (ay b))/\w.heap[b]?=ay (.map ms clk)/\Oc H E es ms.toList/\Mine K H b | .Rt l=>∃v,E id=ay v/\Rep H (.pt l) v | .Hl elem st n g more=>∃v xs ys,E id=ay v/\w.ownsRow 0 elem st v (n+more.length / st) (xs++ys)/\CQ H st n g xs/\AV H E more ys/\more.length % st=0/\FU more=aF/\∀b,AY v=ay b->Mine K H b | .fm k M fs us tag=>∃b ms clk fv uv,E id=ay (.map (ay b))/\w.heap[b]?=ay (.map ms clk)/\GR H E fs fv/\GR H E us uv/\(∀n o,(n,o)∈fv->M n=o)/\FP k ms.toList clk (Uj M uv)/\aeS E k ms.toList tag/\Mine K H b | .pm vt M us=>∃b ms clk uv,E id=ay (.map (ay b))/\w.heap[b]?=ay (.map ms clk)/\V7 H E us uv/\akA vt M/\ani vt us/\YW ms.toList (RJ M uv)/\Mine K H b | .buf e l=>∃v,E id=ay v/\G6 w e v l/\∀b,AY v=ay b->Mine K H b
def Bv(E:Env)(id:Nat):SB->Option Nat
 | .fz _ _ _=>aN | .Rt _=>aN |_=>(E id).bind AY
structure AZ(K:Kx)(H:Mem)(E:Env)(w:World)(hp:List (Nat×SB)):Prop where
 ent:∀id sb,AA hp id=ay sb->GV K H E w id sb
 Gu:∀id id' sb sb' b,AA hp id=ay sb->AA hp id'=ay sb'->Bv E id sb=ay b->Bv E id' sb'=ay b->id=id'
structure Es(K:Kx)(H:Mem)(w:World):Prop where
 os:w.os=K.w0.os
 tape:w.tape=K.w0.tape
 output:w.output=K.w0.output
 size:K.w0.heap.size<=w.heap.size
 kept:∀b,b<K.w0.heap.size->¬K.own b->w.heap[b]?=K.w0.heap[b]?
 on:H.on w
 le:K.H0.le H
 fresh:∀b,H b≠aN->K.H0 b≠aN\/K.w0.heap.size<=b\/K.own b
open Go.RowKit (Below)
def Aw:Prim where
 add k x y:=k.wrap (x+y)
 sub k x y:=k.wrap (x - y)
 mul k x y:=k.wrap (x*y)
 neg k x:=k.wrap (0 - x)
 lt x y:=decide (x<y)
 le x y:=decide (x<=y)
 eq x y:=x==y
 max x y:=if y>x then y else x
 min x y:=if y<x then y else x
 inB i n:=decide (0<=i/\i<n)
 upTo i n:=decide (0<=i/\i<=n)
 toN i:=i.toNat
 Bl n:=n
 addN i j:=i+j
 JM i j:=i - j
 leN i j:=decide (i<=j)
 room n b:=decide (n*b<=140737488355328/\n<=maxLen)
 len l:=l.length
 nt b:=!b
 ite c x y:=bif c then x else y
 beq x y:=x==y
 seq x y:=x==y
 app x y:=x++y
 snoc g n h i:=if i<n then g i else h (i - n)
 upd g i off l j:=if j=i then (g j).take off++l++(g j).drop (off+l.length) else g j
 bin op k a b:=VW op k a b
 conv k a:=k.wrap a
 ins g i l j:=if j<i then g j else if j=i then l else g (j - 1)
 kp a l b m:=decide (a=b/\l=m)
 isS o:=o.isSome
 asH o:=match o with|some (.int .i64 n)=>n|_=>0
 H8 o:=match o with|some (.bool b)=>b|_=>aA
def E0:Env:=fun _=>aN
def M0:Mem:=fun _=>aN
def adF(P:Program)(fields:Array Field)(fs:List (Nat×Nat×Bool)):Prop:=
 fields.size=fs.length/\∀(j:Nat) (f:Field),fields[j]?=ay f->∃inf:TypeInfo,P.info? f.type=ay inf/\
  fs[j]?=ay (f.offset,inf.size,match P.underlying f.type with|some (.struct _) |some (.array _ _)=>aF|_=>aA)/\(P.underlying f.type).isSome=aF
def aeT(P:Program)(t:Nat):Ty->Prop
 | .int k=>P.underlying t=ay (.int k) | .bool=>P.underlying t=ay .bool | .str=>P.underlying t=ay .string | .ptr e=>P.underlying t=ay (.pointer e) | .fn=>∃ps rs b,P.underlying t=ay (.func ps rs b) | .iface=>∃ms,P.underlying t=ay (.interface ms) | .map k e=>P.underlying t=ay (.map k e) | .slice e=>P.underlying t=ay (.slice e) | .struct fs=>∃fields,P.underlying t=ay (.struct fields)/\adF P fields fs | .arr n e=>P.underlying t=ay (.array n e) | .other=>False
structure Oe(P:Program)(t:Nat)(i:Kr):Prop where
 desc:aeT P t i.ty
 info:∃(inf:TypeInfo) (z:Value),P.info? t=ay inf/\inf.size=i.size/\inf.bytes=i.bytes/\inf.zero=ay z/\AV M0 E0 i.zero z.cells.toList/\z.cells.size=i.size/\
  (i.ty.isAgg=aF->∃cs,z=.agg cs)/\(i.ty.isAgg=aA->i.size=1/\z.oneCell'=aF)
def Gl(H:Mem)(g:Nat)(s:Sh):Prop:=
 match s with
 | .Ba l=>(∃cs e f,H g=ay (.cells cs e f)/\cs.size=l.length)/\∃c:Nat->Value,(∀(j:Nat),j<l.length->hcell H g j=ay (c j)/\(c j).oneCell'=aF)/\∀(j:Nat) (s:Sh),l[j]?=ay s->Rep H s (c j) |s=>∃v,hcell H g 0=ay v/\Rep H s v/\v.oneCell'=aF
structure Dt(gls:List (Nat×Sh))(H:Mem):Prop where
 at_:∀g s,AA gls g=ay s->Gl H g s
 apart:∀g g' T T',AA gls g=ay (.er g T)->AA gls g'=ay (.er g' T')->g≠g'->hcell H g 0≠hcell H g' 0
theorem Dt.le{gls:List (Nat×Sh)}{H H':Mem}(h:Dt gls H)(hH:H.le H'):Dt gls H' where
 at_ g s hg:=by
  have:=h.at_ g s hg;cases s with
  |Ba l=>obtain ⟨⟨cs,e,f,q1,q2⟩,c,h1,h2⟩:=this;exact ⟨⟨cs,e,f,hH _ _ q1,q2⟩,c,fun j hj=>⟨Jy hH (h1 j hj).1,(h1 j hj).2⟩,fun j s hs=>(h2 j s hs).le hH⟩ |_=>obtain ⟨v,h1,h2,h3⟩:=this;exact ⟨v,Jy hH h1,h2.le hH,h3⟩
 apart g g' T T' h1 h2 hne:=by
  have a1:Gl H g (.er g T):=h.at_ g _ h1;have a2:Gl H g' (.er g' T'):=h.at_ g' _ h2;obtain ⟨v1,b1,_⟩:=a1;obtain ⟨v2,b2,_⟩:=a2;have:=h.apart g g' T T' h1 h2 hne;rw[b1,b2] at this;rw[Jy hH b1,Jy hH b2];exact this
section
variable{P:Program}{C:Ctx}{K:Kx}{H:Mem}{E:Env}{w:World}
theorem aiK{t:Nat}{i:Kr}(h:Oe P t i)(w:World):(isAgg t).run P w=.ok i.ty.isAgg w:=by
 have hd:=h.desc;unfold isAgg;cases hi:i.ty<;>rw[hi] at hd<;>simp only[aeT] at hd
 case struct fs=>obtain ⟨f,hf,_⟩:=hd;simp[run_underlying hf,Ty.isAgg]
 case fn=>obtain ⟨_,_,_,hd⟩:=hd;simp[run_underlying hd,Ty.isAgg]
 case iface=>obtain ⟨_,hd⟩:=hd;simp[run_underlying hd,Ty.isAgg]
 all_goals simp[run_underlying hd,Ty.isAgg]
theorem Jz{t:Nat}{i:Kr}(h:Oe P t i)(w:World):(sizeOf t).run P w=.ok i.size w:=by
 obtain ⟨inf,z,h1,h2,_⟩:=h.info;simp[sizeOf,typeInfo,h1,h2]
theorem alG{t:Nat}{i:Kr}(h:Oe P t i)(w:World):∃z:Value,(zeroValue t).run P w=.ok z w/\AV M0 E0 i.zero z.cells.toList/\z.cells.size=i.size:=by
 obtain ⟨inf,z,h1,_,_,h4,h5,h6,_⟩:=h.info;exact ⟨z,by simp[zeroValue,typeInfo,h1,h4],h5,h6⟩
theorem aiL(v:Value):Den H E (.ofValue v) v:=by
 unfold SV.ofValue;split<;>first|exact ⟨rfl,rfl⟩ |simp[Den]
theorem BJ{tm:List SV}{a:Act}(hd:AV H E tm a.tmps.toList)(x:Operand):Den H E (BP tm x) (a.eval x):=by
 cases x with
 |tmp t=>
  simp only[BP,Act.eval];by_cases ht:t<tm.length
  ·have h1:tm[t]?=ay tm[t]:=aS ht
   obtain ⟨v,hv,h2⟩:=hd.get h1;have:a.tmps.getD t undef=v:=by
    rw[dX] at hv;simp[iM,hv]
   rw[this,aX,h1];exact h2
  ·rw[aX,List.getElem?_eq_none (Nat.le_of_not_lt ht)]
   trivial
 |const v=>exact aiL v |global g=>exact rfl |func f=>exact ⟨#[],rfl,trivial⟩
theorem af6{x:Value}(h:x.oneCell'=aF):Den H E (SV.lit x) x:=by
 unfold SV.lit;split
 ·rfl
 ·rfl
 ·rfl
 ·exact ⟨rfl,h⟩
mutual
theorem UQ:∀{s:Sh} {v:Value},Rep H s v->Den H E (XJ s) v
 | .i _ _,_,h=>by cases h;rfl | .b _,_,h=>by cases h;rfl | .v _,_,h=>by cases h with|v _ h1=>exact af6 h1
 | .str _,_,h=>h | .sl _ _ _,_,h=>h | .Dv _ _,_,h=>h | .er _ _,_,h=>h | .fn _ l,_,h=>by
  cases h with
  |fn _ _ vs h1 h2=>exact ⟨vs,rfl,JA (D9.OG (by simpa using h1) fun j s v e1 e2=>h2 j s v e1 (by simpa using e2))⟩
 | .pt l,_,h=>by
  cases h with
  |pt _ b off c h1 h2 h3=>exact ⟨b,off,c,rfl,Nat.zero_lt_one,rfl,fun j hj=>⟨h1 j hj,h2 j hj⟩,h3⟩
 | .os _ _ _ _,_,h=>by cases h | .agg l,_,h=>by
  cases h with
  |agg _ vs h1 h2=>exact ⟨vs,rfl,JA (D9.OG (by simpa using h1) fun j s v e1 e2=>h2 j s v e1 (by simpa using e2))⟩
 | .Ba l,_,h=>by
  cases h with
  |Ba _ vs h1 h2=>exact ⟨vs,rfl,JA (D9.OG (by simpa using h1) fun j s v e1 e2=>h2 j s v e1 (by simpa using e2))⟩
theorem JA:∀{l:List Sh} {vs:List Value},D9 H l vs->AV H E (Q8 l) vs
 |[],[],_=>trivial |_::_,_::_,⟨h1,h2⟩=>⟨UQ h1,JA h2⟩ |[],_::_,h=>h.elim |_::_,[],h=>h.elim
end
theorem XU{s:Sh}{v:Value}(h:Rep H s v)(h1:v.oneCell'=aF):Den H E s.Jw v:=by
 cases h;case v hx=>
  simp only[Sh.Jw];unfold SV.lit;split
  ·rfl
  ·rfl
  ·rfl
  ·exact ⟨rfl,hx⟩
 all_goals simp[Sh.Jw,Den]
 case sl0 st g A cap hc=>exact .sl0 st g A cap hc
 case sl st n g b off cap c a1 a2 a3 a4 a5 a6=>exact .sl st n g b off cap c a1 a2 a3 a4 a5 a6
 case str l=>exact .str l
 case agg l vs _ _=>simp[jW] at h1
 case Ba l vs _ _=>simp[jW] at h1
 case Dv t x u hu=>exact .Dv t x u hu
 case fn f l vs hs hv=>exact JA (D9.OG (by simpa using hs) fun j s v e1 e2=>hv j s v e1 (by simpa using e2))
 case er g T b cs e a1 a2=>exact .er g T b cs e a1 a2
 case pt l b off c a1 a2 a3=>exact ⟨b,off,⟨rfl,rfl⟩,c,fun j hj=>⟨a1 j hj,a2 j hj⟩,a3⟩
def UR(H:Mem)(E:Env)(hp:List (Nat×SB))(w w':World):Prop:=
 ∀b,(H b≠aN\/∃id sb,AA hp id=ay sb/\Bv E id sb=ay b)->w'.heap[b]?=w.heap[b]?
theorem UR.refl(H:Mem)(E:Env)(hp:List (Nat×SB))(w:World):UR H E hp w w:=fun _ _=>rfl
theorem Ky{l:List SV}{off n:Nat}{r:List SV}(h:seg l off n=ay r):off+n<=l.length/\r=(l.drop off).take n:=by
 unfold seg at h;cases hb:gY (off+n) l.length<;>simp[hb] at h
 exact ⟨fP hb,h.symm⟩
theorem Nv{agg:Bool}{l:List SV}{v:SV}(h:pack agg l=ay v):(agg=aF/\v=.agg l)\/(agg=aA/\l=[v]):=by
 unfold pack at h;cases agg
 ·right
  simp only[cond_false] at h;split at h<;>simp at h
  subst h;exact ⟨rfl,rfl⟩
 ·left;simp at h;exact ⟨rfl,h.symm⟩
theorem adG{t:Nat}{i:Kr}(ht:Oe P t i){a:Addr}{cs:List Value}(hl:cs.length=i.size)(hc:∀j v,cs[j]?=ay v->w.cell? (a.add j)=ay v):
  (loadVar t a).run P w=.ok (if i.ty.isAgg then .agg cs.toArray else cs.headD undef) w:=by
 unfold loadVar;simp only[gK,aiK ht,fV];cases hi:i.ty.isAgg
 ·obtain ⟨_,_,_,_,_,_,_,_,_,h1⟩:=ht.info
  have h1:=(h1 hi).1;rw[h1] at hl;match cs,hl with
  |[c],_=>
   have:=hc 0 c rfl;simp[wV] at this;simp[run_load,this]
 ·have:=run_loadCells_list (P:=P) (w:=w) a cs hc
  rw[hl] at this;simp[Jz ht,this]
def Nw(agg:Bool)(cs:List Value):Value:=if agg then .agg cs.toArray else cs.headD undef
theorem Kz{agg:Bool}{l:List SV}{sv:SV}{cs:List Value}(h:pack agg l=ay sv)(hd:AV H E l cs):Den H E sv (Nw agg cs):=by
 rcases Nv h with ⟨rfl,rfl⟩ |⟨rfl,rfl⟩
 ·exact ⟨cs.toArray,by simp[Nw],hd⟩
 ·match cs,hd with
  |[c],⟨hc,_⟩=>exact hc
theorem JB{hp:List (Nat×SB)}{w':World}(ha:UR H E hp w w'){id b:Nat}{sb:SB}(hl:AA hp id=ay sb)(hb:Bv E id sb=ay b):
  w'.heap[b]?=w.heap[b]?:=ha b (.inr ⟨id,sb,hl,hb⟩)
theorem V8{elem st n:Nat}{v:Value}{xs:List Value}(h:w.ownsRow 0 elem st v n xs){j:Nat}{u:Value}(hu:xs[j]?=ay u):
  ∃b cur,AY v=ay b/\w.heap[b]?=ay (.cells cur elem (0,0))/\cur.toList[j]?=ay u:=by
 obtain ⟨hl,h⟩:=h;rcases h with ⟨rfl,rfl⟩ |⟨g,cap,cur,rfl,_,hg,_,_,hs,ht⟩
 ·have:xs=[]:=List.eq_nil_of_length_eq_zero (by simpa using hl)
  subst this;simp at hu
 ·refine ⟨g,cur,rfl,hg,?_⟩
  rw[<-ht,bZ] at hu;split at hu
  ·exact hu
  ·cases hu
theorem ac6{st n:Nat}{g:Nat->List Sh}{xs:List Value}(h:CQ H st n g xs){i:Nat}(hi:i<n):
  AV H E ((g i).map Sh.Jw) ((xs.drop (i*st)).take st):=by
 obtain ⟨h1,h2,h3,h4⟩:=h;have hg:=h2 i hi;have hlen:i*st+st<=xs.length:=by
  rw[h1];calc i*st+st=(i+1)*st:=by rw[Nat.add_mul,Nat.one_mul]
   _<=n*st:=Nat.mul_le_mul_right _ hi
 have key:∀(l:List Sh) (vs:List Value),vs.length=l.length->(∀(j:Nat) (s:Sh) (v:Value),l[j]?=ay s->vs[j]?=ay v->Rep H s v/\v.oneCell'=aF)->AV H E (l.map Sh.Jw) vs:=by
  intro l;induction l with
  |nil=>intro vs hl _;match vs,hl with|[],_=>trivial
  |cons s l ih=>
   intro vs hl h;match vs,hl with
   |v::vs,hl=>
    have h0:=h 0 s v rfl rfl;exact ⟨XU h0.1 h0.2,ih vs (by simpa using hl) fun j s' v' e1 e2=>h (j+1) s' v' (by simpa using e1) (by simpa using e2)⟩
 refine key _ _ (by simp[cu,dS];omega) fun j s v e1 e2=>?_
 have hj:j<st:=by rw[<-hg];exact (aQ.1 e1).1
 rw[bZ,if_pos hj,eH] at e2;exact ⟨h4 i j s v hi e1 e2,h3 v (List.mem_of_getElem? e2)⟩
theorem range_map_get{st k:Nat}{c:Nat->Value}{v:Value}(h:((aY st).map c)[k]?=ay v):k<st/\c k=v:=by
 have hk:k<st:=by simpa using (aQ.1 h).1
 refine ⟨hk,?_⟩;simpa[List.getElem?_range hk] using h
theorem UU{l:List Sh}{st:Nat}{c:Nat->Value}(hl:l.length=st)(hr:∀(j:Nat) (s:Sh),l[j]?=ay s->Rep H s (c j))(h1:∀j,j<st->(c j).oneCell'=aF):
  AV H E (l.map Sh.Jw) ((aY st).map c):=by
 have key:∀(l:List Sh) (c:Nat->Value),(∀(j:Nat) (s:Sh),l[j]?=ay s->Rep H s (c j)/\(c j).oneCell'=aF)->AV H E (l.map Sh.Jw) ((aY l.length).map c):=by
  intro l;induction l with
  |nil=>intro c _;trivial |cons s l ih=>
   intro c h;rw[iT,List.range_succ_eq_map,jr,jr,List.map_map];exact ⟨XU (h 0 s rfl).1 (h 0 s rfl).2,ih (c ∘ Nat.succ) fun j s' e=>h (j+1) s' (by simpa using e)⟩
 rw[<-hl];exact key l c fun j s e=>⟨hr j s e,h1 j (by rw[<-hl];exact (aQ.1 e).1)⟩
theorem YX{c:Core}{agg:Bool}{size:Nat}{x sv:SV}{u:Value}(hx:Den H E x u)(hh:AZ K H E w c.hp)(hg:Dt C.gls H)(hsz:agg=aA->size=1)
  (h:aeJ C c agg size x=ay sv):∃(a:Addr) (cs:List Value),u=.pointer (ay a)/\cs.length=size/\Den H E sv (Nw agg cs)/\
   ∀w',UR H E c.hp w w'->H.on w'->∀(j:Nat) (v:Value),cs[j]?=ay v->w'.cell? (a.add j)=ay v:=by
 unfold aeJ at h;split at h
 ·
  rename_i id off;obtain ⟨b,hb,rfl⟩:=hx;split at h
  ·rename_i cells elem hl
   obtain ⟨b',cs,he,hw,hd,_⟩:=hh.ent _ _ hl;simp only[he,eP,AY,kU] at hb;subst hb;cases hs:seg cells off size with
   |none=>simp[hs] at h |some r=>
    simp only[hs,eP] at h;obtain ⟨hle,rfl⟩:=Ky hs;have hdl:=hd.length;refine ⟨_,(cs.toList.drop off).take size,rfl,by simp[cu,dS];simp at hdl;omega,Kz h ((hd.drop off).take size),?_⟩;intro w' ha _ j v hv;rw[bZ] at hv;split at hv
    ·rw[eH,dX] at hv
     have hk:=JB ha hl (b:=b') (by simp[Bv,he,AY]);simp[oK,eU,hk,hw,hv]
    ·cases hv
  ·rename_i cells elem st n hl
   obtain ⟨v',xs,he,ho,hd,_⟩:=hh.ent _ _ hl;cases hs:seg cells off size with
   |none=>simp[hs] at h |some r=>
    simp only[hs,eP] at h;obtain ⟨hle,rfl⟩:=Ky hs;have hdl:=hd.length;refine ⟨_,(xs.drop off).take size,rfl,by simp[cu,dS];omega,Kz h ((hd.drop off).take size),?_⟩;intro w' ha _ j v hv;rw[bZ] at hv;split at hv
    ·rw[eH] at hv
     obtain ⟨b',cur,hb',hw,hu⟩:=V8 ho hv;simp only[he,eP,hb',kU] at hb;subst hb;have hk:=JB ha hl (b:=b') (by simp[Bv,he,hb']);rw[dX] at hu;simp[oK,eU,hk,hw,hu]
    ·cases hv
  ·rename_i l hl
   obtain ⟨v',he,hr⟩:=hh.ent _ _ hl;cases hr with
   |pt _ b2 off2 c2 h1 h2 h3=>
    have h02:b2=b/\off2=0:=by
     rw[he] at hb;simp only[eP] at hb;unfold AY at hb;split at hb<;>simp_all
    obtain ⟨rfl,rfl⟩:=h02;cases hs:seg (l.map Sh.Jw) off size with
    |none=>simp[hs] at h |some r=>
     simp only[hs,eP] at h;obtain ⟨hle,rfl⟩:=Ky hs;rw[dQ] at hle;have hd:AV H E (l.map Sh.Jw) ((aY l.length).map c2):=UU rfl h3 h2;refine ⟨_,(((aY l.length).map c2).drop off).take size,rfl,by simp[cu,dS];omega,Kz h ((hd.drop off).take size),?_⟩;intro w' _ hon j v hv;rw[bZ] at hv;split at hv
     ·rw[eH] at hv
      obtain ⟨hk,rfl⟩:=range_map_get hv;have:=MR hon (h1 (off+j) hk);simpa[eU] using this
     ·cases hv
  ·cases h
 ·
  rename_i id st i off;obtain ⟨b,v',he,hb,hi,rfl⟩:=hx;split at h
  ·rename_i elem st' n g hl
   obtain ⟨v'',xs,he',ho,hr,_⟩:=hh.ent _ _ hl;rw[he] at he';cases he';have hn:lenV v'=n:=by
    rcases ho.2 with ⟨rfl,rfl⟩ |⟨_,_,_,rfl,_⟩<;>rfl
   rw[hn] at hi;cases hst:(st==st')<;>simp only[hst,cond_true,cond_false] at h
   ·cases h
   obtain rfl:st=st':=by simpa using hst
   cases hs:seg ((g i).map Sh.Jw) off size with
   |none=>simp[hs] at h |some r=>
    simp only[hs,eP] at h;obtain ⟨hle,rfl⟩:=Ky hs;have hd:=ac6 (E:=E) hr hi;have hdl:=hd.length;refine ⟨_,(((xs.drop (i*st)).take st).drop off).take size,rfl,by rw[cu,dS];omega,Kz h ((hd.drop off).take size),?_⟩;intro w' ha _ j v hv;rw[bZ] at hv;split at hv
    ·rw[eH,bZ] at hv
     split at hv
     ·rw[eH] at hv
      obtain ⟨b',cur,hb',hw,hu⟩:=V8 ho hv;rw[hb] at hb';cases hb';have hk:=JB ha hl (b:=b) (by simp[Bv,he,hb]);rw[dX] at hu;simp[oK,eU,hk,hw];rw[<-hu];congr 1;omega
     ·cases hv
    ·cases hv
  ·rename_i st' n g hl
   obtain ⟨v'',he',hr⟩:=hh.ent _ _ hl;rw[he] at he';cases he';cases hst:(st==st')<;>simp only[hst,cond_true,cond_false] at h
   ·cases h
   obtain rfl:st=st':=by simpa using hst
   cases hr with
   |sl0 _ _ A cap hc=>simp[lenV] at hi |sl _ _ _ b2 off2 cap c h1 h2 h3 h4 h5 h6=>
    simp only[lenV] at hi;have h02:b2=b/\off2=0:=by
     unfold AY at hb;split at hb<;>simp_all
    obtain ⟨rfl,rfl⟩:=h02;cases hs:seg ((g i).map Sh.Jw) off size with
    |none=>simp[hs] at h |some r=>
     simp only[hs,eP] at h;obtain ⟨hle,rfl⟩:=Ky hs;rw[dQ,h3 i hi] at hle;have hd:AV H E ((g i).map Sh.Jw) ((aY st).map (c i)):=UU (h3 i hi) (fun j s hs=>h6 i j s hi hs) (fun j hj=>h5 i j hi hj);refine ⟨_,(((aY st).map (c i)).drop off).take size,rfl,by simp[cu,dS];omega,Kz h ((hd.drop off).take size),?_⟩;intro w' _ hon j v hv;rw[bZ] at hv;split at hv
     ·rw[eH] at hv
      obtain ⟨hk,rfl⟩:=range_map_get hv;have:=MR hon (h4 i (off+j) hi hk);simpa[eU,jX] using this
     ·cases hv
  ·cases h
 ·
  rename_i st n g i off;obtain ⟨b,o,c,rfl,hi,hgl,hc,hr⟩:=hx;cases hs:seg ((g i).map Sh.Jw) off size with
  |none=>simp[hs] at h |some r=>
   simp only[hs,eP] at h;obtain ⟨hle,rfl⟩:=Ky hs;rw[dQ,hgl] at hle;have hd:AV H E ((g i).map Sh.Jw) ((aY st).map c):=UU hgl hr (fun j hj=>(hc j hj).2);refine ⟨_,(((aY st).map c).drop off).take size,rfl,by simp[cu,dS];omega,Kz h ((hd.drop off).take size),?_⟩;intro w' _ hon j v hv;rw[bZ] at hv;split at hv
   ·rw[eH] at hv
    obtain ⟨hk,rfl⟩:=range_map_get hv;have:=MR hon (hc (off+j) hk).1;simpa[eU,jX] using this
   ·cases hv
 ·rename_i g
  obtain rfl:u=_:=hx;cases agg<;>simp only[cond_true,cond_false] at h
  ·cases hl:AA C.gls g with
   |none=>simp[hl] at h |some s=>
    have hgl:=hg.at_ g s hl;have h:s.Jw=sv/\∃v,hcell H g 0=ay v/\Rep H s v/\v.oneCell'=aF:=by
     cases s<;>simp[hl] at h<;>exact ⟨h,hgl⟩
    obtain ⟨rfl,v,h1,h2,h3⟩:=h;refine ⟨_,[v],rfl,(hsz rfl).symm,XU h2 h3,?_⟩;intro w' _ hon j v' hv;match j,hv with
    |0,hv=>
     simp at hv;subst hv;simpa[wV] using MR hon h1
  ·cases h
 ·cases h
end
structure RN(P:Program)(t:Nat):Prop where
 und:∃fs,P.underlying t=ay (.struct fs)
 chk:∀(em:Bool) (n:Ea) (w:World),(Instr.checkKey em 10000 t (Dz n)).run P w=.ok () w
 eq:∀(n m:Ea) (w:World),(Op.equal t (Dz n) (Dz m)).run P w=.ok (decide (n=m)) w
structure BL(P:Program)(C:Ctx):Prop where
 ty:∀t i,C.tys.get t=ay i->Oe P t i
 fn:∀g fn,C.fns.get g=ay fn->P.funcs[g]?=ay fn
 A:C.A=Aw
 mixed:P.follows .mixedOrders=aF
 eqs:∀t i,C.eqs.contains t=aF->C.tys.get t=ay i->∀(xs ys:List Cq) (w:World),Dw xs i.zero=aF->Dw ys i.zero=aF->∀x y:Operand,
  (do eqGuard .eql t x y (.agg (xs.map Cq.v).toArray) (.agg (ys.map Cq.v).toArray);binOp .eql t (.agg (xs.map Cq.v).toArray) (.agg (ys.map Cq.v).toArray):Sem Value).run P w=.ok (.bool (decide (xs=ys))) w/\
  (do eqGuard .neq t x y (.agg (xs.map Cq.v).toArray) (.agg (ys.map Cq.v).toArray);binOp .neq t (.agg (xs.map Cq.v).toArray) (.agg (ys.map Cq.v).toArray):Sem Value).run P w=.ok (.bool (!decide (xs=ys))) w
 VQ:∀T,C.VQ.contains T=aF->∃inf e ie,P.info? T=ay inf/\inf.comparable=aF/\P.underlying T=ay (.pointer e)/\P.info? e=ay ie/\ie.size≠0
 pks:∀t,C.pks.contains t=aF->RN P t
section
variable{P:Program}{C:Ctx}{K:Kx}{H:Mem}{E:Env}{w:World}
def V9(P:Program)(H:Mem)(E:Env)(w:World)(c:Core)(a:Act)(o:Oper)(φ:SV×Core->Prop):Prop:=
 ∃(p:SV×Core) (v:Value),φ p/\p.2=c/\Den H E p.1 v/\∀w',UR H E c.hp w w'->H.on w'->(execOp a.eval o).run P w'=.ok (.value v) w'
def QP(P:Program)(H:Mem)(E:Env)(c:Core)(a:Act)(o:Oper)(φ:SV×Core->Prop):Prop:=
 ∃(p:SV×Core) (v:Value),φ p/\p.2=c/\Den H E p.1 v/\∀w',(execOp a.eval o).run P w'=.ok (.value v) w'
theorem QP.q{c:Core}{a:Act}{o:Oper}{φ:SV×Core->Prop}(h:QP P H E c a o φ):V9 P H E w c a o φ:=
 let ⟨p,v,h1,h2,h3,h4⟩:=h;⟨p,v,h1,h2,h3,fun w' _ _=>h4 w'⟩
theorem IU{c:Core}{x:Option SV}{φ:SV×Core->Prop}(h:(Mc c x).All φ):∃v,x=ay v/\φ (v,c):=by
 cases x with
 |none=>exact h.elim |some v=>exact ⟨v,rfl,h⟩
theorem aak{c:Core}{a:Act}{o:Oper}{x:Operand}{φ:SV×Core->Prop}(ho:o.op=.move x\/o.op=.assign x)(hd:AV H E c.tm a.tmps.toList)
  (h:(ret c (BP c.tm x)).All φ):QP P H E c a o φ:=by
 refine ⟨_,a.eval x,h,rfl,BJ hd x,fun w'=>?_⟩;rcases ho with ho|ho<;>simp[execOp,ho]
theorem Wh{x:SV}{b:Bool}{u:Value}(h:aaf x=ay b)(hd:Den H E x u):u=.bool b:=by
 cases x<;>simp[aaf] at h
 all_goals (subst h;exact hd)
theorem akB{c:Core}{a:Act}{o:Oper}{x y z:Operand}{φ:SV×Core->Prop}(hA:C.A=Aw)(ho:o.op=.pick x y z)(hd:AV H E c.tm a.tmps.toList)
  (h:(Mc c (aiC C.A (BP c.tm x) (BP c.tm y) (BP c.tm z))).All φ):QP P H E c a o φ:=by
 obtain ⟨v,hv,hφ⟩:=IU h;have dx:=BJ (H:=H) (E:=E) hd x;have dy:=BJ (H:=H) (E:=E) hd y;have dz:=BJ (H:=H) (E:=E) hd z;unfold aiC at hv;split at hv
 ·rename_i hx
  rw[hx] at dx;cases hv;refine ⟨_,a.eval y,hφ,rfl,dy,fun w'=>?_⟩;simp only[Den] at dx;simp[execOp,ho,dx,asBool]
 ·rename_i hx
  rw[hx] at dx;cases hv;refine ⟨_,a.eval z,hφ,rfl,dz,fun w'=>?_⟩;simp only[Den] at dx;simp[execOp,ho,dx,asBool]
 ·rename_i b hx
  rw[hx] at dx;simp only[Den] at dx;split at hv
  ·rename_i p q hp hq
   cases hv;have ep:=Wh hp dy;have eq:=Wh hq dz;refine ⟨_,.bool (bif b then p else q),hφ,rfl,?_,fun w'=>?_⟩
   ·rw[hA];rfl
   ·cases b<;>simp[execOp,ho,dx,asBool,ep,eq]
  ·cases hv
 ·cases hv
theorem anj{c:Core}{a:Act}{o:Oper}{t:Nat}{x:Operand}{φ:SV×Core->Prop}(hA:C.A=Aw)(ho:o.op=.unOp .not t x)(hd:AV H E c.tm a.tmps.toList)
  (h:(Mc c (notS C.A (BP c.tm x))).All φ):QP P H E c a o φ:=by
 obtain ⟨v,hv,hφ⟩:=IU h;have dx:=BJ (H:=H) (E:=E) hd x;unfold notS at hv;split at hv<;>cases hv
 all_goals
  rename_i b hx;rw[hx] at dx;simp only[Den] at dx;refine ⟨_,.bool (!b),hφ,rfl,?_,fun w'=>by simp[execOp,ho,dx,Op.unary]⟩
 ·rfl
 ·rw[hA];rfl
theorem ank{c:Core}{a:Act}{o:Oper}{t:Nat}{x:Operand}{φ:SV×Core->Prop}(hA:C.A=Aw)(ho:o.op=.unOp .neg t x)(hd:AV H E c.tm a.tmps.toList)
  (h:(Mc c (negS C.A (BP c.tm x))).All φ):QP P H E c a o φ:=by
 obtain ⟨v,hv,hφ⟩:=IU h;have dx:=BJ (H:=H) (E:=E) hd x;unfold negS at hv;split at hv<;>cases hv
 all_goals
  rename_i k n hx;rw[hx] at dx;simp only[Den] at dx;refine ⟨_,.int k (k.wrap (0 - n)),hφ,rfl,?_,fun w'=>by simp[execOp,ho,dx,Op.unary,Op.intArith]⟩
 ·rfl
 ·rw[hA];rfl
theorem aaJ{c:Core}{a:Act}{o:Oper}{x:Operand}{i:Nat}{φ:SV×Core->Prop}(ho:o.op=.extract x i)(hd:AV H E c.tm a.tmps.toList)
  (h:(Qe c (BP c.tm x) i).All φ):QP P H E c a o φ:=by
 have dx:=BJ (H:=H) (E:=E) hd x;unfold Qe at h;split at h
 ·rename_i l hx
  obtain ⟨v,hv,hφ⟩:=IU h;rw[hx] at dx;obtain ⟨vs,he,hl⟩:=dx;obtain ⟨u,hu,hdu⟩:=hl.get hv;refine ⟨_,u,hφ,rfl,hdu,fun w'=>?_⟩;rw[dX] at hu;simp[execOp,ho,he,Instr.extract,hu]
 ·exact h.elim
theorem YZ{c:Core}{a:Act}{o:Oper}{f:Nat}{fs cs:Array Operand}{φ:SV×Core->Prop}(ho:o.op=.makeFunc (.func f) fs cs)(hd:AV H E c.tm a.tmps.toList)
  (h:(bif fs.size==0 then ret c (.fn f (cs.toList.map (BP c.tm))) else .fail).All φ):QP P H E c a o φ:=by
 cases hf:(fs.size==0)<;>simp only[hf,cond_true,cond_false] at h
 ·exact h.elim
 have hf:fs=#[]:=by simpa using hf
 subst hf;have key:∀l:List Operand,AV H E (l.map (BP c.tm)) (l.map a.eval):=by
  intro l;induction l with
  |nil=>trivial |cons x l ih=>exact ⟨BJ hd x,ih⟩
 refine ⟨_,.func (.func f) #[] (cs.map a.eval),h,rfl,⟨cs.map a.eval,rfl,by simpa using key cs.toList⟩,fun w'=>?_⟩;simp[execOp,ho,Instr.makeFunc]
theorem anl{c:Core}{a:Act}{o:Oper}{x:Operand}{φ:SV×Core->Prop}(ho:o.op=.nilCheck x)(hd:AV H E c.tm a.tmps.toList)
  (h:(aaD c (BP c.tm x)).All φ):QP P H E c a o φ:=by
 have dx:=BJ (H:=H) (E:=E) hd x;unfold aaD at h;split at h
 ·rename_i i off hx
  rw[hx] at dx;have dx':=dx;obtain ⟨b,_,he⟩:=dx;exact ⟨_,a.eval x,h,rfl,dx',fun w'=>by simp[execOp,ho,he]⟩
 ·rename_i i st j off hx
  rw[hx] at dx;have dx':=dx;obtain ⟨b,_,_,_,_,he⟩:=dx;exact ⟨_,a.eval x,h,rfl,dx',fun w'=>by simp[execOp,ho,he]⟩
 ·rename_i st n g i off hx
  rw[hx] at dx;have dx':=dx;obtain ⟨b,_,_,he,_⟩:=dx;exact ⟨_,a.eval x,h,rfl,dx',fun w'=>by simp[execOp,ho,he]⟩
 ·rename_i f l hx
  rw[hx] at dx;have dx':=dx;obtain ⟨vs,he,_⟩:=dx;exact ⟨_,a.eval x,h,rfl,dx',fun w'=>by simp[execOp,ho,he]⟩
 ·exact h.elim
theorem arp{c:Core}{a:Act}{o:Oper}{t:Nat}{x:Operand}{φ:SV×Core->Prop}(hC:BL P C)(ho:o.op=.load t x)(hd:AV H E c.tm a.tmps.toList)
  (hh:AZ K H E w c.hp) (hg:Dt C.gls H) (h:(XL C c t (BP c.tm x)).All φ):V9 P H E w c a o φ:=by
 have dx:=BJ (H:=H) (E:=E) hd x;unfold XL at h;split at h
 ·rename_i i hi
  have ht:=hC.ty _ _ hi;obtain ⟨sv,hs,hφ⟩:=IU h;obtain ⟨ad,cs,he,hl,hden,hc⟩:=YX dx hh hg (fun e=>by obtain ⟨_,_,_,_,_,_,_,_,_,h1⟩:=ht.info;exact (h1 e).1) hs;refine ⟨_,_,hφ,rfl,hden,fun w' ha hon=>?_⟩;have:=adG (w:=w') ht hl (hc w' ha hon);simp[execOp,ho,Instr.loadAt,he,mG,this,Nw]
 ·exact h.elim
theorem aaK{fields:Array Field}{fs:List (Nat×Nat×Bool)}(hf:adF P fields fs){j off size:Nat}{agg:Bool}(h:fs[j]?=ay (off,size,agg)):
  ∃(f:Field) (inf:TypeInfo),fields[j]?=ay f/\f.offset=off/\P.info? f.type=ay inf/\inf.size=size/\(P.underlying f.type).isSome=aF/\
   (match P.underlying f.type with|some (.struct _) |some (.array _ _)=>aF|_=>aA)=agg:=by
 obtain ⟨h1,h2⟩:=hf;have hj:j<fields.size:=by rw[h1];exact (aQ.1 h).1
 have hfj:fields[j]?=ay fields[j]:=Array.getElem?_eq_getElem hj;obtain ⟨inf,hi,he,hs⟩:=h2 j _ hfj;rw[h] at he;simp only[kU,Prod.mk.injEq] at he;exact ⟨_,inf,hfj,he.1.symm,hi,he.2.1.symm,hs,he.2.2.symm⟩
theorem Fv{n m:Nat}(h:fZ n m=aF):n<m:=fP h
theorem ZV{f:Field}{inf:TypeInfo}(hi:P.info? f.type=ay inf)(hs:0<inf.size)(a:Addr)(w:World):(fieldPlace a f).run P w=.ok (a.add f.offset) w:=by
 unfold fieldPlace;simp[sizeOf,typeInfo,hi,Nat.ne_of_gt hs]
theorem Wi{c:Core}{a:Act}{o:Oper}{t f:Nat}{x:Operand}{φ:SV×Core->Prop}(hC:BL P C)(ho:o.op=.fieldAddr t x f)(hd:AV H E c.tm a.tmps.toList)
  (h:(Nl C c t f (BP c.tm x)).All φ):QP P H E c a o φ:=by
 have dx:=BJ (H:=H) (E:=E) hd x;unfold Nl at h;split at h
 ·rename_i i hi
  have ht:=(hC.ty _ _ hi).desc;split at h
  ·rename_i fs hty
   rw[hty] at ht;obtain ⟨fields,hu,hf⟩:=ht;split at h
   ·rename_i off size agg hfs
    cases hb:fZ 0 size<;>simp only[hb,cond_true,cond_false] at h
    ·exact h.elim
    obtain ⟨fd,inf,h1,rfl,h2,h3,_⟩:=aaK hf hfs;have hp:=fun (ad:Addr) (w':World)=>ZV (P:=P) h2 (by rw[h3];exact Fv hb) ad w';split at h
    ·rename_i id off2 hx
     rw[hx] at dx;obtain ⟨b,h4,he⟩:=dx;refine ⟨_,.pointer (ay ⟨b,off2+fd.offset,aN⟩),h,rfl,⟨b,h4,rfl⟩,fun w'=>?_⟩;simp[execOp,ho,qw,run_underlying hu,h1,he,mG,hp,eU]
    ·rename_i id st j off2 hx
     rw[hx] at dx;obtain ⟨b,v,h4,h5,h6,he⟩:=dx;refine ⟨_,.pointer (ay ⟨b,j*st+off2+fd.offset,aN⟩),h,rfl,⟨b,v,h4,h5,h6,by rw[jX]⟩,fun w'=>?_⟩;simp[execOp,ho,qw,run_underlying hu,h1,he,mG,hp,eU]
    ·rename_i st n g j off2 hx
     rw[hx] at dx;obtain ⟨b,o2,cc,he,h4⟩:=dx;refine ⟨_,.pointer (ay ⟨b,o2+off2+fd.offset,aN⟩),h,rfl,⟨b,o2,cc,by rw[jX],h4⟩,fun w'=>?_⟩;simp[execOp,ho,qw,run_underlying hu,h1,he,mG,hp,eU]
    ·exact h.elim
   ·exact h.elim
  ·exact h.elim
 ·exact h.elim
theorem alH{ty:Nat}{inf:TypeInfo}{agg:Bool}(hi:P.info? ty=ay inf)(hs:(P.underlying ty).isSome=aF)
  (ha:(match P.underlying ty with|some (.struct _) |some (.array _ _)=>aF|_=>aA)=agg) {cs:List Value} {off:Nat} (hl:off+inf.size<=cs.length) (h1:agg=aA->inf.size=1) (w:World) :
  (part ty cs.toArray off).run P w=.ok (Nw agg ((cs.drop off).take inf.size)) w:=by
 cases hu:P.underlying ty with
 |none=>simp[hu] at hs |some d=>
  rw[hu] at ha;have hag:(isAgg ty).run P w=.ok agg w:=by
   unfold isAgg;simp only[gK,run_underlying hu,fV];cases d<;>simp_all
  unfold part;simp only[gK,hag,fV];cases agg
  ·have h1:=h1 rfl
   have hlt:off<cs.length:=by omega
   rw[h1];have:(cs.drop off).take 1=[cs[off]]:=by rw[List.drop_eq_getElem_cons hlt];rfl
   simp[this,Nw,hlt]
  ·simp[sizeOf,typeInfo,hi,Nw,List.extract_eq_take_drop]
theorem af7{c:Core}{a:Act}{o:Oper}{t f:Nat}{x:Operand}{φ:SV×Core->Prop}(hC:BL P C)(ho:o.op=.field t x f)(hd:AV H E c.tm a.tmps.toList)
  (h:(UN C c t f (BP c.tm x)).All φ):QP P H E c a o φ:=by
 have dx:=BJ (H:=H) (E:=E) hd x;unfold UN at h;split at h
 ·rename_i i hi
  have ht:=(hC.ty _ _ hi).desc;split at h
  ·rename_i fs l hty hx
   rw[hty] at ht;obtain ⟨fields,hu,hf⟩:=ht;rw[hx] at dx;obtain ⟨vs,he,hl⟩:=dx;split at h
   ·rename_i off size agg hfs
    obtain ⟨sv,hs,hφ⟩:=IU h;obtain ⟨fd,inf,h1,rfl,h2,h3,h4,h5⟩:=aaK hf hfs;subst h3;cases hsg:seg l fd.offset inf.size with
    |none=>simp[hsg] at hs |some r=>
     simp only[hsg,eP] at hs;obtain ⟨hle,rfl⟩:=Ky hsg;have hlen:=hl.length;refine ⟨_,Nw agg ((vs.toList.drop fd.offset).take inf.size),hφ,rfl,Kz hs ((hl.drop _).take _),fun w'=>?_⟩;have hp:=alH (P:=P) h2 h4 h5 (cs:=vs.toList) (off:=fd.offset) (by rw[hlen];exact hle) (fun e=>by
      subst e;rcases Nv hs with ⟨e,_⟩ |⟨_,e⟩
      ·cases e
      ·have:=congrArg List.length e
       simp[cu,dS] at this;omega) w'
     simp[execOp,ho,Instr.field,run_underlying hu,h1,he,asAgg] at hp ⊢;simp[hp]
   ·exact h.elim
  ·exact h.elim
 ·exact h.elim
end
end Go.Sx
