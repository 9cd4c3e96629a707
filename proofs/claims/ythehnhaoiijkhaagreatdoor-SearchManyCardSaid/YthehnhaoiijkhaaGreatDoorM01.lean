/- Own work. -/
import Derived.OrdersHeld
import Derived.Calls
import Derived.Laws.AppendOwn
import Derived.Laws.OwnMore
import Derived.Below
import Derived.WalkKit
open Int (ofNat)
open Array renaming getD_eq_getD_getElem?->iJ,getElem?_toList->dV,length_toList->bU
open BEq renaming beq->qP
open BitVec renaming ofInt->fZ
open Bool renaming true->aC,false->ak
open Go.Addr renaming add_zero'->wC,add_lit->eX
open Go.Instr renaming sureAddr->lW,fieldAt->pO
open Go.Region renaming binds->jE,ready->kF,free->kS
open Go.Result renaming andThen_ok->fU
open Go.Sem renaming run_bind->gG
open Go.Value renaming oneCell'->jQ
open Go.World renaming cell?->nZ
open List renaming all_cons->kZ,range'->kU,mem_range'_1->kV,getD_eq_getElem?_getD->aY,getD_cons_zero->rW,getD_cons_succ->rX,filter_cons->nY,map_cons->jk,filter_congr->tV,getElem?_cons_succ->jJ,length_cons->iP,range'_succ->uJ,getElem?_cons_zero->jK,range_eq_range'->qZ,replicate->dR,range->aX,getElem?_eq_some_iff->aU,getElem?_eq_getElem->aV,getElem?_take->bY,length_take->bZ,length_drop->dQ,getElem?_drop->eH,length_map->dY
open Nat renaming beq->fB,blt->fV,ble_eq_true_of_le->qY,ble->gV,add_zero->jv,sub_self->qw,zero_add->gJ,sub_zero->tX,le_of_ble_eq_true->fM,add_assoc->jR
open Option renaming none->aK,some->ay,bind_some->eU
open Option.some renaming injEq->kL
namespace Go.Sx
instance (priority:=high)Vf:BEq Nat:=⟨fB⟩
instance (priority:=high)ahL:LawfulBEq Nat where
 eq_of_beq h:=Nat.eq_of_beq_eq_true h
 rfl:=Nat.beq_refl _
inductive BT(α:Type)where
 |nil
 |node (l:BT α) (k:Nat) (v:α) (r:BT α)
def BT.get{α:Type}:BT α->Nat->Option α
 | .nil,_=>aK | .node l k v r,i=>bif fV i k then l.get i else bif fV k i then r.get i else ay v
def BT.All{α:Type}(φ:Nat->α->Prop):BT α->Prop
 | .nil=>True | .node l k v r=>φ k v/\l.All φ/\r.All φ
def BT.allB{α:Type}(f:Nat->α->Bool):BT α->Bool
 | .nil=>aC | .node l k v r=>f k v&&l.allB f&&r.allB f
theorem BT.All.get{α:Type}{φ:Nat->α->Prop}:∀{t:BT α} {i:Nat} {v:α},t.All φ->t.get i=ay v->φ i v
 | .nil,_,_,_,h=>by cases h | .node l k v r,i,v',h,hg=>by
  simp only[BT.get] at hg;cases h1:fV i k<;>simp only[h1,cond_true,cond_false] at hg
  ·cases h2:fV k i<;>simp only[h2,cond_true,cond_false] at hg
   ·cases hg
    have a1:¬i<k:=fun h=>by have:fV i k=aC:=qY h;rw[this] at h1;cases h1
    have a2:¬k<i:=fun h=>by have:fV k i=aC:=qY h;rw[this] at h2;cases h2
    obtain rfl:k=i:=by omega
    exact h.1
   ·exact BT.All.get h.2.2 hg
  ·exact BT.All.get h.2.1 hg
theorem BT.SI{α:Type}{f:Nat->α->Bool}:∀{t:BT α},t.allB f=aC->t.All fun k v=>f k v=aC
 | .nil,_=>trivial | .node l k v r,h=>by
  simp only[BT.allB,Bool.and_eq_true] at h;exact ⟨h.1.1,BT.SI h.1.2,BT.SI h.2⟩
inductive Sh where
 |i (k:IntKind) (n:Int)
 |b (x:Bool)
 |str (l:List UInt8)
 |v (x:Value)
 |sl (st n:Nat) (get:Nat->List Sh)
 |os (e st n:Nat) (get:Nat->List Sh)
 |agg (l:List Sh)
 |Aj (l:List Sh)
 |CG (t:Nat) (x:Sh)
 |fn (f:Nat) (caps:List Sh)
 |er (g T:Nat)
 |pt (l:List Sh)
 deriving Inhabited
inductive SV where
 |any
 |val (v:Value)
 |int (k:IntKind) (n:Int)
 |sym (k:IntKind) (n:Int)
 |bool (b:Bool)
 |test (b:Bool)
 |str (l:List UInt8)
 |ptr (id off:Nat)
 |gs (id:Nat)
 |gp (id st i off:Nat)
 |EJ|Aw|F7|DK|Fp
 |fn (f:Nat) (cap:List SV)
 |agg (l:List SV)
 |Aj (l:List SV)
 |CG (t:Nat) (x:SV)
 |mp (id:Nat)
 |sh (s:Sh)
 |Gl (st n:Nat) (get:Nat->List Sh) (i off:Nat)
 |glob (g:Nat)
 |ev (id:Nat)
 |vw (id n:Nat)
 deriving Inhabited
inductive VT where
 |int|bool
 deriving DecidableEq,Inhabited
inductive SB where
 |box (cells:List SV) (elem:Nat)
 |row (cells:List SV) (elem st n:Nat)
 |own (elem st n:Nat) (get:Nat->List Sh)
 |fz (st n:Nat) (get:Nat->List Sh)
 |map (es:List (SV×SV))
 |QI (l:List Sh)
 |Gx (elem st n:Nat) (get:Nat->List Sh) (more:List SV)
 |fm (k:IntKind) (M:Int->Option Value) (fs us:List (Int×Bool×SV)) (tag:Option (Nat×Int))
 |buf (e:Nat) (l:List UInt8)
 |pm (vt:VT) (M:Int×List UInt8->Option Value) (us:List ((Int×List UInt8)×Bool×SV))
inductive Ty where
 |int (k:IntKind) |bool|str|ptr (e:Nat) |fn|iface
 |map (k e:Nat)
 |slice (e:Nat)
 |struct (fs:List (Nat×Nat×Bool))
 |arr (n e:Nat)
 |other
structure JI where
 ty:Ty
 size:Nat
 bytes:Nat
 zero:List SV
structure Prim where
 add:IntKind->Int->Int->Int
 sub:IntKind->Int->Int->Int
 mul:IntKind->Int->Int->Int
 neg:IntKind->Int->Int
 lt:Int->Int->Bool
 le:Int->Int->Bool
 eq:Int->Int->Bool
 max:Int->Int->Int
 min:Int->Int->Int
 inB:Int->Nat->Bool
 upTo:Int->Nat->Bool
 toN:Int->Nat
 Az:Nat->Int
 addN:Nat->Nat->Nat
 Jm:Nat->Nat->Nat
 ZU:Nat->Nat->Bool
 room:Nat->Nat->Bool
 len:List UInt8->Nat
 nt:Bool->Bool
 ite:Bool->Bool->Bool->Bool
 beq:Bool->Bool->Bool
 seq:List UInt8->List UInt8->Bool
 app:List UInt8->List UInt8->List UInt8
 snoc:(Nat->List Sh)->Nat->(Nat->List Sh)->Nat->List Sh
 upd:(Nat->List Sh)->Nat->Nat->List Sh->Nat->List Sh
 bin:BinOp->IntKind->Int->Int->Int
 conv:IntKind->Int->Int
 ins:(Nat->List Sh)->Nat->List Sh->Nat->List Sh
 kp:Int->List UInt8->Int->List UInt8->Bool
 isS:Option Value->Bool
 arL:Option Value->Int
 G5:Option Value->Bool
inductive Bh where
 |int (a b:Int)
 |nat (a b:Nat)
 |bool (a b:Bool)
 |str (a b:List UInt8)
 |val (a b:Value)
 |sh (a b:Sh)
 |get (n:Nat) (g g':Nat->List Sh)
 |Le (g g':Nat->List Sh)
 |mp (M M':Int->Option Value)
 |mg (M M':Int×List UInt8->Option Value)
def Bh.ok:Bh->Prop
 | .int a b=>a=b | .nat a b=>a=b | .bool a b=>a=b | .str a b=>a=b | .val a b=>a=b | .sh a b=>a=b | .get n g g'=>∀i,i<n->g i=g' i | .Le g g'=>g=g' | .mp M M'=>M=M' | .mg M M'=>M=M'
def Bh.all:List Bh->Prop
 |[]=>True |e::l=>e.ok/\Bh.all l
inductive Tree(α:Type)where
 |leaf (a:α)
 |node (b:Bool) (t f:Tree α)
 |need (b:Bool) (t:Tree α)
 |must (l:List Bh) (t:Tree α)
 |both (t f:Tree α)
 |fail
def Tree.bind{α β:Type}:Tree α->(α->Tree β)->Tree β
 | .leaf a,k=>k a | .node b t f,k=>.node b (t.bind k) (f.bind k) | .need b t,k=>.need b (t.bind k) | .must l t,k=>.must l (t.bind k) | .both t f,k=>.both (t.bind k) (f.bind k) | .fail,_=>.fail
def Tree.All{α:Type}(φ:α->Prop):Tree α->Prop
 | .leaf a=>φ a | .node b t f=>(b=aC->t.All φ)/\(b=ak->f.All φ) | .need b t=>b=aC/\t.All φ | .must l t=>Bh.all l/\t.All φ | .both t f=>t.All φ/\f.All φ | .fail=>False
def Tree.lone{α:Type}:Tree α->Bool
 | .both _ _=>ak | .node _ t f=>t.lone&&f.lone | .need _ t=>t.lone | .must _ t=>t.lone |_=>aC
structure Ctx where
 A:Prim
 tys:BT JI
 fns:BT Func
 spec:Nat->Option (List Sh->Tree Sh)
 eqs:List Nat
 Vg:List Nat
 LU:Nat->List Nat->Bool
 gls:List (Nat×Sh)
 live:BT Nat
 ami:Nat->Option (IntKind×List Int):=fun _=>aK
 lits:Bool:=ak
 ins:Nat->Option Nat:=fun _=>aK
 lend:Nat->Bool:=fun _=>ak
 grow:Nat->Option Nat:=fun _=>aK
 ZV:List Nat:=[]
 ad2:Nat->Option VT:=fun _=>aK
def zX{α:Type}:List (Nat×α)->Nat->Option α
 |[],_=>aK |(j,x)::l,i=>bif j==i then ay x else zX l i
def hset{α:Type}:List (Nat×α)->Nat->α->List (Nat×α)
 |[],_,_=>[] |(j,x)::l,i,y=>bif j==i then (j,y)::l else (j,x)::hset l i y
def hdel{α:Type}:List (Nat×α)->Nat->List (Nat×α)
 |[],_=>[] |(j,x)::l,i=>bif j==i then hdel l i else (j,x)::hdel l i
def hins{α:Type}:List (Nat×α)->Nat->α->List (Nat×α)
 |[],i,y=>[(i,y)] |(j,x)::l,i,y=>bif fV j i then (j,x)::hins l i y else (i,y)::(j,x)::l
structure Core where
 tm:List SV
 hp:List (Nat×SB)
 nx:Nat
 lim:Nat
 tc:List Nat
def SV.ofValue:Value->SV
 | .int k n=>.int k n | .bool b=>.bool b | .pointer aK=>.EJ | .slice aK 0 0=>.Aw | .nilFunc=>.F7 | .nilIface=>.DK | .map aK=>.Fp | .string s=>.str s.data.toList | .chan aK=>.val (.chan aK) |_=>.any
def SV.lit:Value->SV
 | .int k n=>.int k n | .nilIface=>.DK | .bool b=>.bool b |x=>.val x
mutual
def Xh:Sh->SV
 | .agg l=>.agg (Qz l) | .Aj l=>.Aj (Qz l) | .fn f l=>.fn f (Qz l) | .i k n=>.sym k n | .b x=>.test x | .v x=>SV.lit x | .pt l=>.Gl l.length 1 (fun _=>l) 0 0 |s=>.sh s
def Qz:List Sh->List SV
 |[]=>[] |x::r=>Xh x::Qz r
end
def Sh.I8:Sh->SV
 | .fn f l=>.fn f (Qz l) | .i k n=>.sym k n | .b x=>.test x | .v x=>SV.lit x | .pt l=>.Gl l.length 1 (fun _=>l) 0 0 |s=>.sh s
def Bd(tm:List SV):Operand->SV
 | .tmp t=>tm.getD t .any | .const v=>.ofValue v | .global g=>.glob g | .func f=>.fn f []
def SV.cells:SV->List SV
 | .agg l=>l |x=>[x]
def setAt(l:List SV)(off:Nat):List SV->List SV
 |[]=>l |x::r=>setAt (l.set off x) (off+1) r
def Ty.isAgg:Ty->Bool
 | .struct _=>aC | .arr _ _=>aC |_=>ak
def pack(agg:Bool)(l:List SV):Option SV:=
 bif agg then ay (.agg l) else match l with
  |[x]=>ay x |_=>aK
def seg(l:List SV)(off n:Nat):Option (List SV):=
 bif gV (off+n) l.length then ay ((l.drop off).take n) else aK
def SV.Zi:SV->Bool
 | .any=>ak | .ev _=>ak | .sh (.agg _)=>ak |_=>aC
def Pq(place:Nat->Option (Nat×Nat))(ev:Operand->SV):List SV->List (Nat×Operand)->Option (List SV)
 |z,[]=>ay z |z,(i,x)::r=>match place i with
  |some (off,size)=>bif (ev x).Zi&&(ev x).cells.length==size&&gV (off+size) z.length then Pq place ev (setAt z off (ev x).cells) r else aK |none=>aK
def rep(l:List SV):Nat->List SV
 |0=>[] |n+1=>l++rep l n
def chunks(st:Nat):Nat->List Sh->List (List Sh)
 |0,_=>[] |n+1,l=>l.take st::chunks st n (l.drop st)
def AQ(ll:List (List Sh))(i:Nat):List Sh:=ll.getD i []
def SV.one:SV->Bool
 | .any| .agg _| .Aj _| .ev _=>ak | .sh (.agg _) | .sh (.Aj _)=>ak |_=>aC
def E8:List SV->Bool
 |[]=>aC |x::r=>x.one&&E8 r
mutual
def DL(hp:List (Nat×SB)):SV->Option Sh
 | .int k n=>ay (.i k n) | .sym k n=>ay (.i k n) | .bool x=>ay (.b x) | .test x=>ay (.b x) | .str l=>ay (.str l) | .val v=>ay (.v v) | .EJ=>ay (.v (.pointer aK)) | .F7=>ay (.v .nilFunc) | .DK=>ay (.v .nilIface) | .Aw=>ay (.sl 0 0 fun _=>[]) | .sh s=>ay s | .agg l=>(H8 hp l).map .agg | .Aj l=>(H8 hp l).map .Aj | .fn f l=>(H8 hp l).map (.fn f) | .CG t x=>(DL hp x).map (.CG t) | .gs id=>match zX hp id with
  |some (.fz st m g)=>ay (.sl st m g) |_=>aK
 | .ptr id off=>match zX hp id with
  |some (.QI l)=>bif off==0 then ay (.pt l) else aK |_=>aK
 | .Gl st _ g i off=>bif off==0&&(g i).length==st then ay (.pt (g i)) else aK |_=>aK
def H8(hp:List (Nat×SB)):List SV->Option (List Sh)
 |[]=>ay [] |x::r=>match DL hp x,H8 hp r with
  |some s,ay l=>ay (s::l) |_,_=>aK
end
mutual
def ahM:SV->List Nat
 | .gs id=>[id] | .ptr id _=>[id] | .agg l=>Jo l | .Aj l=>Jo l | .fn _ l=>Jo l | .CG _ x=>ahM x |_=>[]
def Jo:List SV->List Nat
 |[]=>[] |x::r=>ahM x++Jo r
end
def EU:Nat->List (Nat×SB)->List Nat->Option (List (Nat×SB))
 |_,hp,[]=>ay hp |0,_,_=>aK |m+1,hp,id::r=>match zX hp id with
  |some (.fz _ _ _)=>EU m hp r |some (.QI _)=>EU m hp r |some (.own _ st n g)=>EU m (hset hp id (.fz st n g)) r |some (.row cells _ st n)=>match H8 hp cells with
   |some l=>bif E8 cells then EU m (hset hp id (.fz st n (AQ (chunks st n l)))) r else aK |none=>EU m hp (Jo cells++id::r)
  |some (.box cells _)=>match H8 hp cells with
   |some l=>bif E8 cells then EU m (hset hp id (.QI l)) r else aK |none=>EU m hp (Jo cells++id::r)
  |_=>aK
def freeze(hp:List (Nat×SB))(ids:List Nat):Option (List (Nat×SB)):=EU 40 hp ids
mutual
def CB:Sh->Nat->SV×List (Nat×SB)×Nat
 | .os e st n g,b=>(.gs b,[(b,.own e st n g)],b+1) | .agg l,b=>let r:=Ej l b;(.agg r.1,r.2) | .Aj l,b=>let r:=Ej l b;(.Aj r.1,r.2) | .i k n,b=>(.sym k n,[],b) | .b x,b=>(.test x,[],b) | .v x,b=>(SV.lit x,[],b) | .fn f l,b=>(.fn f (Qz l),[],b) | .pt l,b=>(.Gl l.length 1 (fun _=>l) 0 0,[],b) |s,b=>(.sh s,[],b)
def Ej:List Sh->Nat->List SV×List (Nat×SB)×Nat
 |[],b=>([],[],b) |x::r,b=>let p:=CB x b;let q:=Ej r p.2.2;(p.1::q.1,p.2.1++q.2.1,q.2.2)
end
def C9(hp:List (Nat×SB)):List (Nat×SB)->List (Nat×SB)
 |[]=>hp |(i,b)::r=>C9 (hins hp i b) r
def Vh(A:Prim)(op:BinOp)(k:IntKind)(x y:Int):Option Int:=
 match op with
 | .add=>ay (A.add k x y) | .sub=>ay (A.sub k x y) | .mul=>ay (A.mul k x y) |_=>aK
def ad3(op:BinOp)(k:IntKind)(x y:Int):Option Int:=
 match op with
 | .add=>ay (k.wrap (x+y)) | .sub=>ay (k.wrap (x - y)) | .mul=>ay (k.wrap (x*y)) |_=>aK
def afi(A:Prim)(op:BinOp)(x y:Int):Option Bool:=
 match op with
 | .eql=>ay (A.eq x y) | .neq=>ay (A.nt (A.eq x y)) | .lss=>ay (A.lt x y) | .leq=>ay (A.le x y) | .gtr=>ay (A.lt y x) | .geq=>ay (A.le y x) |_=>aK
def cmpL(op:BinOp)(x y:Int):Option Bool:=
 match op with
 | .eql=>ay (x==y) | .neq=>ay (x != y) | .lss=>ay (decide (x<y)) | .leq=>ay (decide (x<=y)) | .gtr=>ay (decide (y<x)) | .geq=>ay (decide (y<=x)) |_=>aK
def Ctx.ty(C:Ctx)(t:Nat):Option JI:=C.tys.get t
def orO{α:Type}:Option α->Option α->Option α
 |some a,_=>ay a |none,b=>b
def DN(op:BinOp)(nil:Bool):Option SV:=
 match op with
 | .eql=>ay (.bool nil) | .neq=>ay (.bool !nil) |_=>aK
def eqB(A:Prim)(op:BinOp)(x y:Bool):Option SV:=
 match op with
 | .eql=>ay (.test (A.beq x y)) | .neq=>ay (.test (A.nt (A.beq x y))) |_=>aK
def eqS(A:Prim)(op:BinOp)(x y:List UInt8):Option SV:=
 match op with
 | .eql=>ay (.test (A.seq x y)) | .neq=>ay (.test (A.nt (A.seq x y))) |_=>aK
inductive Cq where
 |i (n:Int)
 |b (x:Bool)
 deriving DecidableEq
def Cq.v:Cq->Value
 | .i n=>.int .i64 n | .b x=>.bool x
def NU:List SV->Option (List Cq)
 |[]=>ay [] | .int .i64 n::r=>(NU r).map fun l=>.i n::l | .sym .i64 n::r=>(NU r).map fun l=>.i n::l | .bool x::r=>(NU r).map fun l=>.b x::l | .test x::r=>(NU r).map fun l=>.b x::l |_=>aK
def CV:List Cq->List SV->Bool
 |[],[]=>aC | .i _::r,.int .i64 _::z=>CV r z | .b _::r,.bool _::z=>CV r z |_,_=>ak
def Pv(A:Prim):List Cq->List Cq->Bool
 | .i x::xs,.i y::ys=>A.ite (A.eq x y) (Pv A xs ys) ak | .b x::xs,.b y::ys=>A.ite (A.beq x y) (Pv A xs ys) ak |_,_=>aC
def acR(gls:List (Nat×Sh))(g T:Nat):Bool:=match zX gls g with
 |some (.er g' T')=>g'==g&&T'==T |_=>ak
def amk(gls:List (Nat×Sh))(op:BinOp):SV->SV->Option SV
 | .fn _ _,.F7=>DN op ak | .F7,.F7=>DN op aC | .ptr _ _,.EJ=>DN op ak | .Gl _ _ _ _ _,.EJ=>DN op ak | .val (.pointer (ay _)),.EJ=>DN op ak | .EJ,.EJ=>DN op aC | .CG _ _,.DK=>DN op ak | .sh (.CG _ _),.DK=>DN op ak | .sh (.er _ _),.DK=>DN op ak | .DK,.DK=>DN op aC | .sh (.er g T),.sh (.er g' T')=>bif g==g'&&T==T' then DN op aC else bif acR gls g T&&acR gls g' T'&&T==T' && !(g==g') then DN op ak else aK | .DK,.sh (.er _ _)=>DN op ak | .CG t _,.sh (.er _ T)=>bif t==T then aK else DN op ak | .sh (.CG t _),.sh (.er _ T)=>bif t==T then aK else DN op ak |_,_=>aK
def EX:Ty->SV->Bool
 | .fn,.fn _ _=>aC | .fn,.F7=>aC | .ptr _,.ptr _ _=>aC | .ptr _,.Gl _ _ _ _ _=>aC | .ptr _,.val (.pointer (ay _))=>aC | .ptr _,.EJ=>aC | .iface,.CG _ _=>aC | .iface,.sh (.CG _ _)=>aC | .iface,.sh (.er _ _)=>aC | .iface,.DK=>aC |_,_=>ak
def isConst:Operand->Bool
 | .const _=>aC |_=>ak
def aml(A:Prim)(op:BinOp)(x y:SV):Option SV:=
 match x,y with
 | .bool a,.bool b=>match op with| .eql=>ay (.bool (a==b)) | .neq=>ay (.bool (a != b)) |_=>aK
 | .bool a,.test b=>eqB A op a b | .test a,.bool b=>eqB A op a b | .test a,.test b=>eqB A op a b |_,_=>aK
def Vj:SV->Bool
 | .DK=>aC |_=>ak
def arM(Vg:List Nat):SV->Bool
 | .sh (.er _ T)=>Vg.contains T |_=>aC
def ajK(Vg:List Nat)(gls:List (Nat×Sh))(op:BinOp)(ty:Ty)(lit:Bool)(x y:SV):Option SV:=
 bif arM Vg x&&EX ty x&&EX ty y&&(lit || !(Vj x&&Vj y)) then amk gls op x y else aK
def amm(C:Ctx)(op:BinOp)(t:Nat)(lit:Bool)(x y:SV):Option SV:=
 let A:=C.A
 match x,y with
 | .int k a,.int l b=>bif k==l then orO ((ad3 op k a b).map (.int k)) ((cmpL op a b).map .bool) else aK | .int k a,.sym l b=>bif k==l then orO ((Vh A op k a b).map (.sym k)) ((afi A op a b).map .test) else aK | .sym k a,.int l b=>bif k==l then orO ((Vh A op k a b).map (.sym k)) ((afi A op a b).map .test) else aK | .sym k a,.sym l b=>bif k==l then orO ((Vh A op k a b).map (.sym k)) ((afi A op a b).map .test) else aK | .str a,.str b=>match op with| .eql=>ay (.bool (a==b)) | .neq=>ay (.bool (a != b)) |_=>aK
 | .str a,.sh (.str b)=>eqS A op a b | .sh (.str a),.str b=>eqS A op a b | .sh (.str a),.sh (.str b)=>eqS A op a b | .agg a,.agg b=>match NU a,NU b,C.ty t with
  |some a,ay b,ay i=>bif C.eqs.contains t&&CV a i.zero&&CV b i.zero then match op with
   | .eql=>ay (.test (Pv A a b)) | .neq=>ay (.test (A.nt (Pv A a b))) |_=>aK
   else aK
  |_,_,_=>aK
 |x,y=>match C.ty t with
  |none=>aK |some i=>match i.ty with
   | .bool=>aml A op x y |ty=>ajK C.Vg C.gls op ty lit x y
def amn(hp:List (Nat×SB)):SV->Option Nat
 | .gs id=>match zX hp id with
  |some (.row _ _ _ n)=>ay n |some (.own _ _ n _)=>ay n |some (.fz _ n _)=>ay n |_=>aK
 | .sh (.sl _ n _)=>ay n |_=>aK
def Xi:Operand->Bool
 | .const (.slice aK 0 0)=>aC |_=>ak
def acS(C:Ctx)(c:Core)(op:BinOp)(t:Nat)(y:Operand)(x:SV):Option (Tree (SV×Core)):=
 match C.ty t with
 |some i=>match i.ty with
  | .slice _=>bif Xi y then
    match DN op aC,DN op ak with
    |some a,ay b=>match x with
     | .Aw=>ay (.leaf (a,c)) |x=>match amn c.hp x with
      |some n=>ay (.node (C.A.ZU n 0) (.both (.leaf (a,c)) (.leaf (b,c))) (.leaf (b,c))) |none=>aK
    |_,_=>aK
   else aK
  |_=>aK
 |none=>aK
def textOf:SV->Option (List UInt8)
 | .str l=>ay l | .sh (.str l)=>ay l |_=>aK
def Vk(op:BinOp)(k:IntKind)(a b:Int):Int:=
 match op with
 | .and=>k.wrap (fZ k.bits a&&&fZ k.bits b).toNat | .or=>k.wrap (fZ k.bits a|||fZ k.bits b).toNat | .xor=>k.wrap (fZ k.bits a^^^fZ k.bits b).toNat | .andNot=>k.wrap (fZ k.bits a&&&~~~ fZ k.bits b).toNat | .shl=>k.wrap (a*2^(min b.toNat k.bits)) | .shr=>a.fdiv (2^(min b.toNat k.bits)) | .quo=>k.wrap (a.tdiv b) | .rem=>a.tmod b |_=>0
def numOf:SV->Option (IntKind×Int×Bool)
 | .int k n=>ay (k,n,aC) | .sym k n=>ay (k,n,ak) |_=>aK
def MC(A:Prim)(op:BinOp)(k:IntKind)(a b:Int)(la lb:Bool)(c:Core):Tree (SV×Core):=
 .leaf (bif la&&lb then .int k (Vk op k a b) else .sym k (A.bin op k a b),c)
def amo(C:Ctx)(c:Core)(op:BinOp)(x y:SV):Option (Tree (SV×Core)):=
 match op,numOf x,numOf y with
 | .shl,ay (k,a,la),ay (_,b,lb)=>ay (bif lb then bif decide (0<=b) then MC C.A .shl k a b la lb c else .fail else .need (C.A.le 0 b) (MC C.A .shl k a b la lb c)) | .shr,ay (k,a,la),ay (_,b,lb)=>ay (bif lb then bif decide (0<=b) then MC C.A .shr k a b la lb c else .fail else .need (C.A.le 0 b) (MC C.A .shr k a b la lb c)) | .quo,ay (k,a,la),ay (l,b,lb)=>bif k==l then ay (bif lb then bif b==0 then .fail else MC C.A .quo k a b la lb c else .need (C.A.nt (C.A.eq b 0)) (MC C.A .quo k a b la lb c)) else aK | .rem,ay (k,a,la),ay (l,b,lb)=>bif k==l then ay (bif lb then bif b==0 then .fail else MC C.A .rem k a b la lb c else .need (C.A.nt (C.A.eq b 0)) (MC C.A .rem k a b la lb c)) else aK | .and,ay (k,a,la),ay (l,b,lb)=>bif k==l then ay (MC C.A .and k a b la lb c) else aK | .or,ay (k,a,la),ay (l,b,lb)=>bif k==l then ay (MC C.A .or k a b la lb c) else aK | .xor,ay (k,a,la),ay (l,b,lb)=>bif k==l then ay (MC C.A .xor k a b la lb c) else aK | .andNot,ay (k,a,la),ay (l,b,lb)=>bif k==l then ay (MC C.A .andNot k a b la lb c) else aK |_,_,_=>aK
def ajL(C:Ctx)(c:Core)(op:BinOp)(x y:SV):Option (Tree (SV×Core)):=
 match op with
 | .add=>match textOf x,textOf y with
  |some a,ay b=>ay (.need (C.A.ZU (C.A.addN (C.A.len a) (C.A.len b)) 9223372036854775807) (.leaf (.sh (.str (C.A.app a b)),c))) |_,_=>aK
 |_=>aK
def ZW(C:Ctx)(c:Core)(op:BinOp)(t:Nat)(x y:Operand)(lit:Bool):Tree (SV×Core):=
 match amo C c op (Bd c.tm x) (Bd c.tm y) with
 |some r=>r |none=>match ajL C c op (Bd c.tm x) (Bd c.tm y) with
 |some r=>r |none=>match acS C c op t y (Bd c.tm x) with
 |some r=>r |none=>match amm C op t lit (Bd c.tm x) (Bd c.tm y) with
  |some v=>.leaf (v,c) |none=>.fail
def notS(A:Prim):SV->Option SV
 | .bool b=>ay (.bool !b) | .test b=>ay (.test (A.nt b)) |_=>aK
def negS(A:Prim):SV->Option SV
 | .int k n=>ay (.int k (k.wrap (0 - n))) | .sym k n=>ay (.sym k (A.neg k n)) |_=>aK
def Zx:SV->Option Bool
 | .bool x=>ay x | .test x=>ay x |_=>aK
def ahN(A:Prim)(c a b:SV):Option SV:=
 match c with
 | .bool aC=>ay a | .bool ak=>ay b | .test c=>match Zx a,Zx b with
  |some x,ay y=>ay (.test (A.ite c x y)) |_,_=>aK
 |_=>aK
def ajM(A:Prim)(hp:List (Nat×SB)):SV->Option SV
 | .gs id=>match zX hp id with
  |some (.row _ _ _ n)=>ay (.int .i64 n) |some (.own _ _ n _)=>ay (.sym .i64 (A.Az n)) |some (.Gx _ st n _ more)=>ay (.sym .i64 (A.Az (A.addN n (Nat.div more.length st)))) |some (.fz _ n _)=>ay (.sym .i64 (A.Az n)) |some (.buf _ l)=>ay (.sym .i64 (A.Az (A.len l))) |_=>aK
 | .vw _ n=>ay (.sym .i64 (A.Az n)) | .sh (.sl _ n _)=>ay (.sym .i64 (A.Az n)) | .Aw=>ay (.int .i64 0) | .str l=>ay (.int .i64 l.length) | .sh (.str l)=>ay (.sym .i64 (A.Az (A.len l))) |_=>aK
def GN:SV->Option Int
 | .int _ n=>ay n | .sym _ n=>ay n |_=>aK
def ret(c:Core)(v:SV):Tree (SV×Core):=.leaf (v,c)
def alloc(c:Core)(b:SB)(v:SV):Tree (SV×Core):=
 bif fV c.nx c.lim then ret {c with hp:=hins c.hp c.nx b,nx:=c.nx+1} v else .fail
def Lh(c:Core):Option SV->Tree (SV×Core)
 |some v=>.leaf (v,c) |none=>.fail
def Ud(C:Ctx)(c:Core)(e:Nat):Tree (SV×Core):=
 match C.ty e with
 |some i=>alloc c (.box i.zero e) (.ptr c.nx 0) |none=>.fail
def Ue(C:Ctx)(c:Core)(t:Nat)(parts:List (Nat×Operand)):Tree (SV×Core):=
 match C.ty t with
 |some i=>match i.ty with
  | .struct fs=>match Pq (fun j=>fs[j]?.map fun f=>(f.1,f.2.1)) (Bd c.tm) i.zero parts with
   |some l=>ret c (.agg l) |none=>.fail
  |_=>.fail
 |none=>.fail
def KQ(C:Ctx)(c:Core)(t n:Nat)(parts:List (Nat×Operand)):Tree (SV×Core):=
 match C.ty t with
 |some i=>match i.ty with
  | .slice e=>match C.ty e with
   |some j=>bif gV (n*j.size) 16777216&&fV 0 j.size then
     match Pq (fun k=>ay (k*j.size,j.size)) (Bd c.tm) (rep j.zero n) parts with
     |some l=>alloc c (.row l e j.size n) (.gs c.nx) |none=>.fail
    else .fail
   |none=>.fail
  |_=>.fail
 |none=>.fail
def ad4(C:Ctx)(c:Core)(agg:Bool)(size:Nat):SV->Option SV
 | .ptr id off=>match zX c.hp id with
  |some (.box cs _)=>(seg cs off size).bind (pack agg) |some (.row cs _ _ _)=>(seg cs off size).bind (pack agg) |some (.QI l)=>(seg (l.map Sh.I8) off size).bind (pack agg) |_=>aK
 | .gp id st i off=>match zX c.hp id with
  |some (.own _ st' _ g)=>bif st==st' then (seg ((g i).map Sh.I8) off size).bind (pack agg) else aK |some (.fz st' _ g)=>bif st==st' then (seg ((g i).map Sh.I8) off size).bind (pack agg) else aK |_=>aK
 | .Gl _ _ g i off=>(seg ((g i).map Sh.I8) off size).bind (pack agg) | .glob g=>bif agg then aK else (zX C.gls g).bind fun s=>match s with
  | .Aj _=>aK |s=>ay s.I8
 |_=>aK
def Xj(C:Ctx)(c:Core)(t:Nat)(x:SV):Tree (SV×Core):=
 match C.ty t with
 |some i=>Lh c (ad4 C c i.ty.isAgg i.size x) |none=>.fail
def Uf(C:Ctx)(c:Core)(t:Nat)(x v:SV):Tree (SV×Core):=
 match C.ty t with
 |some i=>bif v.cells.length==i.size&&E8 v.cells then
   match x with
   | .ptr id off=>match zX c.hp id with
    |some (.box cs e)=>bif gV (off+i.size) cs.length then ret {c with hp:=hset c.hp id (.box (setAt cs off v.cells) e),tc:=id::c.tc} .any else .fail
    |some (.row cs e st n)=>bif gV (off+i.size) cs.length then ret {c with hp:=hset c.hp id (.row (setAt cs off v.cells) e st n),tc:=id::c.tc} .any else .fail
    |_=>.fail
   | .gp id st j off=>match zX c.hp id with
    |some (.own e st' n g)=>bif st==st'&&gV (off+i.size) st then match H8 c.hp v.cells with
      |some l=>ret {c with hp:=hset c.hp id (.own e st n (C.A.upd g j off l)),tc:=id::c.tc} .any
      |none=>.fail
     else .fail
    |_=>.fail
   |_=>.fail
  else .fail
 |none=>.fail
def ZX(c:Core):SV->Tree (SV×Core)
 | .ptr i o=>ret c (.ptr i o) | .gp i st j o=>ret c (.gp i st j o) | .Gl st n g i o=>ret c (.Gl st n g i o) | .fn f l=>ret c (.fn f l) |_=>.fail
def MF(C:Ctx)(c:Core)(t f:Nat)(x:SV):Tree (SV×Core):=
 match C.ty t with
 |some i=>match i.ty with
  | .struct fs=>match fs[f]? with
   |some (off,size,_)=>bif fV 0 size then match x with
    | .ptr id o=>ret c (.ptr id (o+off)) | .gp id st j o=>ret c (.gp id st j (o+off)) | .Gl st n g j o=>ret c (.Gl st n g j (o+off)) |_=>.fail
    else .fail
   |none=>.fail
  |_=>.fail
 |none=>.fail
def Ug(C:Ctx)(c:Core)(t f:Nat)(x:SV):Tree (SV×Core):=
 match C.ty t with
 |some i=>match i.ty,x with
  | .struct fs,.agg l=>match fs[f]? with
   |some (off,size,agg)=>Lh c ((seg l off size).bind (pack agg)) |none=>.fail
  |_,_=>.fail
 |none=>.fail
def ahO(A:Prim)(n:Int)(f:Nat->Tree (SV×Core))(m:Nat):Nat->Tree (SV×Core)
 |0=>.fail |k+1=>.node (A.eq n (ofNat (m - (k+1)))) (f (m - (k+1))) (ahO A n f m k)
def ajN(A:Prim)(n:Int):SV->Nat
 | .int _ k=>k.toNat |_=>A.toN n
def MG(C:Ctx)(c:Core)(t:Nat)(x i:SV):Tree (SV×Core):=
 match C.ty t with
 |some ti=>match ti.ty with
  | .slice e=>match C.ty e with
   |some te=>match x,GN i with
    | .gs id,ay n=>match zX c.hp id with
     |some (.row _ _ st m)=>match i with
      | .int _ n=>bif decide (0<=n)&&decide (n<m)&&st==te.size then ret c (.ptr id (n.toNat*st)) else .fail |_=>.fail
     |some (.own _ st m _)=>bif st==te.size then .need (C.A.inB n m) (ret c (.gp id st (ajN C.A n i) 0)) else .fail |some (.fz st m g)=>bif st==te.size then .need (C.A.inB n m) (ret c (.Gl st m g (ajN C.A n i) 0)) else .fail |_=>.fail
    | .sh (.sl st m g),ay n=>bif st==te.size then .need (C.A.inB n m) (ret c (.Gl st m g (ajN C.A n i) 0)) else .fail |_,_=>.fail
   |none=>.fail
  | .arr m e=>match C.ty e with
   |some te=>match x,i with
    | .glob g,.int _ n=>match zX C.gls g with
     |some (.Aj l)=>bif decide (0<=n)&&decide (n<m)&&l.length==m*te.size then ret c (.Gl te.size m (AQ (chunks te.size m l)) n.toNat 0) else .fail |_=>.fail
    | .glob g,.sym _ n=>match zX C.gls g with
     |some (.Aj l)=>bif l.length==m*te.size then .need (C.A.inB n m) (ahO C.A n (fun j=>ret c (.Gl te.size m (AQ (chunks te.size m l)) j 0)) m m) else .fail |_=>.fail
    |_,_=>.fail
   |none=>.fail
  |_=>.fail
 |none=>.fail
def Px(c:Core)(x:SV)(i:Nat):Tree (SV×Core):=
 match x with
 | .Aj l=>Lh c l[i]? |_=>.fail
def NV(A:Prim):SV->Option Nat
 | .int _ k=>ay k.toNat | .sym _ n=>ay (A.toN n) |_=>aK
def ajO(hp:List (Nat×SB))(st:Nat):SV->Option (Nat×Nat)
 | .gs id=>match zX hp id with
  |some (.own _ st' n _)=>bif st==st' then ay (id,n) else aK |_=>aK
 |_=>aK
def Uh(C:Ctx)(c:Core)(t:Nat)(x:SV)(lo hi:Option SV):Tree (SV×Core):=
 match C.ty t with
 |some ti=>match ti.ty with
  | .slice e=>match C.ty e with
   |some te=>
    match ajO c.hp te.size x,lo,hi with
    |some (id,n),aK,ay h=>match GN h,NV C.A h with
     |some hi,ay h=>.need (C.A.upTo hi n) (ret c (.vw id h)) |_,_=>.fail
    |_,_,_=>
    match (match x with| .gs id=>freeze c.hp [id] |_=>ay c.hp) with
    |none=>.fail |some hp=>match DL hp x with
     |some (.sl st n g)=>bif st==te.size then
       match lo,hi with
       |none,aK=>ret {c with hp} (.sh (.sl st n g))
       |none,ay h=>match GN h,NV C.A h with
        |some hi,ay h=>.need (C.A.upTo hi n) (ret {c with hp} (.sh (.sl st h g)))
        |_,_=>.fail
       |some l,aK=>match GN l,NV C.A l with
        |some li,ay l=>.need (C.A.upTo li n) (ret {c with hp} (.sh (.sl st (C.A.Jm n l) fun j=>g (C.A.addN l j))))
        |_,_=>.fail
       |some l,ay h=>match GN l,NV C.A l,GN h,NV C.A h with
        |some li,ay l,ay hi,ay h=>.need (C.A.upTo hi n) (.need (C.A.upTo li h) (ret {c with hp} (.sh (.sl st (C.A.Jm h l) fun j=>g (C.A.addN l j)))))
        |_,_,_,_=>.fail
      else .fail
     |_=>.fail
   |none=>.fail
  |_=>.fail
 |none=>.fail
def isZero:SV->Bool
 | .int _ n=>n==0 |_=>ak
def amq(k:SV)(e st:Nat):SB:=
 match k with
 | .int _ _=>.row [] e st 0 |_=>.own e st 0 fun _=>[]
def MH(C:Ctx)(c:Core)(t:Nat)(l k:SV)(same:Bool):Tree (SV×Core):=
 match C.ty t with
 |some ti=>match ti.ty with
  | .slice e=>match C.ty e with
   |some te=>match GN k,NV C.A k with
    |some ki,ay kn=>
     bif isZero l then .need (C.A.le 0 ki) (.need (C.A.room kn te.bytes) (alloc c (amq k e te.size) (.gs c.nx)))
     else bif same&&E8 te.zero&&fV 0 te.size then match H8 [] te.zero with
      |some z=>.need (C.A.le 0 ki) (.need (C.A.room kn te.bytes) (alloc c (.own e te.size kn fun _=>z) (.gs c.nx))) |none=>.fail
     else .fail
    |_,_=>.fail
   |none=>.fail
  |_=>.fail
 |none=>.fail
def xOf(hp:List (Nat×SB))(e st:Nat):SV->Option (Nat×(Nat->List Sh)×List SV)
 | .gs id=>match zX hp id with
  |some (.own e' st' n g)=>bif e==e'&&st==st' then ay (n,g,[]) else aK |some (.Gx e' st' n g more)=>bif e==e'&&st==st' then ay (n,g,more) else aK |_=>aK
 |_=>aK
def rowOf(hp:List (Nat×SB))(st:Nat):SV->Option (List SV×Nat)
 | .Aw=>ay ([],0) | .gs id=>match zX hp id with
  |some (.row cells _ st' n)=>bif st==st' then ay (cells,n) else aK |_=>aK
 |_=>aK
def MI(hp:List (Nat×SB))(st:Nat):SV->Option (Nat×(Nat->List Sh))
 | .Aw=>ay (0,fun _=>[]) | .gs id=>match zX hp id with
  |some (.row cells _ st' n)=>bif st==st'&&E8 cells then (H8 hp cells).map fun l=>(n,AQ (chunks st n l)) else aK |some (.own _ st' n g)=>bif st==st' then ay (n,g) else aK |some (.fz st' n g)=>bif st==st' then ay (n,g) else aK |_=>aK
 | .sh (.sl st' n g)=>bif st==st' then ay (n,g) else bif st'==0&&n==0 then ay (0,fun _=>[]) else aK | .vw id n=>match zX hp id with
  |some (.own _ st' _ g)=>bif st==st' then ay (n,g) else aK |_=>aK
 |_=>aK
def Py:SV->Option Nat
 | .gs id=>ay id |_=>aK
def MJ(hp:List (Nat×SB))(e:Nat):SV->Bool
 | .Aw=>aC | .gs id=>match zX hp id with
  |some (.row _ e' _ _)=>e==e' |some (.own e' _ _ _)=>e==e' |some (.Gx e' _ _ _ _)=>e==e' |some (.buf e' _)=>e==e' |_=>ak
 |_=>ak
def Nv(x y:SV):Bool:=
 match Py x,Py y with
 |some i,ay j=>i==j |_,_=>ak
def Ci(c:Core)(s:SV):Core:=
 match Py s with
 |some id=>{c with hp:=hdel c.hp id,tc:=id::c.tc}
 |none=>c
def ZY:List SV->Option (List UInt8)
 |[]=>ay [] | .int .u8 n::r=>bif decide (0<=n)&&decide (n<256) then (ZY r).map fun l=>UInt8.ofNat n.toNat::l else aK |_=>aK
def QN(hp:List (Nat×SB))(e:Nat):SV->Option (List UInt8)
 | .Aw=>ay [] | .gs id=>match zX hp id with
  |some (.buf e' l)=>bif e==e' then ay l else aK |some (.row cells e' st n)=>bif e==e'&&st==1&&n==cells.length then ZY cells else aK |_=>aK
 |_=>aK
def Jp(C:Ctx)(e:Nat):Bool:=
 match C.ty e with
 |some te=>match te.ty,te.zero with
  | .int .u8,[.int .u8 n]=>te.size==1&&te.bytes==1&&n==0 |_,_=>ak
 |none=>ak
def Pz(C:Ctx)(c:Core)(t u:Nat)(s x:SV):Tree (SV×Core):=
 match C.ty t,C.ty u with
 |some ti,ay ui=>match ti.ty,ui.ty with
  | .slice e,.str=>match QN c.hp e s,textOf x with
   |some l,ay m=>bif Jp C e&&MJ c.hp e s then
     .need (C.A.room (C.A.addN (C.A.len l) (C.A.len m)) 1) (alloc (Ci c s) (.buf e (C.A.app l m)) (.gs c.nx))
    else .fail
   |_,_=>.fail
  |_,_=>.fail
 |_,_=>.fail
def PD(C:Ctx)(c:Core)(t:Nat)(s x:SV):Option (Tree (SV×Core)):=
 match s with
 | .gs id=>match zX c.hp id with
  |some (.buf e l)=>match C.ty t,QN c.hp e x with
   |some ti,ay m=>match ti.ty with
    | .slice e'=>bif e==e'&&Jp C e && !Nv s x then
      ay (.need (C.A.room (C.A.addN (C.A.len l) (C.A.len m)) 1) (alloc (Ci c s) (.buf e (C.A.app l m)) (.gs c.nx)))
     else aK
    |_=>aK
   |_,_=>aK
  |_=>aK
 |_=>aK
def Xk(C:Ctx)(c:Core)(t u:Nat)(x:SV):Tree (SV×Core):=
 match C.ty t,C.ty u with
 |some ti,ay ui=>match ti.ty,ui.ty with
  | .int _,.int k=>match x with
   | .int _ n=>ret c (.int k (k.wrap n)) | .sym _ n=>ret c (.sym k (C.A.conv k n)) |_=>.fail
  | .str,.slice e=>match textOf x with
   |some l=>bif Jp C e then .need (C.A.room (C.A.len l) 1) (alloc c (.buf e l) (.gs c.nx)) else .fail |none=>.fail
  | .slice e,.str=>match QN c.hp e x with
   |some l=>bif Jp C e then ret c (.sh (.str l)) else .fail |none=>.fail
  |_,_=>.fail
 |_,_=>.fail
def QO(C:Ctx)(c:Core)(t:Nat)(s x:SV):Tree (SV×Core):=
 match C.ty t with
 |some ti=>match ti.ty with
  | .slice e=>match C.ty e with
   |some te=>
    bif MJ c.hp e s && !Nv s x&&fV 0 te.size then
     match rowOf c.hp te.size s,rowOf c.hp te.size x with
     |some (a,n),ay (b,m)=>
      bif E8 b&&gV ((n+m)*te.bytes) 140737488355328&&gV (n+m) 1073741824 then alloc (Ci c s) (.row (a++b) e te.size (n+m)) (.gs c.nx) else .fail
     |_,_=>match MI c.hp te.size s,MI c.hp te.size x with
      |some (n,g),ay (m,h)=>.need (C.A.room (C.A.addN n m) te.bytes) (alloc (Ci c s) (.own e te.size (C.A.addN n m) (C.A.snoc g n h)) (.gs c.nx)) |_,_=>match xOf c.hp e te.size s,rowOf c.hp te.size x with
       |some (n,g,more),ay (b,_)=>bif E8 b then .need (C.A.room (C.A.addN n (Nat.div (more++b).length te.size)) te.bytes) (alloc (Ci c s) (.Gx e te.size n g (more++b)) (.gs c.nx)) else .fail |_,_=>.fail
    else .fail
   |none=>.fail
  |_=>.fail
 |none=>.fail
def IB:SV->Option (IntKind×Int×Bool)
 | .int k n=>ay (k,n,aC) | .sym k n=>ay (k,n,ak) |_=>aK
def QS(kk:IntKind)(k:Int):List (SV×SV)->Option (Option SV)
 |[]=>ay aK |(.int j m,v)::r=>bif j==kk then bif m==k then ay (ay v) else QS kk k r else aK |_=>aK
def Vl(A:Prim)(kk:IntKind)(k:Int)(z:SV)(f:SV->Bool->Tree (SV×Core)):List (SV×SV)->Tree (SV×Core)
 |[]=>f z ak |(.int j m,v)::r=>bif j==kk then .node (A.eq k m) (f v aC) (Vl A kk k z f r) else .fail |_=>.fail
def Vm(k:IntKind)(n:Int)(v:SV):List (SV×SV)->Option (List (SV×SV))
 |[]=>ay [(.int k n,v)] |(.int j m,u)::r=>bif j==k then bif m==n then ay ((.int k n,v)::r) else (Vm k n v r).map fun r=>(.int j m,u)::r else aK |_=>aK
def afk(l:List Int):List (Int×Bool×SV):=l.map fun n=>(n,ak,.any)
def PE(C:Ctx)(c:Core)(t:Nat):Tree (SV×Core):=
 match C.ami t with
 |some (k,l)=>alloc c (.fm k (fun _=>aK) (afk l) [] aK) (.mp c.nx) |none=>match C.ad2 t with
  |some vt=>alloc c (.pm vt (fun _=>aK) []) (.mp c.nx) |none=>alloc c (.map []) (.mp c.nx)
def findF(A:Prim)(k:Int)(f:Bool->SV->Tree (SV×Core)):List (Int×Bool×SV)->Tree (SV×Core)
 |[]=>.fail |[(j,p,v)]=>.need (A.eq k j) (f p v) |(j,p,v)::r=>.node (A.eq k j) (f p v) (findF A k f r)
def intOf:SV->Option Int
 | .int .i64 n=>ay n | .sym .i64 n=>ay n | .sh (.i .i64 n)=>ay n |_=>aK
def strOf:SV->Option (List UInt8)
 | .str l=>ay l | .sh (.str l)=>ay l |_=>aK
def Zy:SV->Option (Int×List UInt8)
 | .agg [a,b]=>match intOf a,strOf b with
  |some n,ay l=>ay (n,l) |_,_=>aK
 | .sh (.agg [.i .i64 n,.str l])=>ay (n,l) |_=>aK
def SV.acT:SV->VT->Bool
 | .int .i64 _,.int=>aC | .sym .i64 _,.int=>aC | .bool _,.bool=>aC | .test _,.bool=>aC |_,_=>ak
def amr(A:Prim)(vt:VT)(o:Option Value):SV:=match vt with
 | .int=>.sym .i64 (A.arL o) | .bool=>.test (A.G5 o)
def ahQ(A:Prim)(vt:VT)(M:Int×List UInt8->Option Value)(k:Int×List UInt8)(f:Bool->SV->Tree (SV×Core)):List ((Int×List UInt8)×Bool×SV)->Tree (SV×Core)
 |[]=>.node (A.isS (M k)) (f aC (amr A vt (M k))) (f ak .any) |(j,p,v)::r=>.node (A.kp k.1 k.2 j.1 j.2) (f p v) (ahQ A vt M k f r)
def IC(c:Core)(ok:Bool)(v:SV)(b:Bool):Tree (SV×Core):=ret c (bif ok then .Aj [v,.bool b] else v)
def QT(C:Ctx)(c:Core)(t:Nat)(m k:SV)(ok:Bool):Tree (SV×Core):=
 match C.ty t with
 |some ti=>match ti.ty with
  | .map kt e=>match C.ty kt,C.ty e with
   |some Z4,ay te=>match Z4.ty,pack te.ty.isAgg te.zero with
    | .struct _,ay z=>bif C.ZV.contains kt then
      match m with
      | .mp id=>match zX c.hp id with
       |some (.pm vt M us)=>match Zy k with
        |some n=>ahQ C.A vt M n (fun p v=>bif p then IC c ok v aC else IC c ok z ak) us |none=>.fail
       |_=>.fail
      |_=>.fail
     else .fail
    | .int kk,ay z=>
     match m with
     | .Fp=>match IB k with
      |some (j,_,_)=>bif j==kk then IC c ok z ak else .fail |none=>.fail
     | .mp id=>match zX c.hp id with
      |some (.map es)=>match k with
       | .int j n=>bif j==kk then match QS kk n es with
        |some (ay v)=>IC c ok v aC |some aK=>IC c ok z ak |none=>.fail
        else .fail
       | .sym j n=>bif j==kk then Vl C.A kk n z (IC c ok) es else .fail |_=>.fail
      |some (.fm fk _ fs us _)=>match IB k with
       |some (j,n,_)=>bif j==kk&&fk==kk then findF C.A n (fun p v=>bif p then IC c ok v aC else IC c ok z ak) (us++fs) else .fail |none=>.fail
      |_=>.fail
     |_=>.fail
    |_,_=>.fail
   |_,_=>.fail
  |_=>.fail
 |none=>.fail
def Nw(C:Ctx)(c:Core)(t:Nat)(m k v:SV):Tree (SV×Core):=
 match C.ty t with
 |some ti=>match ti.ty with
  | .map kt _=>match C.ty kt with
   |some Z4=>match Z4.ty,m,k with
    | .int kk,.mp id,.int k n=>match zX c.hp id with
     |some (.map es)=>bif kk==k then match Vm k n v es with
      |some es=>ret {c with hp:=hset c.hp id (.map es),tc:=id::c.tc} .any
      |none=>.fail
      else .fail
     |_=>.fail
    | .struct _,.mp id,k=>match zX c.hp id with
     |some (.pm vt M us)=>match Zy k with
      |some n=>bif C.ZV.contains kt&&v.one&&v.acT vt then ret {c with hp:=hset c.hp id (.pm vt M ((n,aC,v)::us)),tc:=id::c.tc} .any else .fail
      |none=>.fail
     |_=>.fail
    |_,_,_=>.fail
   |none=>.fail
  |_=>.fail
 |none=>.fail
def NW(C:Ctx)(c:Core)(t:Nat)(m k:SV):Tree (SV×Core):=
 match C.ty t with
 |some ti=>match ti.ty with
  | .map kt e=>match C.ty kt,C.ty e with
   |some Z4,ay te=>match Z4.ty,pack te.ty.isAgg te.zero,m,IB k with
    | .int kk,ay z,.mp id,ay (j,n,_)=>match zX c.hp id with
     |some (.fm fk M fs us _)=>bif j==kk&&fk==kk&&z.one&&fV c.nx c.lim then
       findF C.A n (fun p v=>ret {c with hp:=hset c.hp id (.fm fk M fs ((n,aC,bif p then v else z)::us) (ay (c.nx,n))),nx:=c.nx+1,tc:=id::c.tc} (.Aj [bif p then v else z,.ev c.nx])) (us++fs)
      else .fail
     |_=>.fail
    |_,_,_,_=>.fail
   |_,_=>.fail
  |_=>.fail
 |none=>.fail
def KR(c:Core)(m s v:SV):Tree (SV×Core):=
 match m,s with
 | .mp id,.ev s=>match zX c.hp id with
  |some (.fm fk M fs us (ay (s',n)))=>bif s==s'&&v.one then ret {c with hp:=hset c.hp id (.fm fk M fs ((n,aC,v)::us) (ay (s',n))),tc:=id::c.tc} .any else .fail
  |_=>.fail
 |_,_=>.fail
def QU(C:Ctx)(c:Core)(t:Nat)(m k:SV):Tree (SV×Core):=
 match C.ty t with
 |some ti=>match ti.ty with
  | .map kt _=>match C.ty kt with
   |some Z4=>match Z4.ty,m,IB k with
    | .int kk,.mp id,ay (j,n,_)=>match zX c.hp id with
     |some (.fm fk M fs us _)=>bif j==kk&&fk==kk then ret {c with hp:=hset c.hp id (.fm fk M fs ((n,ak,.any)::us) aK),tc:=id::c.tc} .any else .fail
     |_=>.fail
    |_,_,_=>.fail
   |none=>.fail
  |_=>.fail
 |none=>.fail
def spread(c:Core)(F:List Sh->Tree Sh)(args:List SV):Tree (SV×Core):=
 match freeze c.hp (Jo args) with
 |none=>.fail |some hp=>match H8 hp args with
  |none=>.fail |some AX=>(F AX).bind fun r=>bif gV (CB r c.nx).2.2 c.lim then ret {c with hp:=C9 hp (CB r c.nx).2.1,nx:=(CB r c.nx).2.2} (CB r c.nx).1 else .fail
mutual
def G6:Sh->Bool
 | .i _ _=>aC | .b _=>aC | .str _=>aC | .v _=>aC | .agg l=>Oz l | .Aj l=>Oz l |_=>ak
def Oz:List Sh->Bool
 |[]=>aC |x::r=>G6 x&&Oz r
end
def Vo(c:Core)(F:List Sh->Tree Sh)(args:List SV):Tree (SV×Core):=
 match freeze c.hp (Jo args) with
 |none=>.fail |some hp=>match H8 hp args with
  |none=>.fail |some AX=>(F AX).bind fun r=>bif G6 r then ret c (CB r c.nx).1 else .fail
def maxS(A:Prim)(mx:Bool)(x y:SV):Option SV:=
 match IB x,IB y with
 |some (k,a,la),ay (l,b,lb)=>bif k==l then
   ay (bif la&&lb then .int k (bif mx then (bif decide (a<b) then b else a) else (bif decide (b<a) then b else a)) else .sym k (bif mx then A.max a b else A.min a b))
  else aK
 |_,_=>aK
def OA:Ty->SV->Bool
 | .str,.str _=>aC | .str,.sh (.str _)=>aC | .slice _,.gs _=>aC | .slice _,.sh (.sl _ _ _)=>aC | .slice _,.Aw=>aC | .slice _,.vw _ _=>aC |_,_=>ak
def Xl:SV->Option Int
 | .int .i64 n=>ay n | .sym .i64 n=>ay n |_=>aK
def Vp(C:Ctx)(c:Core)(e:Nat):List SV->Tree (SV×Core)
 |[s,i,.gs id']=>match C.ty e with
  |some te=>match MI c.hp te.size s,zX c.hp id' with
   |some (n,g),ay (.row cells e2 st2 m)=>
    bif MJ c.hp e s&&e==e2&&st2==te.size&&m==1 && !Nv s (.gs id')&&fV 0 te.size&&E8 cells then
     match H8 c.hp cells,Xl i,NV C.A i with
     |some l,ay iv,ay k=>.need (C.A.upTo iv n) (.need (C.A.room (C.A.addN n 1) te.bytes) (alloc (Ci c s) (.own e te.size (C.A.addN n 1) (C.A.ins g k l)) (.gs c.nx))) |_,_,_=>.fail
    else .fail
   |_,_=>.fail
  |none=>.fail
 |_=>.fail
def SK(C:Ctx)(c:Core)(e:Nat):List SV->Tree (SV×Core)
 |[.Aw,i]=>match C.ty e,Xl i,NV C.A i with
  |some te,ay iv,ay k=>.need (C.A.le 0 iv) (.need (C.A.room k te.bytes) (alloc c (.own e te.size 0 fun _=>[]) (.gs c.nx))) |_,_,_=>.fail
 |_=>.fail
def SL(C:Ctx)(call:Nat->List SV->Core->Tree (SV×Core))(c:Core)(k:Call):Tree (SV×Core):=
 let ev:=Bd c.tm
 match k.callee with
 | .builtin b=>match b,k.args.toList,k.argTypes.toList with
  | .len,[x],[t]=>match C.ty t with
   |some i=>bif OA i.ty (ev x) then Lh c (ajM C.A c.hp (ev x)) else .fail |none=>.fail
  | .delete,[m,k],t::_=>QU C c t (ev m) (ev k) | .append,[s,x],[t,u]=>bif t==u then match PD C c t (ev s) (ev x) with
    |some r=>r |none=>QO C c t (ev s) (ev x)
   else Pz C c t u (ev s) (ev x)
  | .max,[x,y],_=>Lh c (maxS C.A aC (ev x) (ev y)) | .min,[x,y],_=>Lh c (maxS C.A ak (ev x) (ev y)) |_,_,_=>.fail
 | .value f=>match ev f with
  | .fn g cs=>
   let args:=k.args.toList.map ev++cs
   match C.ins g with
   |some e=>Vp C c e args |none=>match C.grow g with
   |some e=>SK C c e args |none=>match C.spec g with
   |some F=>bif C.lend g then Vo c F args else spread c F args |none=>call g args c
  |_=>.fail
 |_=>.fail
def PG(C:Ctx)(call:Nat->List SV->Core->Tree (SV×Core))(c:Core)(o:Oper):Tree (SV×Core):=
 let ev:=Bd c.tm
 match o.op with
 | .move x=>ret c (ev x) | .assign x=>ret c (ev x) | .pick x a b=>Lh c (ahN C.A (ev x) (ev a) (ev b)) | .alloc e=>Ud C c e | .box e x=>bif (ev x).Zi then alloc c (.box (ev x).cells e) (.ptr c.nx 0) else .fail | .build t parts=>Ue C c t parts.toList | .buildSlice t n parts=>KQ C c t n parts.toList | .load t x=>Xj C c t (ev x) | .store t x v=>Uf C c t (ev x) (ev v) | .nilCheck x=>ZX c (ev x) | .binOp op t x y _=>ZW C c op t x y (isConst x||isConst y) | .unOp .not _ x=>Lh c (notS C.A (ev x)) | .unOp .neg _ x=>Lh c (negS C.A (ev x)) | .fieldAddr t x f=>MF C c t f (ev x) | .field t x f=>Ug C c t f (ev x) | .indexAddr t x i=>MG C c t (ev x) (ev i) | .extract x i=>Px c (ev x) i | .makeFunc (.func f) fs cs=>bif fs.size==0 then ret c (.fn f (cs.toList.map ev)) else .fail | .makeInterface t x=>match C.ty t with
  |some i=>match i.ty with
   | .iface=>.fail | .other=>.fail |_=>ret c (.CG t (ev x))
  |none=>.fail
 | .makeMap t aK=>PE C c t | .makeSlice t l k=>MH C c t (ev l) (ev k) (match l,k with| .tmp i,.tmp j=>i==j|_,_=>ak)
 | .slice t x lo hi aK=>Uh C c t (ev x) (lo.map ev) (hi.map ev) | .lookup t m k ok=>QT C c t (ev m) (ev k) ok | .insert t m k v=>Nw C c t (ev m) (ev k) (ev v) | .mapUpdate t m k v=>Nw C c t (ev m) (ev k) (ev v) | .mapEntry t m k=>NW C c t (ev m) (ev k) | .entryStore _ m s v=>KR c (ev m) (ev s) (ev v) | .call k=>SL C call c k | .convert t u x=>Xk C c t u (ev x) |_=>.fail
mutual
def SV.hard:SV->SV
 | .sym k n=>.int k n | .test b=>.bool b | .agg l=>.agg (ad5 l) | .Aj l=>.Aj (ad5 l) |x=>x
def ad5:List SV->List SV
 |[]=>[] |x::r=>x.hard::ad5 r
end
def exec(C:Ctx)(call:Nat->List SV->Core->Tree (SV×Core))(c:Core)(o:Oper):Tree (SV×Core):=
 bif C.lits then (PG C call c o).bind fun p=>.leaf (p.1.hard,p.2) else PG C call c o
mutual
def refs:SV->List Nat
 | .gs id=>[id] | .ptr id _=>[id] | .gp id _ _ _=>[id] | .mp id=>[id] | .agg l=>NY l | .Aj l=>NY l | .fn _ l=>NY l | .CG _ x=>refs x |_=>[]
def NY:List SV->List Nat
 |[]=>[] |x::r=>refs x++NY r
end
def ams:List (SV×SV)->List Nat
 |[]=>[] |(a,b)::r=>refs a++refs b++ams r
def ahR:List (Int×Bool×SV)->List Nat
 |[]=>[] |(_,_,b)::r=>refs b++ahR r
def amu:List ((Int×List UInt8)×Bool×SV)->List Nat
 |[]=>[] |(_,_,b)::r=>refs b++amu r
def amv:SB->List Nat
 | .box l _=>NY l | .row l _ _ _=>NY l | .map es=>ams es | .Gx _ _ _ _ l=>NY l | .fm _ _ fs us _=>ahR fs++ahR us | .pm _ _ us=>amu us |_=>[]
def reach(hp:List (Nat×SB)):Nat->List Nat->List Nat->List Nat
 |0,_,seen=>seen |_,[],seen=>seen |n+1,i::r,seen=>bif seen.contains i then reach hp n r seen else match zX hp i with
  |some b=>reach hp n (amv b++r) (i::seen) |none=>reach hp n r (i::seen)
def Ls(hp:List (Nat×SB)):List Nat->List Nat
 |[]=>[] |i::r=>match zX hp i with
  |some b=>amv b++Ls hp r |none=>Ls hp r
def dropKey(p:Nat->Bool):List (Nat×SB)->List (Nat×SB)
 |[]=>[] |(i,b)::r=>bif p i then dropKey p r else (i,b)::dropKey p r
def gc(nx lim:Nat)(v:SV)(c:Core):List (Nat×SB):=
 let live:=reach c.hp 4000 (refs v++Ls c.hp c.tc) []
 dropKey (fun i=>gV nx i&&fV i lim && !live.contains i) c.hp
def QA(tm:List SV)(dst:Option Nat)(v:SV):List SV:=
 match dst with
 |some d=>tm.set d v |none=>tm
def Core.put(c:Core)(dst:Option Nat)(v:SV):Core:={c with tm:=QA c.tm dst v}
def opAt(l:List Oper)(i:Nat):Option Oper:=l[i]?
inductive Want where
 |yes|no|ask (slot:Nat) (b want:Bool) |lost
def Ny(ops:List Oper)(tm:List SV)(o:Oper):Want:=
 match o.guard with
 |none=>.yes |some (j,b)=>match (opAt ops j).bind (·.dst) with
  |some d=>match tm.getD d .any with
   | .bool c=>bif c==b then .yes else .no | .test c=>.ask d c b | .Aj _=>.no |_=>.lost
  |none=>.lost
def skV(ops:List Oper)(i:Nat):SV:=
 bif ops.any (fun o=>match o.guard with|some (j,_)=>fB j i|none=>ak) then .Aj [] else .any
def afl(C:Ctx)(call:Nat->List SV->Core->Tree (SV×Core))(c:Core)(o:Oper):Tree Core:=
 (exec C call c o).bind fun p=>.leaf (p.2.put o.dst p.1)
def Zz(C:Ctx)(call:Nat->List SV->Core->Tree (SV×Core))(ops:List Oper)(c:Core)(i:Nat):Tree Core:=
 match opAt ops i with
 |none=>.leaf c |some o=>match Ny ops c.tm o with
  | .yes=>afl C call c o | .no=>.leaf (c.put o.dst (skV ops i)) | .ask d t b=>.node t
    (let c':=c.put (ay d) (.bool aC);bif b then afl C call c' o else .leaf (c'.put o.dst (skV ops i)))
    (let c':=c.put (ay d) (.bool ak);bif b then .leaf (c'.put o.dst (skV ops i)) else afl C call c' o)
  | .lost=>.fail
def CW:Op->Bool
 | .move _| .assign _| .pick .. | .load .. | .nilCheck _| .binOp .. | .unOp .. | .fieldAddr .. | .field .. | .indexAddr .. | .extract .. | .makeFunc .. | .makeInterface .. | .build .. | .lookup ..=>aC | .call {callee:=.builtin .len,..} | .call {callee:=.builtin .max,..} | .call {callee:=.builtin .min,..}=>aC |_=>ak
def Lu(hp:List (Nat×SB))(unl:List Nat):List (Nat×SB):=
 match hp with
 |[]=>[] |(j,x)::l=>bif unl.contains j then Lu l unl else (j,x)::Lu l unl
def JJ:SV->Bool
 | .sh (.er _ _)=>aC |_=>ak
def Ku(tm:List SV):Op->Bool
 | .load .. | .lookup ..=>ak | .binOp _ _ x y _=>!(JJ (Bd tm x)&&JJ (Bd tm y)) |o=>CW o
def OB(o:Oper):List Nat:=(o.after.toList.filter (jE .any)).map (·.on)
def OC(all:List Bool):List Oper->Nat->List Bool->List Nat
 |o::r,i,b::l=>bif !b&&(OB o).all (fun j=>all.getD j ak) then i::OC all r (i+1) l else OC all r (i+1) l |_,_,_=>[]
def ad7(ops:Array Oper)(listed:Array Bool):List Nat:=OC listed.toList ops.toList 0 listed.toList
def Vq(ops:Array Oper)(oi:Oper)(i:Nat):List Oper->Nat->List Bool->Bool
 |o::r,j,b::l=>(fB j i||b||(OB o).contains i||oi.apart ops o)&&Vq ops oi i r (j+1) l |_,_,_=>aC
def ad8(ops:Array Oper)(listed:Array Bool)(i:Nat):Bool:=
 match opAt ops.toList i with
 |none=>ak |some oi=>Vq ops oi i ops.toList 0 listed.toList
theorem ahS(a b:Nat):@qP Nat Vf a b=@qP Nat instBEqOfDecidableEq a b:=by
 by_cases h:a=b
 ·subst h
  rw[@beq_self_eq_true Nat Vf,@beq_self_eq_true Nat instBEqOfDecidableEq]
 ·have h1:@qP Nat Vf a b=ak:=by
   cases hb:@qP Nat Vf a b with
   |false=>rfl |true=>exact (h (@eq_of_beq Nat Vf ahL a b hb)).elim
  have h2:@qP Nat instBEqOfDecidableEq a b=ak:=decide_eq_false h;rw[h1,h2]
theorem Yo{l:List Nat}{p q:Nat->Bool}(h:∀j,j∈l->p j=q j):l.all p=l.all q:=by
 induction l with
 |nil=>rfl |cons x r ih=>rw[kZ,kZ,h x (List.mem_cons_self ..),ih fun j hj=>h j (List.mem_cons_of_mem _ hj)]
theorem Yp(all:List Bool):∀(ops:List Oper) (k:Nat) (l:List Bool),(∀i,l.getD i aC=all.getD (k+i) aC)->
  OC all ops k l=(kU k ops.length).filter fun i=>!all.getD i aC&&((ops[i - k]?).map (·.after.all fun e=>!Region.binds .any e||all.getD e.on ak)).getD ak
 |[],k,l,_=>by cases l<;>rfl |o::r,k,[],h=>by
  have h2:∀i,all.getD (k+i) aC=aC:=fun i=>by rw[<-h i];simp
  simp only[OC];symm
  rw[List.filter_eq_nil_iff];intro i hi;have:=kV.1 hi;have e:=h2 (i - k);rw[show k+(i - k)=i by omega] at e;simp only[aY] at e;simp[e]
 |o::r,k,b::l,h=>by
  have h0:=h 0;simp only[rW,jv] at h0;have ih:=Yp all r (k+1) l (fun i=>by have:=h (i+1);simp only[rX] at this;rw[this];congr 1;omega);have he:(OB o).all (fun j=>all.getD j ak)=o.after.all fun e=>!Region.binds .any e||all.getD e.on ak:=by
   rw[<-Array.all_toList];unfold OB;generalize o.after.toList=es;induction es with
   |nil=>rfl |cons e es ih=>
    simp only[nY,kZ];cases jE .any e
    ·simp
    ·simp only[if_true,jk,kZ,Bool.not_true,Bool.false_or]
     rw[ih]
  have ht:(kU (k+1) r.length).filter (fun i=>!all.getD i aC&&((r[i - (k+1)]?).map (·.after.all fun e=>!Region.binds .any e||all.getD e.on ak)).getD ak) =
    (kU (k+1) r.length).filter (fun i=>!all.getD i aC&&(((o::r)[i - k]?).map (·.after.all fun e=>!Region.binds .any e||all.getD e.on ak)).getD ak):=by
   refine tV fun i hi=>?_
   have:=kV.1 hi;rw[show i - k=(i - (k+1))+1 by omega,jJ]
  simp only[OC,iP,uJ,nY,ih,ht,he,h0,qw,jK,Option.map_some,Option.getD_some];cases (!all.getD k aC&&o.after.all fun e=>!Region.binds .any e||all.getD e.on ak)<;>rfl
theorem acU{listed:Array Bool}(i:Nat)(d:Bool):listed.getD i d=listed.toList.getD i d:=by
 rw[iJ,aY,dV]
theorem ahT(ops:Array Oper)(listed:Array Bool):ad7 ops listed=kF .any ops listed:=by
 unfold ad7 kF;rw[Yp listed.toList ops.toList 0 listed.toList (fun i=>by rw[gJ]),bU,qZ];refine tV fun i _=>?_
 simp only[acU,tX,dV]
theorem Z5(ops:Array Oper)(oi:Oper)(i:Nat)(all:List Bool):∀(r:List Oper) (k:Nat) (l:List Bool),(∀j,l.getD j aC=all.getD (k+j) aC)->
  Vq ops oi i r k l=(kU k r.length).all fun j=>j==i||all.getD j aC||match r[j - k]? with
   |some oj=>oj.after.any (fun e=>jE .any e&&e.on==i)||oi.apart ops oj |none=>aC
 |[],k,l,_=>by cases l<;>rfl |o::r,k,[],h=>by
  have h2:∀i,all.getD (k+i) aC=aC:=fun i=>by rw[<-h i];simp
  simp only[Vq];symm
  rw[List.all_eq_true];intro j hj;have:=kV.1 hj;have e:=h2 (j - k);rw[show k+(j - k)=j by omega] at e;simp only[aY] at e;simp[e]
 |o::r,k,b::l,h=>by
  have h0:=h 0;simp only[rW,jv] at h0;have ih:=Z5 ops oi i all r (k+1) l (fun i=>by have:=h (i+1);simp only[rX] at this;rw[this];congr 1;omega);have he:(OB o).contains i=o.after.any fun e=>jE .any e&&e.on==i:=by
   rw[<-Array.any_toList];unfold OB;generalize o.after.toList=es;induction es with
   |nil=>rfl |cons e es ih=>
    simp only[nY,List.any_cons];cases jE .any e
    ·simpa using ih
    ·simp only[if_true,jk,List.contains_cons,Bool.true_and]
     rw[ih];congr 1;cases h1:(e.on==i)<;>cases h2:(i==e.on)<;>simp_all
  have ht:(kU (k+1) r.length).all (fun j=>j==i||all.getD j aC||match r[j - (k+1)]? with
     |some oj=>oj.after.any (fun e=>jE .any e&&e.on==i)||oi.apart ops oj |none=>aC) =
    (kU (k+1) r.length).all (fun j=>j==i||all.getD j aC||match (o::r)[j - k]? with
     |some oj=>oj.after.any (fun e=>jE .any e&&e.on==i)||oi.apart ops oj |none=>aC):=by
   refine Yo fun j hj=>?_
   have:=kV.1 hj;rw[show j - k=(j - (k+1))+1 by omega,jJ]
  have hb:fB k i=(k==i):=rfl;simp only[Vq,iP,uJ,kZ];rw[ih,ht,he,h0,hb];simp only[qw,jK,Bool.or_assoc]
theorem acV(ops:Array Oper)(listed:Array Bool)(i:Nat):ad8 ops listed i=kS .any ops listed i:=by
 have hop:opAt ops.toList i=ops[i]?:=by simp[opAt]
 unfold ad8 kS;rw[hop];cases ops[i]? with
 |none=>rfl |some oi=>
  simp only;rw[Z5 ops oi i listed.toList ops.toList 0 listed.toList (fun i=>by rw[gJ]),bU,qZ];refine Yo fun j _=>?_
  simp only[acU,tX,dV];simp only[ahS];rfl
inductive Quiet where
 |take (i:Nat) (needs:List Bool) (v v0:SV)
 |ask (slot:Nat) (b:Bool)
 |no
def ad9:Nat->List SV->Core->Tree (SV×Core):=fun _ _ _=>.fail
def aea:Option (List Bool×SV)->Option (List Bool×SV)
 |some (_,.any)=>aK |r=>r
def DU:Tree (SV×Core)->List Bool->Option (List Bool×SV)
 | .leaf p,bs=>ay (bs,p.1) | .need b t,bs=>DU t (b::bs) |_,_=>aK
def SN(C:Ctx)(Ba:Array Oper)(lock:List (Nat×SB))(listed:Array Bool)(Hy:List SV)(c:Core)(i:Nat):Quiet:=
 match opAt Ba.toList i with
 |none=>.no |some o=>match Ny Ba.toList c.tm o with
  | .ask d t _=>.ask d t | .no=>bif ad8 Ba listed i then .take i [] (skV Ba.toList i) (skV Ba.toList i) else .no | .yes=>bif CW o.op&&ad8 Ba listed i then
    match aea (DU (exec C ad9 {c with tm:=Hy,hp:=lock} o) []) with
    |some (bs,v)=>.take i bs v v |none=>bif Ku c.tm o.op then match DU (exec C ad9 c o) [] with
     |some (bs,v)=>.take i bs v .any |none=>.no
     else .no
   else .no
  | .lost=>.no
def Vr(C:Ctx)(Ba:Array Oper)(lock:List (Nat×SB))(listed:Array Bool)(Hy:List SV)(c:Core):List Nat->Quiet
 |[]=>.no |i::r=>match SN C Ba lock listed Hy c i with
  | .no=>Vr C Ba lock listed Hy c r |q=>q
def needs{α:Type}(t:Tree α):List Bool->Tree α
 |[]=>t |b::r=>.need b (needs t r)
def allOf{α:Type}(f:Nat->Tree α):List Nat->Tree α
 |[]=>.fail |[i]=>f i |i::r=>.both (f i) (allOf f r)
def disjoint(l:List Nat)(hp:List (Nat×SB)):Bool:=l.all fun i=>(zX hp i).isNone
def Jq(c:Core)(n:Nat):Nat:=Nat.min 1048576 ((c.lim - c.nx) / (n+1))
def explore(C:Ctx)(call:Nat->List SV->Core->Tree (SV×Core))(base step:Nat)(Ba:Array Oper)(lock:List (Nat×SB)):
  Nat->Array Bool->List SV->Core->Tree Core
 |0,_,_,_=>.fail |n+1,listed,Hy,c=>
  match ad7 Ba listed with
  |[]=>.leaf c |rs=>match Vr C Ba lock listed Hy c rs with
   | .take i bs v v0=>let d:=(opAt Ba.toList i).bind (·.dst)
    needs (explore C call base step Ba lock n (listed.setIfInBounds i aC) (QA Hy d v0) (c.put d v)) bs
   | .ask d t=>.node t (explore C call base step Ba lock n listed (Hy.set d (.bool aC)) (c.put (ay d) (.bool aC))) (explore C call base step Ba lock n listed (Hy.set d (.bool ak)) (c.put (ay d) (.bool ak))) | .no=>allOf (fun i=>(Zz C call Ba.toList {c with tc:=[],nx:=base+step*i,lim:=base+step*(i+1)} i).bind fun c'=>
     bif disjoint c'.tc lock then explore C call base step Ba lock n (listed.setIfInBounds i aC) (QA Hy ((opAt Ba.toList i).bind (·.dst)) .any) {c' with tc:=c'.tc++c.tc,nx:=c.nx,lim:=c.lim} else .fail) rs
def EK(a b:Option (List Bh)):Option (List Bh):=
 match a,b with
 |some x,ay y=>ay (x++y) |_,_=>aK
def CO(c:Bool)(a:Option (List Bh)):Option (List Bh):=bif c then a else aK
def amw:Sh->Sh->Option (List Bh)
 | .er g t,.er h u=>CO (g==h&&t==u) (ay []) |s,s'=>ay [.sh s s']
mutual
def Yq:SV->SV->Option (List Bh)
 | .any,.any=>ay [] | .int k n,.int l m=>CO (k==l&&n==m) (ay []) | .sym k n,.sym l m=>CO (k==l) (ay [.int n m]) | .bool a,.bool b=>CO (a==b) (ay []) | .test a,.test b=>ay [.bool a b] | .str a,.str b=>CO (a==b) (ay []) | .val v,.val u=>ay [.val v u] | .ptr a b,.ptr c d=>CO (a==c&&b==d) (ay []) | .gs a,.gs b=>CO (a==b) (ay []) | .gp a st i o,.gp a' st' i' o'=>CO (a==a'&&st==st'&&o==o') (ay [.nat i i']) | .Gl st n g i o,.Gl st' n' g' i' o'=>CO (st==st'&&o==o') (ay [.nat n n',.Le g g',.nat i i']) | .EJ,.EJ=>ay [] | .Aw,.Aw=>ay [] | .F7,.F7=>ay [] | .DK,.DK=>ay [] | .Fp,.Fp=>ay [] | .fn f l,.fn g m=>CO (f==g) (KT l m) | .agg l,.agg m=>KT l m | .Aj l,.Aj m=>KT l m | .CG t x,.CG u y=>CO (t==u) (Yq x y) | .mp a,.mp b=>CO (a==b) (ay []) | .glob a,.glob b=>CO (a==b) (ay []) | .ev a,.ev b=>CO (a==b) (ay []) | .sh s,.sh u=>amw s u |_,_=>aK
def KT:List SV->List SV->Option (List Bh)
 |[],[]=>ay [] |x::l,y::m=>EK (Yq x y) (KT l m) |_,_=>aK
end
def Xm:List (SV×SV)->List (SV×SV)->Option (List Bh)
 |[],[]=>ay [] |(a,b)::l,(c,d)::m=>EK (Yq a c) (EK (Yq b d) (Xm l m)) |_,_=>aK
def Z7:List (Int×Bool×SV)->List (Int×Bool×SV)->Option (List Bh)
 |[],[]=>ay [] |(a,p,b)::l,(c,q,d)::m=>CO (p==q) (EK (ay [.int a c]) (EK (Yq b d) (Z7 l m))) |_,_=>aK
def acW:List ((Int×List UInt8)×Bool×SV)->List ((Int×List UInt8)×Bool×SV)->Option (List Bh)
 |[],[]=>ay [] |((a,s),p,b)::l,((c,t),q,d)::m=>CO (p==q) (EK (ay [.int a c,.str s t]) (EK (Yq b d) (acW l m))) |_,_=>aK
def ahU:Option (Nat×Int)->Option (Nat×Int)->Option (List Bh)
 |none,aK=>ay [] |some (a,n),ay (b,m)=>CO (a==b) (ay [.int n m]) |_,_=>aK
def amx:SB->SB->Option (List Bh)
 | .box l e,.box m f=>CO (e==f) (KT l m) | .row l e s n,.row m f t k=>CO (e==f&&s==t&&n==k) (KT l m) | .own e s n g,.own f t m h=>CO (e==f&&s==t) (ay [.nat n m,.Le g h]) | .fz s n g,.fz t m h=>CO (s==t) (ay [.nat n m,.Le g h]) | .map l,.map m=>Xm l m | .QI l,.QI m=>ay [.sh (.pt l) (.pt m)] | .Gx e s n g x,.Gx f t m h y=>CO (e==f&&s==t) (EK (ay [.nat n m,.Le g h]) (KT x y)) | .buf e l,.buf f m=>CO (e==f) (ay [.str l m]) | .fm k M fs us tg,.fm l N gs vs th=>CO (k==l) (EK (ay [.mp M N]) (EK (Z7 fs gs) (EK (Z7 us vs) (ahU tg th)))) | .pm vt M us,.pm wt N vs=>CO (vt==wt) (EK (ay [.mg M N]) (acW us vs)) |_,_=>aK
def acX:List (Nat×SB)->List (Nat×SB)->Option (List Bh)
 |[],[]=>ay [] |(i,a)::l,(j,b)::m=>CO (i==j) (EK (amx a b) (acX l m)) |_,_=>aK
def aeb(a b:Core):Option (List Bh):=CO (a.nx==b.nx&&a.lim==b.lim&&a.tc==b.tc) (EK (KT a.tm b.tm) (acX a.hp b.hp))
def afm(i:Nat):List Nat->List Nat
 |[]=>[i] |j::l=>bif i==j then j::l else bif fV i j then i::j::l else j::afm i l
def QV:List Nat->List Nat
 |[]=>[] |i::l=>afm i (QV l)
inductive Ob where
 |b (x:Bool)
 |e (l:List Bh)
def strip{α:Type}:Tree α->Option (List Ob×α)
 | .leaf a=>ay ([],a) | .need b t=>(strip t).map fun p=>(.b b::p.1,p.2) | .must l t=>(strip t).map fun p=>(.e l::p.1,p.2) |_=>aK
def wrap{α:Type}(t:Tree α):List Ob->Tree α
 |[]=>t | .b x::r=>.need x (wrap t r) | .e l::r=>.must l (wrap t r)
def Xn{α:Type}(l:List Bh)(t:Tree α):Tree α:=
 match l with
 |[]=>t |l=>.must l t
def ZA(t f:Tree Core):Tree Core:=
 match strip t,strip f with
 |some (o,a),ay (q,b)=>match aeb a b with
  |some l=>wrap (Xn l (.leaf a)) (o++q) |none=>.both t f
 |_,_=>.both t f
def merge:Tree Core->Tree Core
 | .both t f=>ZA (merge t) (merge f) | .node b t f=>.node b (merge t) (merge f) | .need b t=>.need b (merge t) | .must l t=>.must l (merge t) |t=>t
def ZB:Nat->List SV->List SV
 |_,[]=>[] |m,x::l=>(bif fB (m % 2) 1 then x else .any)::ZB (m / 2) l
def MK(C:Ctx)(g:Nat)(tm:List SV):List SV:=
 match C.live.get g with
 |some m=>ZB m tm |none=>tm
def SQ:SV->List Nat
 | .ptr id _=>[id] | .gp id _ _ _=>[id] | .gs id=>[id] | .mp id=>[id] |_=>[]
def touches(c:Core):Op->List Nat
 | .store _ x _=>SQ (Bd c.tm x) | .insert _ x _ _=>SQ (Bd c.tm x) | .mapUpdate _ x _ _=>SQ (Bd c.tm x) | .mapEntry _ x _=>SQ (Bd c.tm x) | .entryStore _ x _ _=>SQ (Bd c.tm x) | .call k=>match k.callee with
  | .value f=>reach c.hp 4000 (refs (Bd c.tm f)++NY (k.args.toList.map (Bd c.tm))) [] | .builtin .append=>NY (k.args.toList.map (Bd c.tm)) | .builtin .delete=>NY (k.args.toList.map (Bd c.tm)) |_=>[]
 | .slice _ x _ _ _=>SQ (Bd c.tm x) |_=>[]
def Xo(C:Ctx):List Oper->Core->List Nat->List Nat
 |[],_,acc=>acc |o::r,c,acc=>Xo C r (c.put o.dst (bif CW o.op then match DU (exec C ad9 c o) [] with
   |some (_,v)=>v |none=>.any
  else .any)) (touches c o.op++acc)
def drawn(C:Ctx)(call:Nat->List SV->Core->Tree (SV×Core))(g:Nat)(Ba:Array Oper)(c:Core):Tree Core:=
 let lock:=Lu c.hp (Xo C Ba.toList c [])
 bif gV (c.nx+Jq c Ba.size*Ba.size) c.lim&&Region.noSelect Ba then
  merge ((explore C call c.nx (Jq c Ba.size) Ba lock (2*Ba.size+1) (Array.replicate Ba.size ak) c.tm {c with nx:=0,lim:=0}).bind fun c'=>.leaf {tm:=MK C g c'.tm,hp:=c'.hp,nx:=c.nx+Jq c Ba.size*Ba.size,lim:=c.lim,tc:=QV c'.tc})
 else .fail
inductive It where
 |code (p:List Nat)
 |inBlock (id:Nat)
 |reg (p:List Nat) (l:List Nat)
 |Xp
inductive Out where
 |done (v:SV) (c:Core)
 |stop (fn:Nat) (todo:List It) (c:Core)
def child:Code->Nat->Code
 | .seq a _,0=>a | .seq _ b,_=>b | .cond _ a _,0=>a | .cond _ _ b,_=>b | .block _ b,_=>b | .loop b,_=>b | .rangeFunc _ _ a _,0=>a | .rangeFunc _ _ _ b,_=>b |_,_=>.skip
def AA(c:Code):List Nat->Code
 |[]=>c |i::p=>child (AA c p) i
def FD(id:Nat):List It->Option (List It)
 | .inBlock j::k=>bif j==id then ay k else FD id k |_::k=>FD id k |[]=>aK
def Z8(C:Ctx)(c:Core):List ResultVar->Option (List SV)
 |[]=>ay [] | .tmp t::r=>match c.tm[t]?,Z8 C c r with
  |some v,ay l=>ay (v::l) |_,_=>aK
 | .cell a t::r=>match C.ty t,Z8 C c r with
  |some i,ay l=>(ad4 C c i.ty.isAgg i.size (c.tm.getD a .any)).map fun v=>v::l |_,_=>aK
def result(C:Ctx)(fn:Func)(c:Core):Tree Out:=
 match Z8 C c fn.results.toList with
 |some [v]=>.leaf (.done v c) |some l=>.leaf (.done (.Aj l) c) |none=>.fail
def Ae(fn:Func):Code:=match fn.body with|some b=>b|none=>.skip
def akU(c:Core):Out->Tree (SV×Core)
 | .done v c'=>.leaf (v,{tm:=c.tm,hp:=gc c.nx c.lim v c',nx:=c'.nx,lim:=c'.lim,tc:=c'.tc}) | .stop _ _ _=>.fail
def LV(C:Ctx)(run:Nat->List It->Core->Tree Out)(g:Nat)(args:List SV)(c:Core):Tree (SV×Core):=
 match C.fns.get g with
 |none=>.fail |some fn=>bif gV args.length fn.ntmps&&fn.body.isSome then
   (run g [.code []] {tm:=args++dR (fn.ntmps - args.length) .any,hp:=c.hp,nx:=c.nx,lim:=c.lim,tc:=c.tc}).bind (akU c)
  else .fail
def Vs:Operand->Option Nat
 | .tmp t=>ay t |_=>aK
inductive Sig where
 |go (td:List It) (c:Core)
 |done (v:SV) (c:Core)
 |halt (td:List It) (c:Core)
def aec:Out->Tree Sig
 | .done v c=>.leaf (.done v c) | .stop _ td c=>.leaf (.halt td c)
def QW(C:Ctx)(call:Nat->List SV->Core->Tree (SV×Core))(top:Bool)(g:Nat)(fn:Func)(td:List It)(c:Core):Tree Sig:=
 match td with
 |[]=>(result C fn c).bind aec | .inBlock _::k=>.leaf (.go k c) | .Xp::_=>.fail | .reg _ []::k=>.leaf (.go k {c with tm:=MK C g c.tm})
 | .reg p (i::r)::k=>match AA (Ae fn) p with
  | .region _ ops _=>(Zz C call ops.toList c i).bind fun c=>.leaf (.go (.reg p r::k) c) |_=>.fail
 | .code p::k=>match AA (Ae fn) p with
  | .skip=>.leaf (.go k c) | .ret=>(result C fn c).bind aec | .seq _ _=>.leaf (.go (.code (0::p)::.code (1::p)::k) c) | .block id _=>.leaf (.go (.code (0::p)::.inBlock id::k) c) | .loop _=>bif C.LU g p then .leaf (.halt td c) else .leaf (.go (.code (0::p)::.code p::k) c) | .exit id=>match FD id k with
   |some k=>.leaf (.go k c) |none=>.fail
  | .cond x _ _=>match Bd c.tm x with
   | .bool aC=>.leaf (.go (.code (0::p)::k) c) | .bool ak=>.leaf (.go (.code (1::p)::k) c) | .test b=>let d:=Vs x
    .node b (.leaf (.go (.code (0::p)::k) (c.put d (.bool aC)))) (.leaf (.go (.code (1::p)::k) (c.put d (.bool ak))))
   |_=>.fail
  | .region _ ops dr=>bif dr then
    let t:=drawn C call g ops c
    bif top && !t.lone then t.bind fun c=>.leaf (.halt k c) else t.bind fun c=>.leaf (.go k c)
   else .leaf (.go (.reg p (aX ops.size)::k) c)
  |_=>.fail
def run(C:Ctx):Nat->Bool->Nat->List It->Core->Tree Out
 |0,_,g,td,c=>.leaf (.stop g td c) |n+1,top,g,td,c=>
  match C.fns.get g with
  |none=>.fail |some fn=>(QW C (LV C (run C n ak)) top g fn td c).bind fun s=>match s with
   | .go td c=>run C n top g td c | .done v c=>.leaf (.done v c) | .halt td c=>.leaf (.stop g td c)
open Go.RowKit (Below)
abbrev Mem:=Nat->Option Obj
def Mem.le(H H':Mem):Prop:=∀b o,H b=ay o->H' b=ay o
def Mem.on(H:Mem)(w:World):Prop:=∀b o,H b=ay o->w.heap[b]?=ay o
def hcell(H:Mem)(b off:Nat):Option Value:=
 match H b with
 |some (.cells c _ _)=>c[off]? |_=>aK
theorem I9{H H':Mem}(h:H.le H'){b off:Nat}{v:Value}(hc:hcell H b off=ay v):hcell H' b off=ay v:=by
 unfold hcell at *;cases hb:H b with
 |none=>simp[hb] at hc |some o=>rw[h b o hb];rw[hb] at hc;exact hc
theorem LW{H:Mem}{w:World}(h:H.on w){b off:Nat}{v:Value}(hc:hcell H b off=ay v):w.cell? ⟨b,off,aK⟩=ay v:=by
 unfold hcell at hc;cases hb:H b with
 |none=>simp[hb] at hc |some o=>
  rw[hb] at hc;have:=h b o hb;cases o<;>simp at hc
  simp[nZ,this,hc]
inductive Rep(H:Mem):Sh->Value->Prop
 |i (k:IntKind) (n:Int):Rep H (.i k n) (.int k n)
 |b (x:Bool):Rep H (.b x) (.bool x)
 |str (l:List UInt8):Rep H (.str l) (.string ⟨l.toArray⟩)
 |v (x:Value) (h:x.oneCell'=aC):Rep H (.v x) x
 |sl0 (st:Nat) (g:Nat->List Sh) (A:Option Addr) (cap:Nat):cap<=maxLen->Rep H (.sl st 0 g) (.slice A 0 cap)
 |sl (st n:Nat) (g:Nat->List Sh) (b off cap:Nat) (c:Nat->Nat->Value):n<=cap->cap<=maxLen->(∀(i:Nat),i<n->(g i).length=st)->
   (∀(i j:Nat),i<n->j<st->hcell H b (off+i*st+j)=ay (c i j))->(∀(i j:Nat),i<n->j<st->(c i j).oneCell'=aC)->
   (∀(i j:Nat) (s:Sh),i<n->(g i)[j]?=ay s->Rep H s (c i j))->Rep H (.sl st n g) (.slice (ay ⟨b,off,aK⟩) n cap)
 |agg (l:List Sh) (vs:Array Value):vs.size=l.length->(∀(j:Nat) (s:Sh) (v:Value),l[j]?=ay s->vs[j]?=ay v->Rep H s v)->Rep H (.agg l) (.agg vs)
 |Aj (l:List Sh) (vs:Array Value):vs.size=l.length->(∀(j:Nat) (s:Sh) (v:Value),l[j]?=ay s->vs[j]?=ay v->Rep H s v)->Rep H (.Aj l) (.tuple vs)
 |CG (t:Nat) (x:Sh) (u:Value):Rep H x u->Rep H (.CG t x) (.iface t u)
 |fn (f:Nat) (l:List Sh) (vs:Array Value):vs.size=l.length->(∀(j:Nat) (s:Sh) (v:Value),l[j]?=ay s->vs[j]?=ay v->Rep H s v)->Rep H (.fn f l) (.func (.func f) #[] vs)
 |er (g T:Nat) (b:Addr) (cs:Array Value) (e:Nat):hcell H g 0=ay (.iface T (.pointer (ay b)))->H b.block=ay (.cells cs e (0,0))->
   Rep H (.er g T) (.iface T (.pointer (ay b)))
 |pt (l:List Sh) (b off:Nat) (c:Nat->Value):(∀(j:Nat),j<l.length->hcell H b (off+j)=ay (c j))->(∀(j:Nat),j<l.length->(c j).oneCell'=aC)->(∀(j:Nat) (s:Sh),l[j]?=ay s->Rep H s (c j))->
   Rep H (.pt l) (.pointer (ay ⟨b,off,aK⟩))
theorem Rep.le{H H':Mem}(h:H.le H'){s:Sh}{v:Value}(r:Rep H s v):Rep H' s v:=by
 induction r with
 |i k n=>exact .i k n |b x=>exact .b x |str l=>exact .str l |v x hx=>exact .v x hx |sl0 st g A cap hc=>exact .sl0 st g A cap hc |sl st n g b off cap c h1 h2 h3 h4 h5 _ ih=>exact .sl st n g b off cap c h1 h2 h3 (fun i j hi hj=>I9 h (h4 i j hi hj)) h5 ih |agg l vs hs _ ih=>exact .agg l vs hs ih |Aj l vs hs _ ih=>exact .Aj l vs hs ih |CG t x u _ ih=>exact .CG t x u ih |fn f l vs hs _ ih=>exact .fn f l vs hs ih |er g T b cs e h1 h2=>exact .er g T b cs e (I9 h h1) (h _ _ h2) |pt l b off c h1 h2 _ ih=>exact .pt l b off c (fun j hj=>I9 h (h1 j hj)) h2 ih
def Dq(H:Mem):List Sh->List Value->Prop
 |[],[]=>True |s::l,v::vs=>Rep H s v/\Dq H l vs |_,_=>False
theorem Dq.le{H H':Mem}(h:H.le H'):∀{l:List Sh} {vs:List Value},Dq H l vs->Dq H' l vs
 |[],[],_=>trivial |_::_,_::_,⟨a,b⟩=>⟨a.le h,Dq.le h b⟩ |[],_::_,h=>h.elim |_::_,[],h=>h.elim
theorem Dq.length{H:Mem}:∀{l:List Sh} {vs:List Value},Dq H l vs->vs.length=l.length
 |[],[],_=>rfl |_::_,_::_,⟨_,b⟩=>by simp[Dq.length b] |[],_::_,h=>h.elim |_::_,[],h=>h.elim
theorem Dq.at_{H:Mem}:∀{l:List Sh} {vs:List Value},Dq H l vs->∀{j:Nat} {s:Sh} {v:Value},l[j]?=ay s->vs[j]?=ay v->Rep H s v
 |_::_,_::_,⟨a,_⟩,0,_,_,h1,h2=>by simp at h1 h2;subst h1;subst h2;exact a |_::_,_::_,⟨_,b⟩,j+1,_,_,h1,h2=>Dq.at_ b (by simpa using h1) (by simpa using h2) |[],[],_,_,_,_,h1,_=>by simp at h1 |[],_::_,h,_,_,_,_,_=>h.elim |_::_,[],h,_,_,_,_,_=>h.elim
theorem Dq.NZ{H:Mem}:∀{l:List Sh} {vs:List Value},vs.length=l.length->(∀(j:Nat) (s:Sh) (v:Value),l[j]?=ay s->vs[j]?=ay v->Rep H s v)->Dq H l vs
 |[],[],_,_=>trivial |_::_,_::_,hl,h=>⟨h 0 _ _ rfl rfl,Dq.NZ (by simpa using hl) fun j s v h1 h2=>h (j+1) s v (by simpa using h1) (by simpa using h2)⟩ |[],_::_,h,_=>by simp at h |_::_,[],h,_=>by simp at h
def BN(H:Mem)(st n:Nat)(g:Nat->List Sh)(xs:List Value):Prop:=
 xs.length=n*st/\(∀i,i<n->(g i).length=st)/\(∀u∈xs,u.oneCell'=aC)/\
 ∀(i j:Nat) (s:Sh) (v:Value),i<n->(g i)[j]?=ay s->xs[i*st+j]?=ay v->Rep H s v
theorem BN.le{H H':Mem}(h:H.le H'){st n:Nat}{g:Nat->List Sh}{xs:List Value}(r:BN H st n g xs):BN H' st n g xs:=
 ⟨r.1,r.2.1,r.2.2.1,fun i j s v hi h1 h2=>(r.2.2.2 i j s v hi h1 h2).le h⟩
abbrev Env:=Nat->Option Value
def Env.le(E E':Env):Prop:=∀i v,E i=ay v->E' i=ay v
def Ah:Value->Option Nat
 | .pointer (ay ⟨b,0,aK⟩)=>ay b | .slice (ay ⟨b,0,aK⟩) _ _=>ay b | .map (ay b)=>ay b |_=>aK
def lenV:Value->Nat
 | .slice _ n _=>n |_=>0
mutual
def Den(H:Mem)(E:Env):SV->Value->Prop
 | .any,_=>True | .val v,u=>u=v/\v.oneCell'=aC | .int k n,u=>u=.int k n | .sym k n,u=>u=.int k n | .bool b,u=>u=.bool b | .test b,u=>u=.bool b | .str l,u=>u=.string ⟨l.toArray⟩ | .ptr id off,u=>∃b,(E id).bind Ah=ay b/\u=.pointer (ay ⟨b,off,aK⟩) | .gs id,u=>E id=ay u/\∃A n c,u=.slice A n c | .gp id st i off,u=>∃b v,E id=ay v/\Ah v=ay b/\i<lenV v/\u=.pointer (ay ⟨b,i*st+off,aK⟩) | .EJ,u=>u=.pointer aK | .Aw,u=>u=.slice aK 0 0 | .F7,u=>u=.nilFunc | .DK,u=>u=.nilIface | .Fp,u=>u=.map aK | .fn f l,u=>∃vs:Array Value,u=.func (.func f) #[] vs/\Af H E l vs.toList | .agg l,u=>∃vs:Array Value,u=.agg vs/\Af H E l vs.toList | .Aj l,u=>∃vs:Array Value,u=.tuple vs/\Af H E l vs.toList | .CG t x,u=>∃v,u=.iface t v/\Den H E x v | .mp id,u=>∃b,E id=ay (.map (ay b))/\u=.map (ay b) | .sh s,u=>Rep H s u | .Gl st n g i off,u=>∃(b o:Nat) (c:Nat->Value),u=.pointer (ay ⟨b,o+off,aK⟩)/\i<n/\(g i).length=st/\
   (∀j,j<st->hcell H b (o+j)=ay (c j)/\(c j).oneCell'=aC)/\∀(j:Nat) (s:Sh),(g i)[j]?=ay s->Rep H s (c j)
 | .glob g,u=>u=.pointer (ay ⟨g,0,aK⟩) | .ev id,u=>E id=ay u | .vw id n,u=>∃A m c,E id=ay (.slice A m c)/\n<=m/\u=.slice A n c
def Af(H:Mem)(E:Env):List SV->List Value->Prop
 |[],[]=>True |s::l,v::vs=>Den H E s v/\Af H E l vs |_,_=>False
end
section
variable{H H':Mem}{E E':Env}
mutual
theorem Den.le(hH:H.le H')(hE:E.le E'):∀{s:SV} {v:Value},Den H E s v->Den H' E' s v
 | .any,_,_=>trivial | .val _,_,h=>h | .int _ _,_,h=>h | .sym _ _,_,h=>h | .bool _,_,h=>h | .test _,_,h=>h | .str _,_,h=>h | .ptr id off,u,⟨b,h1,h2⟩=>⟨b,by
   cases he:E id with
   |none=>simp[he] at h1 |some v=>rw[hE _ _ he];simpa[he] using h1,h2⟩
 | .gs id,u,⟨h,h'⟩=>⟨hE _ _ h,h'⟩ | .gp id st i off,u,⟨b,v,h1,h2⟩=>⟨b,v,hE _ _ h1,h2⟩ | .EJ,_,h=>h | .Aw,_,h=>h | .F7,_,h=>h | .DK,_,h=>h | .Fp,_,h=>h | .fn _ _,_,⟨vs,h1,h2⟩=>⟨vs,h1,Af.le hH hE h2⟩ | .agg _,_,⟨vs,h1,h2⟩=>⟨vs,h1,Af.le hH hE h2⟩ | .Aj _,_,⟨vs,h1,h2⟩=>⟨vs,h1,Af.le hH hE h2⟩ | .CG _ _,_,⟨v,h1,h2⟩=>⟨v,h1,Den.le hH hE h2⟩ | .mp id,_,⟨b,h1,h2⟩=>⟨b,hE _ _ h1,h2⟩ | .sh _,_,h=>Rep.le hH h | .Gl _ _ _ _ _,_,⟨b,o,c,h1,h2,h3,h4,h5⟩=>⟨b,o,c,h1,h2,h3,fun j hj=>⟨I9 hH (h4 j hj).1,(h4 j hj).2⟩,fun j s hs=>(h5 j s hs).le hH⟩ | .glob _,_,h=>h | .ev _,_,h=>hE _ _ h | .vw _ _,_,⟨A,m,c,h1,h2⟩=>⟨A,m,c,hE _ _ h1,h2⟩
theorem Af.le(hH:H.le H')(hE:E.le E'):∀{l:List SV} {vs:List Value},Af H E l vs->Af H' E' l vs
 |[],[],_=>trivial |_::_,_::_,⟨a,b⟩=>⟨Den.le hH hE a,Af.le hH hE b⟩ |[],_::_,h=>h.elim |_::_,[],h=>h.elim
end
theorem Af.length:∀{l:List SV} {vs:List Value},Af H E l vs->vs.length=l.length
 |[],[],_=>rfl |_::_,_::_,⟨_,b⟩=>by simp[Af.length b] |[],_::_,h=>h.elim |_::_,[],h=>h.elim
theorem Af.at_:∀{l:List SV} {vs:List Value},Af H E l vs->∀{j:Nat} {s:SV} {v:Value},l[j]?=ay s->vs[j]?=ay v->Den H E s v
 |_::_,_::_,⟨a,_⟩,0,_,_,h1,h2=>by simp at h1 h2;subst h1;subst h2;exact a |_::_,_::_,⟨_,b⟩,j+1,_,_,h1,h2=>Af.at_ b (by simpa using h1) (by simpa using h2) |[],[],_,_,_,_,h1,_=>by simp at h1 |[],_::_,h,_,_,_,_,_=>h.elim |_::_,[],h,_,_,_,_,_=>h.elim
theorem Af.get:∀{l:List SV} {vs:List Value},Af H E l vs->∀{j:Nat} {s:SV},l[j]?=ay s->∃v,vs[j]?=ay v/\Den H E s v:=by
 intro l vs h j s hs;have hj:j<l.length:=(aU.1 hs).1;have hj':j<vs.length:=by rw[h.length];exact hj
 exact ⟨vs[j],aV hj',h.at_ hs (aV hj')⟩
theorem Af.append:∀{l l':List SV} {vs vs':List Value},Af H E l vs->Af H E l' vs'->Af H E (l++l') (vs++vs')
 |[],_,[],_,_,h'=>h' |_::_,_,_::_,_,⟨a,b⟩,h'=>⟨a,Af.append b h'⟩ |[],_,_::_,_,h,_=>h.elim |_::_,_,[],_,h,_=>h.elim
theorem Af.drop:∀{l:List SV} {vs:List Value},Af H E l vs->∀n,Af H E (l.drop n) (vs.drop n)
 |_,_,h,0=>h |[],[],_,_+1=>trivial |_::_,_::_,⟨_,b⟩,n+1=>Af.drop b n |[],_::_,h,_+1=>h.elim |_::_,[],h,_+1=>h.elim
theorem Af.take:∀{l:List SV} {vs:List Value},Af H E l vs->∀n,Af H E (l.take n) (vs.take n)
 |_,_,_,0=>by simp[Af] |[],[],_,_+1=>trivial |_::_,_::_,⟨a,b⟩,n+1=>⟨a,Af.take b n⟩ |[],_::_,h,_+1=>h.elim |_::_,[],h,_+1=>h.elim
theorem Af.set:∀{l:List SV} {vs:List Value},Af H E l vs->∀(n:Nat) {s:SV} {v:Value},Den H E s v->Af H E (l.set n s) (vs.set n v)
 |[],[],_,_,_,_,_=>trivial |_::_,_::_,⟨_,b⟩,0,_,_,h=>⟨h,b⟩ |_::_,_::_,⟨a,b⟩,n+1,_,_,h=>⟨a,Af.set b n h⟩ |[],_::_,h,_,_,_,_=>h.elim |_::_,[],h,_,_,_,_=>h.elim
theorem Af.any:∀(n:Nat) (vs:List Value),vs.length=n->Af H E (dR n .any) vs
 |0,[],_=>trivial |n+1,_::vs,h=>⟨trivial,Af.any n vs (by simpa using h)⟩ |0,_::_,h=>by simp at h |_+1,[],h=>by simp at h
end
structure Kx where
 w0:World
 own:Nat->Prop
 H0:Mem
def Mine(K:Kx)(H:Mem)(b:Nat):Prop:=H b=aK/\(K.w0.heap.size<=b\/K.own b)
def Nz(H:Mem)(E:Env):List (SV×SV)->List MapEntry->Prop
 |[],[]=>True |(k,v)::l,m::ms=>Den H E k m.key/\Den H E v m.val/\Nz H E l ms |_,_=>False
def F8(H:Mem)(E:Env):List (Int×Bool×SV)->List (Int×Option Value)->Prop
 |[],[]=>True |(k,p,sv)::l,(n,o)::r=>n=k/\(match p,o with|true,ay v=>Den H E sv v/\v.oneCell'=aC|false,aK=>True|_,_=>False)/\F8 H E l r
 |_,_=>False
def TI(M:Int->Option Value):List (Int×Option Value)->Int->Option Value
 |[]=>M |(n,o)::r=>fun k=>if k=n then o else TI M r k
abbrev DC:=Int×List UInt8
def CZ(n:DC):Value:=.agg #[.int .i64 n.1,.string ⟨n.2.toArray⟩]
def Vt(H:Mem)(E:Env):List (DC×Bool×SV)->List (DC×Option Value)->Prop
 |[],[]=>True |(k,p,sv)::l,(n,o)::r=>n=k/\(match p,o with|true,ay v=>Den H E sv v/\v.oneCell'=aC|false,aK=>True|_,_=>False)/\Vt H E l r
 |_,_=>False
def QX(M:DC->Option Value):List (DC×Option Value)->DC->Option Value
 |[]=>M |(n,o)::r=>fun k=>if k=n then o else QX M r k
def amy:VT->Value->Prop
 | .int,v=>∃n,v=.int .i64 n | .bool,v=>∃b,v=.bool b
def ajP(vt:VT)(M:DC->Option Value):Prop:=∀k v,M k=ay v->amy vt v
def amA(vt:VT)(us:List (DC×Bool×SV)):Prop:=∀u∈us,u.2.1=aC->u.2.2.acT vt=aC
structure Yr(ms:List MapEntry)(N:DC->Option Value):Prop where
 key:∀m∈ms,∃n,m.key=CZ n
 Zj:∀m∈ms,∀n,m.key=CZ n->N n=ay m.val
 ex:∀n v,N n=ay v->∃m∈ms,m.key=CZ n
 one:∀(i j:Nat) (m m':MapEntry),ms[i]?=ay m->ms[j]?=ay m'->m.key=m'.key->i=j
def Iu(k:IntKind)(n:Int):List MapEntry->Option Value
 |[]=>aK |m::r=>match Instr.sameNow (.int k) (.int k n) m.key with
  |some aC=>ay m.val |_=>Iu k n r
structure EY(k:IntKind)(ms:List MapEntry)(clk:Nat)(N:Int->Option Value):Prop where
 key:∀m∈ms,∃n,m.key=.int k n
 at_:∀n,Iu k n ms=N n
 one:∀(i j:Nat) (m m':MapEntry),ms[i]?=ay m->ms[j]?=ay m'->m.key=m'.key->i=j
 born:∀(i j:Nat) (m m':MapEntry),ms[i]?=ay m->ms[j]?=ay m'->m.born=m'.born->i=j
 lt:∀m∈ms,m.born<clk
def aed(E:Env)(k:IntKind)(ms:List MapEntry):Option (Nat×Int)->Prop
 |none=>True |some (s,n)=>∃m∈ms,m.key=.int k n/\E s=ay (.int .i64 m.born)
def bytesV(l:List UInt8):List Value:=l.map fun b=>.int .u8 b.toNat
def Gn(w:World)(e:TypeId)(v:Value)(l:List UInt8):Prop:=
 (v=.slice aK 0 0/\l=[])\/∃g cap cur fz,v=.slice (ay ⟨g,0,aK⟩) l.length cap/\w.heap[g]?=ay (.cells cur e fz)/\(fz.2<=l.length\/cap<=fz.1)/\l.length<=cap/\cap<=maxLen/\cur.size=cap/\cur.toList.take l.length=bytesV l
def Gg(K:Kx)(H:Mem)(E:Env)(w:World)(id:Nat):SB->Prop
 | .box cells elem=>∃b cs,E id=ay (.pointer (ay ⟨b,0,aK⟩))/\w.heap[b]?=ay (.cells cs elem (0,0))/\Af H E cells cs.toList/\Mine K H b | .row cells elem st n=>∃v xs,E id=ay v/\w.ownsRow 0 elem st v n xs/\Af H E cells xs/\∀b,Ah v=ay b->Mine K H b | .own elem st n g=>∃v xs,E id=ay v/\w.ownsRow 0 elem st v n xs/\BN H st n g xs/\∀b,Ah v=ay b->Mine K H b | .fz st n g=>∃v,E id=ay v/\Rep H (.sl st n g) v | .map es=>∃b ms clk,E id=ay (.map (ay b))/\w.heap[b]?=ay (.map ms clk)/\Nz H E es ms.toList/\Mine K H b | .QI l=>∃v,E id=ay v/\Rep H (.pt l) v | .Gx elem st n g more=>∃v xs ys,E id=ay v/\w.ownsRow 0 elem st v (n+more.length / st) (xs++ys)/\BN H st n g xs/\Af H E more ys/\more.length % st=0/\E8 more=aC/\∀b,Ah v=ay b->Mine K H b | .fm k M fs us tag=>∃b ms clk fv uv,E id=ay (.map (ay b))/\w.heap[b]?=ay (.map ms clk)/\F8 H E fs fv/\F8 H E us uv/\(∀n o,(n,o)∈fv->M n=o)/\EY k ms.toList clk (TI M uv)/\aed E k ms.toList tag/\Mine K H b | .pm vt M us=>∃b ms clk uv,E id=ay (.map (ay b))/\w.heap[b]?=ay (.map ms clk)/\Vt H E us uv/\ajP vt M/\amA vt us/\Yr ms.toList (QX M uv)/\Mine K H b | .buf e l=>∃v,E id=ay v/\Gn w e v l/\∀b,Ah v=ay b->Mine K H b
def AL(E:Env)(id:Nat):SB->Option Nat
 | .fz _ _ _=>aK | .QI _=>aK |_=>(E id).bind Ah
structure Ai(K:Kx)(H:Mem)(E:Env)(w:World)(hp:List (Nat×SB)):Prop where
 ent:∀id sb,zX hp id=ay sb->Gg K H E w id sb
 FQ:∀id id' sb sb' b,zX hp id=ay sb->zX hp id'=ay sb'->AL E id sb=ay b->AL E id' sb'=ay b->id=id'
structure DX(K:Kx)(H:Mem)(w:World):Prop where
 os:w.os=K.w0.os
 tape:w.tape=K.w0.tape
 output:w.output=K.w0.output
 size:K.w0.heap.size<=w.heap.size
 kept:∀b,b<K.w0.heap.size->¬K.own b->w.heap[b]?=K.w0.heap[b]?
 on:H.on w
 le:K.H0.le H
 fresh:∀b,H b≠aK->K.H0 b≠aK\/K.w0.heap.size<=b\/K.own b
open Go.RowKit (Below)
def zV:Prim where
 add k x y:=k.wrap (x+y)
 sub k x y:=k.wrap (x - y)
 mul k x y:=k.wrap (x*y)
 neg k x:=k.wrap (0 - x)
 lt x y:=decide (x<y)
 le x y:=decide (x<=y)
 eq x y:=x==y
 max x y:=if y>x then y else x
 min x y:=if y<x then y else x
 inB i n:=decide (0<=i/\i<n)
 upTo i n:=decide (0<=i/\i<=n)
 toN i:=i.toNat
 Az n:=n
 addN i j:=i+j
 Jm i j:=i - j
 ZU i j:=decide (i<=j)
 room n b:=decide (n*b<=140737488355328/\n<=maxLen)
 len l:=l.length
 nt b:=!b
 ite c x y:=bif c then x else y
 beq x y:=x==y
 seq x y:=x==y
 app x y:=x++y
 snoc g n h i:=if i<n then g i else h (i - n)
 upd g i off l j:=if j=i then (g j).take off++l++(g j).drop (off+l.length) else g j
 bin op k a b:=Vk op k a b
 conv k a:=k.wrap a
 ins g i l j:=if j<i then g j else if j=i then l else g (j - 1)
 kp a l b m:=decide (a=b/\l=m)
 isS o:=o.isSome
 arL o:=match o with|some (.int .i64 n)=>n|_=>0
 G5 o:=match o with|some (.bool b)=>b|_=>ak
def E0:Env:=fun _=>aK
def M0:Mem:=fun _=>aK
def acY(P:Program)(fields:Array Field)(fs:List (Nat×Nat×Bool)):Prop:=
 fields.size=fs.length/\∀(j:Nat) (f:Field),fields[j]?=ay f->∃inf:TypeInfo,P.info? f.type=ay inf/\
  fs[j]?=ay (f.offset,inf.size,match P.underlying f.type with|some (.struct _) |some (.array _ _)=>aC|_=>ak)/\(P.underlying f.type).isSome=aC
def aee(P:Program)(t:Nat):Ty->Prop
 | .int k=>P.underlying t=ay (.int k) | .bool=>P.underlying t=ay .bool | .str=>P.underlying t=ay .string | .ptr e=>P.underlying t=ay (.pointer e) | .fn=>∃ps rs b,P.underlying t=ay (.func ps rs b) | .iface=>∃ms,P.underlying t=ay (.interface ms) | .map k e=>P.underlying t=ay (.map k e) | .slice e=>P.underlying t=ay (.slice e) | .struct fs=>∃fields,P.underlying t=ay (.struct fields)/\acY P fields fs | .arr n e=>P.underlying t=ay (.array n e) | .other=>False
structure NC(P:Program)(t:Nat)(i:JI):Prop where
 desc:aee P t i.ty
 info:∃(inf:TypeInfo) (z:Value),P.info? t=ay inf/\inf.size=i.size/\inf.bytes=i.bytes/\inf.zero=ay z/\Af M0 E0 i.zero z.cells.toList/\z.cells.size=i.size/\
  (i.ty.isAgg=aC->∃cs,z=.agg cs)/\(i.ty.isAgg=ak->i.size=1/\z.oneCell'=aC)
def FH(H:Mem)(g:Nat)(s:Sh):Prop:=
 match s with
 | .Aj l=>(∃cs e f,H g=ay (.cells cs e f)/\cs.size=l.length)/\∃c:Nat->Value,(∀(j:Nat),j<l.length->hcell H g j=ay (c j)/\(c j).oneCell'=aC)/\∀(j:Nat) (s:Sh),l[j]?=ay s->Rep H s (c j) |s=>∃v,hcell H g 0=ay v/\Rep H s v/\v.oneCell'=aC
structure CS(gls:List (Nat×Sh))(H:Mem):Prop where
 at_:∀g s,zX gls g=ay s->FH H g s
 apart:∀g g' T T',zX gls g=ay (.er g T)->zX gls g'=ay (.er g' T')->g≠g'->hcell H g 0≠hcell H g' 0
theorem CS.le{gls:List (Nat×Sh)}{H H':Mem}(h:CS gls H)(hH:H.le H'):CS gls H' where
 at_ g s hg:=by
  have:=h.at_ g s hg;cases s with
  |Aj l=>obtain ⟨⟨cs,e,f,q1,q2⟩,c,h1,h2⟩:=this;exact ⟨⟨cs,e,f,hH _ _ q1,q2⟩,c,fun j hj=>⟨I9 hH (h1 j hj).1,(h1 j hj).2⟩,fun j s hs=>(h2 j s hs).le hH⟩ |_=>obtain ⟨v,h1,h2,h3⟩:=this;exact ⟨v,I9 hH h1,h2.le hH,h3⟩
 apart g g' T T' h1 h2 hne:=by
  have a1:FH H g (.er g T):=h.at_ g _ h1;have a2:FH H g' (.er g' T'):=h.at_ g' _ h2;obtain ⟨v1,b1,_⟩:=a1;obtain ⟨v2,b2,_⟩:=a2;have:=h.apart g g' T T' h1 h2 hne;rw[b1,b2] at this;rw[I9 hH b1,I9 hH b2];exact this
section
variable{P:Program}{C:Ctx}{K:Kx}{H:Mem}{E:Env}{w:World}
theorem ahV{t:Nat}{i:JI}(h:NC P t i)(w:World):(isAgg t).run P w=.ok i.ty.isAgg w:=by
 have hd:=h.desc;unfold isAgg;cases hi:i.ty<;>rw[hi] at hd<;>simp only[aee] at hd
 case struct fs=>obtain ⟨f,hf,_⟩:=hd;simp[run_underlying hf,Ty.isAgg]
 case fn=>obtain ⟨_,_,_,hd⟩:=hd;simp[run_underlying hd,Ty.isAgg]
 case iface=>obtain ⟨_,hd⟩:=hd;simp[run_underlying hd,Ty.isAgg]
 all_goals simp[run_underlying hd,Ty.isAgg]
theorem Ja{t:Nat}{i:JI}(h:NC P t i)(w:World):(sizeOf t).run P w=.ok i.size w:=by
 obtain ⟨inf,z,h1,h2,_⟩:=h.info;simp[sizeOf,typeInfo,h1,h2]
theorem akV{t:Nat}{i:JI}(h:NC P t i)(w:World):∃z:Value,(zeroValue t).run P w=.ok z w/\Af M0 E0 i.zero z.cells.toList/\z.cells.size=i.size:=by
 obtain ⟨inf,z,h1,_,_,h4,h5,h6,_⟩:=h.info;exact ⟨z,by simp[zeroValue,typeInfo,h1,h4],h5,h6⟩
theorem ahW(v:Value):Den H E (.ofValue v) v:=by
 unfold SV.ofValue;split<;>first|exact ⟨rfl,rfl⟩ |simp[Den]
theorem AV{tm:List SV}{a:Act}(hd:Af H E tm a.tmps.toList)(x:Operand):Den H E (Bd tm x) (a.eval x):=by
 cases x with
 |tmp t=>
  simp only[Bd,Act.eval];by_cases ht:t<tm.length
  ·have h1:tm[t]?=ay tm[t]:=aV ht
   obtain ⟨v,hv,h2⟩:=hd.get h1;have:a.tmps.getD t undef=v:=by
    rw[dV] at hv;simp[iJ,hv]
   rw[this,aY,h1];exact h2
  ·rw[aY,List.getElem?_eq_none (Nat.le_of_not_lt ht)]
   trivial
 |const v=>exact ahW v |global g=>exact rfl |func f=>exact ⟨#[],rfl,trivial⟩
theorem afo{x:Value}(h:x.oneCell'=aC):Den H E (SV.lit x) x:=by
 unfold SV.lit;split
 ·rfl
 ·rfl
 ·rfl
 ·exact ⟨rfl,h⟩
mutual
theorem Ui:∀{s:Sh} {v:Value},Rep H s v->Den H E (Xh s) v
 | .i _ _,_,h=>by cases h;rfl | .b _,_,h=>by cases h;rfl | .v _,_,h=>by cases h with|v _ h1=>exact afo h1
 | .str _,_,h=>h | .sl _ _ _,_,h=>h | .CG _ _,_,h=>h | .er _ _,_,h=>h | .fn _ l,_,h=>by
  cases h with
  |fn _ _ vs h1 h2=>exact ⟨vs,rfl,Jb (Dq.NZ (by simpa using h1) fun j s v e1 e2=>h2 j s v e1 (by simpa using e2))⟩
 | .pt l,_,h=>by
  cases h with
  |pt _ b off c h1 h2 h3=>exact ⟨b,off,c,rfl,Nat.zero_lt_one,rfl,fun j hj=>⟨h1 j hj,h2 j hj⟩,h3⟩
 | .os _ _ _ _,_,h=>by cases h | .agg l,_,h=>by
  cases h with
  |agg _ vs h1 h2=>exact ⟨vs,rfl,Jb (Dq.NZ (by simpa using h1) fun j s v e1 e2=>h2 j s v e1 (by simpa using e2))⟩
 | .Aj l,_,h=>by
  cases h with
  |Aj _ vs h1 h2=>exact ⟨vs,rfl,Jb (Dq.NZ (by simpa using h1) fun j s v e1 e2=>h2 j s v e1 (by simpa using e2))⟩
theorem Jb:∀{l:List Sh} {vs:List Value},Dq H l vs->Af H E (Qz l) vs
 |[],[],_=>trivial |_::_,_::_,⟨h1,h2⟩=>⟨Ui h1,Jb h2⟩ |[],_::_,h=>h.elim |_::_,[],h=>h.elim
end
theorem Xq{s:Sh}{v:Value}(h:Rep H s v)(h1:v.oneCell'=aC):Den H E s.I8 v:=by
 cases h;case v hx=>
  simp only[Sh.I8];unfold SV.lit;split
  ·rfl
  ·rfl
  ·rfl
  ·exact ⟨rfl,hx⟩
 all_goals simp[Sh.I8,Den]
 case sl0 st g A cap hc=>exact .sl0 st g A cap hc
 case sl st n g b off cap c a1 a2 a3 a4 a5 a6=>exact .sl st n g b off cap c a1 a2 a3 a4 a5 a6
 case str l=>exact .str l
 case agg l vs _ _=>simp[jQ] at h1
 case Aj l vs _ _=>simp[jQ] at h1
 case CG t x u hu=>exact .CG t x u hu
 case fn f l vs hs hv=>exact Jb (Dq.NZ (by simpa using hs) fun j s v e1 e2=>hv j s v e1 (by simpa using e2))
 case er g T b cs e a1 a2=>exact .er g T b cs e a1 a2
 case pt l b off c a1 a2 a3=>exact ⟨b,off,⟨rfl,rfl⟩,c,fun j hj=>⟨a1 j hj,a2 j hj⟩,a3⟩
def Uj(H:Mem)(E:Env)(hp:List (Nat×SB))(w w':World):Prop:=
 ∀b,(H b≠aK\/∃id sb,zX hp id=ay sb/\AL E id sb=ay b)->w'.heap[b]?=w.heap[b]?
theorem Uj.refl(H:Mem)(E:Env)(hp:List (Nat×SB))(w:World):Uj H E hp w w:=fun _ _=>rfl
theorem JO{l:List SV}{off n:Nat}{r:List SV}(h:seg l off n=ay r):off+n<=l.length/\r=(l.drop off).take n:=by
 unfold seg at h;cases hb:gV (off+n) l.length<;>simp[hb] at h
 exact ⟨fM hb,h.symm⟩
theorem ML{agg:Bool}{l:List SV}{v:SV}(h:pack agg l=ay v):(agg=aC/\v=.agg l)\/(agg=ak/\l=[v]):=by
 unfold pack at h;cases agg
 ·right
  simp only[cond_false] at h;split at h<;>simp at h
  subst h;exact ⟨rfl,rfl⟩
 ·left;simp at h;exact ⟨rfl,h.symm⟩
theorem acZ{t:Nat}{i:JI}(ht:NC P t i){a:Addr}{cs:List Value}(hl:cs.length=i.size)(hc:∀j v,cs[j]?=ay v->w.cell? (a.add j)=ay v):
  (loadVar t a).run P w=.ok (if i.ty.isAgg then .agg cs.toArray else cs.headD undef) w:=by
 unfold loadVar;simp only[gG,ahV ht,fU];cases hi:i.ty.isAgg
 ·obtain ⟨_,_,_,_,_,_,_,_,_,h1⟩:=ht.info
  have h1:=(h1 hi).1;rw[h1] at hl;match cs,hl with
  |[c],_=>
   have:=hc 0 c rfl;simp[wC] at this;simp[run_load,this]
 ·have:=run_loadCells_list (P:=P) (w:=w) a cs hc
  rw[hl] at this;simp[Ja ht,this]
def MN(agg:Bool)(cs:List Value):Value:=if agg then .agg cs.toArray else cs.headD undef
theorem JQ{agg:Bool}{l:List SV}{sv:SV}{cs:List Value}(h:pack agg l=ay sv)(hd:Af H E l cs):Den H E sv (MN agg cs):=by
 rcases ML h with ⟨rfl,rfl⟩ |⟨rfl,rfl⟩
 ·exact ⟨cs.toArray,by simp[MN],hd⟩
 ·match cs,hd with
  |[c],⟨hc,_⟩=>exact hc
theorem Jc{hp:List (Nat×SB)}{w':World}(ha:Uj H E hp w w'){id b:Nat}{sb:SB}(hl:zX hp id=ay sb)(hb:AL E id sb=ay b):
  w'.heap[b]?=w.heap[b]?:=ha b (.inr ⟨id,sb,hl,hb⟩)
theorem Vu{elem st n:Nat}{v:Value}{xs:List Value}(h:w.ownsRow 0 elem st v n xs){j:Nat}{u:Value}(hu:xs[j]?=ay u):
  ∃b cur,Ah v=ay b/\w.heap[b]?=ay (.cells cur elem (0,0))/\cur.toList[j]?=ay u:=by
 obtain ⟨hl,h⟩:=h;rcases h with ⟨rfl,rfl⟩ |⟨g,cap,cur,rfl,_,hg,_,_,hs,ht⟩
 ·have:xs=[]:=List.eq_nil_of_length_eq_zero (by simpa using hl)
  subst this;simp at hu
 ·refine ⟨g,cur,rfl,hg,?_⟩
  rw[<-ht,bY] at hu;split at hu
  ·exact hu
  ·cases hu
theorem acs{st n:Nat}{g:Nat->List Sh}{xs:List Value}(h:BN H st n g xs){i:Nat}(hi:i<n):
  Af H E ((g i).map Sh.I8) ((xs.drop (i*st)).take st):=by
 obtain ⟨h1,h2,h3,h4⟩:=h;have hg:=h2 i hi;have hlen:i*st+st<=xs.length:=by
  rw[h1];calc i*st+st=(i+1)*st:=by rw[Nat.add_mul,Nat.one_mul]
   _<=n*st:=Nat.mul_le_mul_right _ hi
 have key:∀(l:List Sh) (vs:List Value),vs.length=l.length->(∀(j:Nat) (s:Sh) (v:Value),l[j]?=ay s->vs[j]?=ay v->Rep H s v/\v.oneCell'=aC)->Af H E (l.map Sh.I8) vs:=by
  intro l;induction l with
  |nil=>intro vs hl _;match vs,hl with|[],_=>trivial
  |cons s l ih=>
   intro vs hl h;match vs,hl with
   |v::vs,hl=>
    have h0:=h 0 s v rfl rfl;exact ⟨Xq h0.1 h0.2,ih vs (by simpa using hl) fun j s' v' e1 e2=>h (j+1) s' v' (by simpa using e1) (by simpa using e2)⟩
 refine key _ _ (by simp[bZ,dQ];omega) fun j s v e1 e2=>?_
 have hj:j<st:=by rw[<-hg];exact (aU.1 e1).1
 rw[bY,if_pos hj,eH] at e2;exact ⟨h4 i j s v hi e1 e2,h3 v (List.mem_of_getElem? e2)⟩
theorem range_map_get{st k:Nat}{c:Nat->Value}{v:Value}(h:((aX st).map c)[k]?=ay v):k<st/\c k=v:=by
 have hk:k<st:=by simpa using (aU.1 h).1
 refine ⟨hk,?_⟩;simpa[List.getElem?_range hk] using h
theorem Uk{l:List Sh}{st:Nat}{c:Nat->Value}(hl:l.length=st)(hr:∀(j:Nat) (s:Sh),l[j]?=ay s->Rep H s (c j))(h1:∀j,j<st->(c j).oneCell'=aC):
  Af H E (l.map Sh.I8) ((aX st).map c):=by
 have key:∀(l:List Sh) (c:Nat->Value),(∀(j:Nat) (s:Sh),l[j]?=ay s->Rep H s (c j)/\(c j).oneCell'=aC)->Af H E (l.map Sh.I8) ((aX l.length).map c):=by
  intro l;induction l with
  |nil=>intro c _;trivial |cons s l ih=>
   intro c h;rw[iP,List.range_succ_eq_map,jk,jk,List.map_map];exact ⟨Xq (h 0 s rfl).1 (h 0 s rfl).2,ih (c ∘ Nat.succ) fun j s' e=>h (j+1) s' (by simpa using e)⟩
 rw[<-hl];exact key l c fun j s e=>⟨hr j s e,h1 j (by rw[<-hl];exact (aU.1 e).1)⟩
theorem Yt{c:Core}{agg:Bool}{size:Nat}{x sv:SV}{u:Value}(hx:Den H E x u)(hh:Ai K H E w c.hp)(hg:CS C.gls H)(hsz:agg=ak->size=1)
  (h:ad4 C c agg size x=ay sv):∃(a:Addr) (cs:List Value),u=.pointer (ay a)/\cs.length=size/\Den H E sv (MN agg cs)/\
   ∀w',Uj H E c.hp w w'->H.on w'->∀(j:Nat) (v:Value),cs[j]?=ay v->w'.cell? (a.add j)=ay v:=by
 unfold ad4 at h;split at h
 ·
  rename_i id off;obtain ⟨b,hb,rfl⟩:=hx;split at h
  ·rename_i cells elem hl
   obtain ⟨b',cs,he,hw,hd,_⟩:=hh.ent _ _ hl;simp only[he,eU,Ah,kL] at hb;subst hb;cases hs:seg cells off size with
   |none=>simp[hs] at h |some r=>
    simp only[hs,eU] at h;obtain ⟨hle,rfl⟩:=JO hs;have hdl:=hd.length;refine ⟨_,(cs.toList.drop off).take size,rfl,by simp[bZ,dQ];simp at hdl;omega,JQ h ((hd.drop off).take size),?_⟩;intro w' ha _ j v hv;rw[bY] at hv;split at hv
    ·rw[eH,dV] at hv
     have hk:=Jc ha hl (b:=b') (by simp[AL,he,Ah]);simp[nZ,eX,hk,hw,hv]
    ·cases hv
  ·rename_i cells elem st n hl
   obtain ⟨v',xs,he,ho,hd,_⟩:=hh.ent _ _ hl;cases hs:seg cells off size with
   |none=>simp[hs] at h |some r=>
    simp only[hs,eU] at h;obtain ⟨hle,rfl⟩:=JO hs;have hdl:=hd.length;refine ⟨_,(xs.drop off).take size,rfl,by simp[bZ,dQ];omega,JQ h ((hd.drop off).take size),?_⟩;intro w' ha _ j v hv;rw[bY] at hv;split at hv
    ·rw[eH] at hv
     obtain ⟨b',cur,hb',hw,hu⟩:=Vu ho hv;simp only[he,eU,hb',kL] at hb;subst hb;have hk:=Jc ha hl (b:=b') (by simp[AL,he,hb']);rw[dV] at hu;simp[nZ,eX,hk,hw,hu]
    ·cases hv
  ·rename_i l hl
   obtain ⟨v',he,hr⟩:=hh.ent _ _ hl;cases hr with
   |pt _ b2 off2 c2 h1 h2 h3=>
    have h02:b2=b/\off2=0:=by
     rw[he] at hb;simp only[eU] at hb;unfold Ah at hb;split at hb<;>simp_all
    obtain ⟨rfl,rfl⟩:=h02;cases hs:seg (l.map Sh.I8) off size with
    |none=>simp[hs] at h |some r=>
     simp only[hs,eU] at h;obtain ⟨hle,rfl⟩:=JO hs;rw[dY] at hle;have hd:Af H E (l.map Sh.I8) ((aX l.length).map c2):=Uk rfl h3 h2;refine ⟨_,(((aX l.length).map c2).drop off).take size,rfl,by simp[bZ,dQ];omega,JQ h ((hd.drop off).take size),?_⟩;intro w' _ hon j v hv;rw[bY] at hv;split at hv
     ·rw[eH] at hv
      obtain ⟨hk,rfl⟩:=range_map_get hv;have:=LW hon (h1 (off+j) hk);simpa[eX] using this
     ·cases hv
  ·cases h
 ·
  rename_i id st i off;obtain ⟨b,v',he,hb,hi,rfl⟩:=hx;split at h
  ·rename_i elem st' n g hl
   obtain ⟨v'',xs,he',ho,hr,_⟩:=hh.ent _ _ hl;rw[he] at he';cases he';have hn:lenV v'=n:=by
    rcases ho.2 with ⟨rfl,rfl⟩ |⟨_,_,_,rfl,_⟩<;>rfl
   rw[hn] at hi;cases hst:(st==st')<;>simp only[hst,cond_true,cond_false] at h
   ·cases h
   obtain rfl:st=st':=by simpa using hst
   cases hs:seg ((g i).map Sh.I8) off size with
   |none=>simp[hs] at h |some r=>
    simp only[hs,eU] at h;obtain ⟨hle,rfl⟩:=JO hs;have hd:=acs (E:=E) hr hi;have hdl:=hd.length;refine ⟨_,(((xs.drop (i*st)).take st).drop off).take size,rfl,by rw[bZ,dQ];omega,JQ h ((hd.drop off).take size),?_⟩;intro w' ha _ j v hv;rw[bY] at hv;split at hv
    ·rw[eH,bY] at hv
     split at hv
     ·rw[eH] at hv
      obtain ⟨b',cur,hb',hw,hu⟩:=Vu ho hv;rw[hb] at hb';cases hb';have hk:=Jc ha hl (b:=b) (by simp[AL,he,hb]);rw[dV] at hu;simp[nZ,eX,hk,hw];rw[<-hu];congr 1;omega
     ·cases hv
    ·cases hv
  ·rename_i st' n g hl
   obtain ⟨v'',he',hr⟩:=hh.ent _ _ hl;rw[he] at he';cases he';cases hst:(st==st')<;>simp only[hst,cond_true,cond_false] at h
   ·cases h
   obtain rfl:st=st':=by simpa using hst
   cases hr with
   |sl0 _ _ A cap hc=>simp[lenV] at hi |sl _ _ _ b2 off2 cap c h1 h2 h3 h4 h5 h6=>
    simp only[lenV] at hi;have h02:b2=b/\off2=0:=by
     unfold Ah at hb;split at hb<;>simp_all
    obtain ⟨rfl,rfl⟩:=h02;cases hs:seg ((g i).map Sh.I8) off size with
    |none=>simp[hs] at h |some r=>
     simp only[hs,eU] at h;obtain ⟨hle,rfl⟩:=JO hs;rw[dY,h3 i hi] at hle;have hd:Af H E ((g i).map Sh.I8) ((aX st).map (c i)):=Uk (h3 i hi) (fun j s hs=>h6 i j s hi hs) (fun j hj=>h5 i j hi hj);refine ⟨_,(((aX st).map (c i)).drop off).take size,rfl,by simp[bZ,dQ];omega,JQ h ((hd.drop off).take size),?_⟩;intro w' _ hon j v hv;rw[bY] at hv;split at hv
     ·rw[eH] at hv
      obtain ⟨hk,rfl⟩:=range_map_get hv;have:=LW hon (h4 i (off+j) hi hk);simpa[eX,jR] using this
     ·cases hv
  ·cases h
 ·
  rename_i st n g i off;obtain ⟨b,o,c,rfl,hi,hgl,hc,hr⟩:=hx;cases hs:seg ((g i).map Sh.I8) off size with
  |none=>simp[hs] at h |some r=>
   simp only[hs,eU] at h;obtain ⟨hle,rfl⟩:=JO hs;rw[dY,hgl] at hle;have hd:Af H E ((g i).map Sh.I8) ((aX st).map c):=Uk hgl hr (fun j hj=>(hc j hj).2);refine ⟨_,(((aX st).map c).drop off).take size,rfl,by simp[bZ,dQ];omega,JQ h ((hd.drop off).take size),?_⟩;intro w' _ hon j v hv;rw[bY] at hv;split at hv
   ·rw[eH] at hv
    obtain ⟨hk,rfl⟩:=range_map_get hv;have:=LW hon (hc (off+j) hk).1;simpa[eX,jR] using this
   ·cases hv
 ·rename_i g
  obtain rfl:u=_:=hx;cases agg<;>simp only[cond_true,cond_false] at h
  ·cases hl:zX C.gls g with
   |none=>simp[hl] at h |some s=>
    have hgl:=hg.at_ g s hl;have h:s.I8=sv/\∃v,hcell H g 0=ay v/\Rep H s v/\v.oneCell'=aC:=by
     cases s<;>simp[hl] at h<;>exact ⟨h,hgl⟩
    obtain ⟨rfl,v,h1,h2,h3⟩:=h;refine ⟨_,[v],rfl,(hsz rfl).symm,Xq h2 h3,?_⟩;intro w' _ hon j v' hv;match j,hv with
    |0,hv=>
     simp at hv;subst hv;simpa[wC] using LW hon h1
  ·cases h
 ·cases h
end
structure QY(P:Program)(t:Nat):Prop where
 und:∃fs,P.underlying t=ay (.struct fs)
 chk:∀(em:Bool) (n:DC) (w:World),(Instr.checkKey em 10000 t (CZ n)).run P w=.ok () w
 eq:∀(n m:DC) (w:World),(Op.equal t (CZ n) (CZ m)).run P w=.ok (decide (n=m)) w
structure A8(P:Program)(C:Ctx):Prop where
 ty:∀t i,C.tys.get t=ay i->NC P t i
 fn:∀g fn,C.fns.get g=ay fn->P.funcs[g]?=ay fn
 A:C.A=zV
 mixed:P.follows .mixedOrders=aC
 eqs:∀t i,C.eqs.contains t=aC->C.tys.get t=ay i->∀(xs ys:List Cq) (w:World),CV xs i.zero=aC->CV ys i.zero=aC->∀x y:Operand,
  (do eqGuard .eql t x y (.agg (xs.map Cq.v).toArray) (.agg (ys.map Cq.v).toArray);binOp .eql t (.agg (xs.map Cq.v).toArray) (.agg (ys.map Cq.v).toArray):Sem Value).run P w=.ok (.bool (decide (xs=ys))) w/\
  (do eqGuard .neq t x y (.agg (xs.map Cq.v).toArray) (.agg (ys.map Cq.v).toArray);binOp .neq t (.agg (xs.map Cq.v).toArray) (.agg (ys.map Cq.v).toArray):Sem Value).run P w=.ok (.bool (!decide (xs=ys))) w
 Vg:∀T,C.Vg.contains T=aC->∃inf e ie,P.info? T=ay inf/\inf.comparable=aC/\P.underlying T=ay (.pointer e)/\P.info? e=ay ie/\ie.size≠0
 ZV:∀t,C.ZV.contains t=aC->QY P t
section
variable{P:Program}{C:Ctx}{K:Kx}{H:Mem}{E:Env}{w:World}
def Vx(P:Program)(H:Mem)(E:Env)(w:World)(c:Core)(a:Act)(o:Oper)(φ:SV×Core->Prop):Prop:=
 ∃(p:SV×Core) (v:Value),φ p/\p.2=c/\Den H E p.1 v/\∀w',Uj H E c.hp w w'->H.on w'->(execOp a.eval o).run P w'=.ok (.value v) w'
def QP(P:Program)(H:Mem)(E:Env)(c:Core)(a:Act)(o:Oper)(φ:SV×Core->Prop):Prop:=
 ∃(p:SV×Core) (v:Value),φ p/\p.2=c/\Den H E p.1 v/\∀w',(execOp a.eval o).run P w'=.ok (.value v) w'
theorem QP.q{c:Core}{a:Act}{o:Oper}{φ:SV×Core->Prop}(h:QP P H E c a o φ):Vx P H E w c a o φ:=
 let ⟨p,v,h1,h2,h3,h4⟩:=h;⟨p,v,h1,h2,h3,fun w' _ _=>h4 w'⟩
theorem Ij{c:Core}{x:Option SV}{φ:SV×Core->Prop}(h:(Lh c x).All φ):∃v,x=ay v/\φ (v,c):=by
 cases x with
 |none=>exact h.elim |some v=>exact ⟨v,rfl,h⟩
theorem ZC{c:Core}{a:Act}{o:Oper}{x:Operand}{φ:SV×Core->Prop}(ho:o.op=.move x\/o.op=.assign x)(hd:Af H E c.tm a.tmps.toList)
  (h:(ret c (Bd c.tm x)).All φ):QP P H E c a o φ:=by
 refine ⟨_,a.eval x,h,rfl,AV hd x,fun w'=>?_⟩;rcases ho with ho|ho<;>simp[execOp,ho]
theorem Vy{x:SV}{b:Bool}{u:Value}(h:Zx x=ay b)(hd:Den H E x u):u=.bool b:=by
 cases x<;>simp[Zx] at h
 all_goals (subst h;exact hd)
theorem ajQ{c:Core}{a:Act}{o:Oper}{x y z:Operand}{φ:SV×Core->Prop}(hA:C.A=zV)(ho:o.op=.pick x y z)(hd:Af H E c.tm a.tmps.toList)
  (h:(Lh c (ahN C.A (Bd c.tm x) (Bd c.tm y) (Bd c.tm z))).All φ):QP P H E c a o φ:=by
 obtain ⟨v,hv,hφ⟩:=Ij h;have dx:=AV (H:=H) (E:=E) hd x;have dy:=AV (H:=H) (E:=E) hd y;have dz:=AV (H:=H) (E:=E) hd z;unfold ahN at hv;split at hv
 ·rename_i hx
  rw[hx] at dx;cases hv;refine ⟨_,a.eval y,hφ,rfl,dy,fun w'=>?_⟩;simp only[Den] at dx;simp[execOp,ho,dx,asBool]
 ·rename_i hx
  rw[hx] at dx;cases hv;refine ⟨_,a.eval z,hφ,rfl,dz,fun w'=>?_⟩;simp only[Den] at dx;simp[execOp,ho,dx,asBool]
 ·rename_i b hx
  rw[hx] at dx;simp only[Den] at dx;split at hv
  ·rename_i p q hp hq
   cases hv;have ep:=Vy hp dy;have eq:=Vy hq dz;refine ⟨_,.bool (bif b then p else q),hφ,rfl,?_,fun w'=>?_⟩
   ·rw[hA];rfl
   ·cases b<;>simp[execOp,ho,dx,asBool,ep,eq]
  ·cases hv
 ·cases hv
theorem amB{c:Core}{a:Act}{o:Oper}{t:Nat}{x:Operand}{φ:SV×Core->Prop}(hA:C.A=zV)(ho:o.op=.unOp .not t x)(hd:Af H E c.tm a.tmps.toList)
  (h:(Lh c (notS C.A (Bd c.tm x))).All φ):QP P H E c a o φ:=by
 obtain ⟨v,hv,hφ⟩:=Ij h;have dx:=AV (H:=H) (E:=E) hd x;unfold notS at hv;split at hv<;>cases hv
 all_goals
  rename_i b hx;rw[hx] at dx;simp only[Den] at dx;refine ⟨_,.bool (!b),hφ,rfl,?_,fun w'=>by simp[execOp,ho,dx,Op.unary]⟩
 ·rfl
 ·rw[hA];rfl
theorem amC{c:Core}{a:Act}{o:Oper}{t:Nat}{x:Operand}{φ:SV×Core->Prop}(hA:C.A=zV)(ho:o.op=.unOp .neg t x)(hd:Af H E c.tm a.tmps.toList)
  (h:(Lh c (negS C.A (Bd c.tm x))).All φ):QP P H E c a o φ:=by
 obtain ⟨v,hv,hφ⟩:=Ij h;have dx:=AV (H:=H) (E:=E) hd x;unfold negS at hv;split at hv<;>cases hv
 all_goals
  rename_i k n hx;rw[hx] at dx;simp only[Den] at dx;refine ⟨_,.int k (k.wrap (0 - n)),hφ,rfl,?_,fun w'=>by simp[execOp,ho,dx,Op.unary,Op.intArith]⟩
 ·rfl
 ·rw[hA];rfl
theorem Z9{c:Core}{a:Act}{o:Oper}{x:Operand}{i:Nat}{φ:SV×Core->Prop}(ho:o.op=.extract x i)(hd:Af H E c.tm a.tmps.toList)
  (h:(Px c (Bd c.tm x) i).All φ):QP P H E c a o φ:=by
 have dx:=AV (H:=H) (E:=E) hd x;unfold Px at h;split at h
 ·rename_i l hx
  obtain ⟨v,hv,hφ⟩:=Ij h;rw[hx] at dx;obtain ⟨vs,he,hl⟩:=dx;obtain ⟨u,hu,hdu⟩:=hl.get hv;refine ⟨_,u,hφ,rfl,hdu,fun w'=>?_⟩;rw[dV] at hu;simp[execOp,ho,he,Instr.extract,hu]
 ·exact h.elim
theorem Yu{c:Core}{a:Act}{o:Oper}{f:Nat}{fs cs:Array Operand}{φ:SV×Core->Prop}(ho:o.op=.makeFunc (.func f) fs cs)(hd:Af H E c.tm a.tmps.toList)
  (h:(bif fs.size==0 then ret c (.fn f (cs.toList.map (Bd c.tm))) else .fail).All φ):QP P H E c a o φ:=by
 cases hf:(fs.size==0)<;>simp only[hf,cond_true,cond_false] at h
 ·exact h.elim
 have hf:fs=#[]:=by simpa using hf
 subst hf;have key:∀l:List Operand,Af H E (l.map (Bd c.tm)) (l.map a.eval):=by
  intro l;induction l with
  |nil=>trivial |cons x l ih=>exact ⟨AV hd x,ih⟩
 refine ⟨_,.func (.func f) #[] (cs.map a.eval),h,rfl,⟨cs.map a.eval,rfl,by simpa using key cs.toList⟩,fun w'=>?_⟩;simp[execOp,ho,Instr.makeFunc]
theorem amD{c:Core}{a:Act}{o:Oper}{x:Operand}{φ:SV×Core->Prop}(ho:o.op=.nilCheck x)(hd:Af H E c.tm a.tmps.toList)
  (h:(ZX c (Bd c.tm x)).All φ):QP P H E c a o φ:=by
 have dx:=AV (H:=H) (E:=E) hd x;unfold ZX at h;split at h
 ·rename_i i off hx
  rw[hx] at dx;have dx':=dx;obtain ⟨b,_,he⟩:=dx;exact ⟨_,a.eval x,h,rfl,dx',fun w'=>by simp[execOp,ho,he]⟩
 ·rename_i i st j off hx
  rw[hx] at dx;have dx':=dx;obtain ⟨b,_,_,_,_,he⟩:=dx;exact ⟨_,a.eval x,h,rfl,dx',fun w'=>by simp[execOp,ho,he]⟩
 ·rename_i st n g i off hx
  rw[hx] at dx;have dx':=dx;obtain ⟨b,_,_,he,_⟩:=dx;exact ⟨_,a.eval x,h,rfl,dx',fun w'=>by simp[execOp,ho,he]⟩
 ·rename_i f l hx
  rw[hx] at dx;have dx':=dx;obtain ⟨vs,he,_⟩:=dx;exact ⟨_,a.eval x,h,rfl,dx',fun w'=>by simp[execOp,ho,he]⟩
 ·exact h.elim
theorem aqz{c:Core}{a:Act}{o:Oper}{t:Nat}{x:Operand}{φ:SV×Core->Prop}(hC:A8 P C)(ho:o.op=.load t x)(hd:Af H E c.tm a.tmps.toList)
  (hh:Ai K H E w c.hp) (hg:CS C.gls H) (h:(Xj C c t (Bd c.tm x)).All φ):Vx P H E w c a o φ:=by
 have dx:=AV (H:=H) (E:=E) hd x;unfold Xj at h;split at h
 ·rename_i i hi
  have ht:=hC.ty _ _ hi;obtain ⟨sv,hs,hφ⟩:=Ij h;obtain ⟨ad,cs,he,hl,hden,hc⟩:=Yt dx hh hg (fun e=>by obtain ⟨_,_,_,_,_,_,_,_,_,h1⟩:=ht.info;exact (h1 e).1) hs;refine ⟨_,_,hφ,rfl,hden,fun w' ha hon=>?_⟩;have:=acZ (w:=w') ht hl (hc w' ha hon);simp[execOp,ho,Instr.loadAt,he,lW,this,MN]
 ·exact h.elim
theorem aac{fields:Array Field}{fs:List (Nat×Nat×Bool)}(hf:acY P fields fs){j off size:Nat}{agg:Bool}(h:fs[j]?=ay (off,size,agg)):
  ∃(f:Field) (inf:TypeInfo),fields[j]?=ay f/\f.offset=off/\P.info? f.type=ay inf/\inf.size=size/\(P.underlying f.type).isSome=aC/\
   (match P.underlying f.type with|some (.struct _) |some (.array _ _)=>aC|_=>ak)=agg:=by
 obtain ⟨h1,h2⟩:=hf;have hj:j<fields.size:=by rw[h1];exact (aU.1 h).1
 have hfj:fields[j]?=ay fields[j]:=Array.getElem?_eq_getElem hj;obtain ⟨inf,hi,he,hs⟩:=h2 j _ hfj;rw[h] at he;simp only[kL,Prod.mk.injEq] at he;exact ⟨_,inf,hfj,he.1.symm,hi,he.2.1.symm,hs,he.2.2.symm⟩
theorem EO{n m:Nat}(h:fV n m=aC):n<m:=fM h
theorem Zk{f:Field}{inf:TypeInfo}(hi:P.info? f.type=ay inf)(hs:0<inf.size)(a:Addr)(w:World):(fieldPlace a f).run P w=.ok (a.add f.offset) w:=by
 unfold fieldPlace;simp[sizeOf,typeInfo,hi,Nat.ne_of_gt hs]
theorem Vz{c:Core}{a:Act}{o:Oper}{t f:Nat}{x:Operand}{φ:SV×Core->Prop}(hC:A8 P C)(ho:o.op=.fieldAddr t x f)(hd:Af H E c.tm a.tmps.toList)
  (h:(MF C c t f (Bd c.tm x)).All φ):QP P H E c a o φ:=by
 have dx:=AV (H:=H) (E:=E) hd x;unfold MF at h;split at h
 ·rename_i i hi
  have ht:=(hC.ty _ _ hi).desc;split at h
  ·rename_i fs hty
   rw[hty] at ht;obtain ⟨fields,hu,hf⟩:=ht;split at h
   ·rename_i off size agg hfs
    cases hb:fV 0 size<;>simp only[hb,cond_true,cond_false] at h
    ·exact h.elim
    obtain ⟨fd,inf,h1,rfl,h2,h3,_⟩:=aac hf hfs;have hp:=fun (ad:Addr) (w':World)=>Zk (P:=P) h2 (by rw[h3];exact EO hb) ad w';split at h
    ·rename_i id off2 hx
     rw[hx] at dx;obtain ⟨b,h4,he⟩:=dx;refine ⟨_,.pointer (ay ⟨b,off2+fd.offset,aK⟩),h,rfl,⟨b,h4,rfl⟩,fun w'=>?_⟩;simp[execOp,ho,pO,run_underlying hu,h1,he,lW,hp,eX]
    ·rename_i id st j off2 hx
     rw[hx] at dx;obtain ⟨b,v,h4,h5,h6,he⟩:=dx;refine ⟨_,.pointer (ay ⟨b,j*st+off2+fd.offset,aK⟩),h,rfl,⟨b,v,h4,h5,h6,by rw[jR]⟩,fun w'=>?_⟩;simp[execOp,ho,pO,run_underlying hu,h1,he,lW,hp,eX]
    ·rename_i st n g j off2 hx
     rw[hx] at dx;obtain ⟨b,o2,cc,he,h4⟩:=dx;refine ⟨_,.pointer (ay ⟨b,o2+off2+fd.offset,aK⟩),h,rfl,⟨b,o2,cc,by rw[jR],h4⟩,fun w'=>?_⟩;simp[execOp,ho,pO,run_underlying hu,h1,he,lW,hp,eX]
    ·exact h.elim
   ·exact h.elim
  ·exact h.elim
 ·exact h.elim
theorem akW{ty:Nat}{inf:TypeInfo}{agg:Bool}(hi:P.info? ty=ay inf)(hs:(P.underlying ty).isSome=aC)
  (ha:(match P.underlying ty with|some (.struct _) |some (.array _ _)=>aC|_=>ak)=agg) {cs:List Value} {off:Nat} (hl:off+inf.size<=cs.length) (h1:agg=ak->inf.size=1) (w:World) :
  (part ty cs.toArray off).run P w=.ok (MN agg ((cs.drop off).take inf.size)) w:=by
 cases hu:P.underlying ty with
 |none=>simp[hu] at hs |some d=>
  rw[hu] at ha;have hag:(isAgg ty).run P w=.ok agg w:=by
   unfold isAgg;simp only[gG,run_underlying hu,fU];cases d<;>simp_all
  unfold part;simp only[gG,hag,fU];cases agg
  ·have h1:=h1 rfl
   have hlt:off<cs.length:=by omega
   rw[h1];have:(cs.drop off).take 1=[cs[off]]:=by rw[List.drop_eq_getElem_cons hlt];rfl
   simp[this,MN,hlt]
  ·simp[sizeOf,typeInfo,hi,MN,List.extract_eq_take_drop]
theorem afp{c:Core}{a:Act}{o:Oper}{t f:Nat}{x:Operand}{φ:SV×Core->Prop}(hC:A8 P C)(ho:o.op=.field t x f)(hd:Af H E c.tm a.tmps.toList)
  (h:(Ug C c t f (Bd c.tm x)).All φ):QP P H E c a o φ:=by
 have dx:=AV (H:=H) (E:=E) hd x;unfold Ug at h;split at h
 ·rename_i i hi
  have ht:=(hC.ty _ _ hi).desc;split at h
  ·rename_i fs l hty hx
   rw[hty] at ht;obtain ⟨fields,hu,hf⟩:=ht;rw[hx] at dx;obtain ⟨vs,he,hl⟩:=dx;split at h
   ·rename_i off size agg hfs
    obtain ⟨sv,hs,hφ⟩:=Ij h;obtain ⟨fd,inf,h1,rfl,h2,h3,h4,h5⟩:=aac hf hfs;subst h3;cases hsg:seg l fd.offset inf.size with
    |none=>simp[hsg] at hs |some r=>
     simp only[hsg,eU] at hs;obtain ⟨hle,rfl⟩:=JO hsg;have hlen:=hl.length;refine ⟨_,MN agg ((vs.toList.drop fd.offset).take inf.size),hφ,rfl,JQ hs ((hl.drop _).take _),fun w'=>?_⟩;have hp:=akW (P:=P) h2 h4 h5 (cs:=vs.toList) (off:=fd.offset) (by rw[hlen];exact hle) (fun e=>by
      subst e;rcases ML hs with ⟨e,_⟩ |⟨_,e⟩
      ·cases e
      ·have:=congrArg List.length e
       simp[bZ,dQ] at this;omega) w'
     simp[execOp,ho,Instr.field,run_underlying hu,h1,he,asAgg] at hp ⊢;simp[hp]
   ·exact h.elim
  ·exact h.elim
 ·exact h.elim
end
end Go.Sx
