/- Own work. -/
import Derived.OrdersHeld
import Derived.Calls
import Derived.Laws.AppendOwn
import Derived.Laws.OwnMore
import Derived.Below
import Derived.WalkKit
open Int (ofNat)
open Array renaming length_toList->dU,getElem?_toList->iJ
open BitVec renaming ofInt->fD
open Bool renaming true->aC,false->ay
open ByteArray renaming mk->sG,size->yR
open Go.Addr renaming add_zero'->vO,add_lit->dW
open Go.Instr renaming sureAddr->jG,fieldAt->oD
open Go.Region renaming binds->jW,ready->jA,free->mP
open Go.Result renaming andThen_ok->iI
open Go.Sem renaming run_bind->gK
open Go.Value renaming oneCell'->jm
open Go.World renaming cell?->mQ
open List renaming range'->jK,mem_range'_1->sF,getD_cons_zero->qN,length_cons->jf,range'_succ->tJ,range_eq_range'->qg,replicate->dL,range->aY,getElem?_eq_some_iff->bW,getElem?_eq_getElem->aV,map_cons->jJ,getElem?_take->dO,getElem?_drop->gq,length_map->iy
open Nat renaming beq->dQ,blt->fF,ble_eq_true_of_le->qc,ble->gJ,add_zero->kF,add_assoc->qO
open Option renaming none->aK,some->ak,bind_some->eH
open Option.some renaming injEq->jL
namespace Go.Sx
instance (priority:=high)ayc:BEq Nat:=⟨dQ⟩
instance (priority:=high)atA:LawfulBEq Nat where
 eq_of_beq h:=Nat.eq_of_beq_eq_true h
 rfl:=Nat.beq_refl _
inductive BT(α:Type)where
 |nil
 |node (l:BT α) (k:Nat) (v:α) (r:BT α)
def BT.get{α:Type}:BT α->Nat->Option α
 | .nil,_=>aK | .node l k v r,i=>bif fF i k then l.get i else bif fF k i then r.get i else ak v
def BT.All{α:Type}(φ:Nat->α->Prop):BT α->Prop
 | .nil=>True | .node l k v r=>φ k v/\l.All φ/\r.All φ
def BT.allB{α:Type}(f:Nat->α->Bool):BT α->Bool
 | .nil=>aC | .node l k v r=>f k v&&l.allB f&&r.allB f
theorem BT.All.get{α:Type}{φ:Nat->α->Prop}:∀{t:BT α} {i:Nat} {v:α},t.All φ->t.get i=ak v->φ i v
 | .nil,_,_,_,h=>by cases h | .node l k v r,i,v',h,hg=>by
  simp only[BT.get] at hg;cases h1:fF i k<;>simp only[h1,cond_true,cond_false] at hg
  ·cases h2:fF k i<;>simp only[h2,cond_true,cond_false] at hg
   ·cases hg
    have a1:¬i<k:=fun h=>by grind [fF,qc]
    have a2:¬k<i:=fun h=>by grind [fF,qc]
    obtain rfl:k=i:=by omega
    exact h.1
   ·exact BT.All.get h.2.2 hg
  ·exact BT.All.get h.2.1 hg
theorem BT.SX{α:Type}{f:Nat->α->Bool}:∀{t:BT α},t.allB f=aC->t.All fun k v=>f k v=aC
 | .nil,_=>trivial | .node l k v r,h=>by
  simp only[BT.allB,Bool.and_eq_true] at h;exact ⟨h.1.1,BT.SX h.1.2,BT.SX h.2⟩
inductive Sh where
 |i (k:IntKind) (n:Int)
 |b (x:Bool)
 |str (l:List UInt8)
 |v (x:Value)
 |sl (st n:Nat) (get:Nat->List Sh)
 |os (e st n:Nat) (get:Nat->List Sh)
 |agg (l:List Sh)
 |zQ (l:List Sh)
 |BM (t:Nat) (x:Sh)
 |fn (f:Nat) (caps:List Sh)
 |er (g T:Nat)
 |pt (l:List Sh)
 deriving Inhabited
inductive SV where
 |any
 |val (v:Value)
 |int (k:IntKind) (n:Int)
 |sym (k:IntKind) (n:Int)
 |bool (b:Bool)
 |test (b:Bool)
 |str (l:List UInt8)
 |ptr (id off:Nat)
 |gs (id:Nat)
 |gp (id st i off:Nat)
 |Ei|zY|FM|CS|EU
 |fn (f:Nat) (cap:List SV)
 |agg (l:List SV)
 |zQ (l:List SV)
 |BM (t:Nat) (x:SV)
 |mp (id:Nat)
 |sh (s:Sh)
 |Gh (st n:Nat) (get:Nat->List Sh) (i off:Nat)
 |glob (g:Nat)
 |ev (id:Nat)
 |vw (id n:Nat)
 deriving Inhabited
inductive VT where
 |int|bool
 deriving DecidableEq,Inhabited
inductive SB where
 |box (cells:List SV) (elem:Nat)
 |row (cells:List SV) (elem st n:Nat)
 |own (elem st n:Nat) (get:Nat->List Sh)
 |fz (st n:Nat) (get:Nat->List Sh)
 |map (es:List (SV×SV))
 |QN (l:List Sh)
 |FY (elem st n:Nat) (get:Nat->List Sh) (more:List SV)
 |fm (k:IntKind) (M:Int->Option Value) (fs us:List (Int×Bool×SV)) (tag:Option (Nat×Int))
 |buf (e:Nat) (l:List UInt8)
 |pm (vt:VT) (M:Int×List UInt8->Option Value) (us:List ((Int×List UInt8)×Bool×SV))
inductive Ty where
 |int (k:IntKind) |bool|str|ptr (e:Nat) |fn|iface
 |map (k e:Nat)
 |slice (e:Nat)
 |struct (fs:List (Nat×Nat×Bool))
 |arr (n e:Nat)
 |other
structure Jt where
 ty:Ty
 size:Nat
 bytes:Nat
 zero:List SV
structure Prim where
 add:IntKind->Int->Int->Int
 sub:IntKind->Int->Int->Int
 mul:IntKind->Int->Int->Int
 neg:IntKind->Int->Int
 lt:Int->Int->Bool
 le:Int->Int->Bool
 eq:Int->Int->Bool
 max:Int->Int->Int
 min:Int->Int->Int
 inB:Int->Nat->Bool
 upTo:Int->Nat->Bool
 toN:Int->Nat
 Aa:Nat->Int
 addN:Nat->Nat->Nat
 Jb:Nat->Nat->Nat
 Z8:Nat->Nat->Bool
 room:Nat->Nat->Bool
 len:List UInt8->Nat
 nt:Bool->Bool
 ite:Bool->Bool->Bool->Bool
 beq:Bool->Bool->Bool
 seq:List UInt8->List UInt8->Bool
 app:List UInt8->List UInt8->List UInt8
 snoc:(Nat->List Sh)->Nat->(Nat->List Sh)->Nat->List Sh
 upd:(Nat->List Sh)->Nat->Nat->List Sh->Nat->List Sh
 bin:BinOp->IntKind->Int->Int->Int
 conv:IntKind->Int->Int
 ins:(Nat->List Sh)->Nat->List Sh->Nat->List Sh
 kp:Int->List UInt8->Int->List UInt8->Bool
 isS:Option Value->Bool
 asT:Option Value->Int
 IQ:Option Value->Bool
inductive AQ where
 |int (a b:Int)
 |nat (a b:Nat)
 |bool (a b:Bool)
 |str (a b:List UInt8)
 |val (a b:Value)
 |sh (a b:Sh)
 |get (n:Nat) (g g':Nat->List Sh)
 |Nz (g g':Nat->List Sh)
 |mp (M M':Int->Option Value)
 |mg (M M':Int×List UInt8->Option Value)
def AQ.ok:AQ->Prop
 | .int a b=>a=b | .nat a b=>a=b | .bool a b=>a=b | .str a b=>a=b | .val a b=>a=b | .sh a b=>a=b | .get n g g'=>∀i,i<n->g i=g' i | .Nz g g'=>g=g' | .mp M M'=>M=M' | .mg M M'=>M=M'
def AQ.all:List AQ->Prop
 |[]=>True |e::l=>e.ok/\AQ.all l
inductive Tree(α:Type)where
 |leaf (a:α)
 |node (b:Bool) (t f:Tree α)
 |need (b:Bool) (t:Tree α)
 |must (l:List AQ) (t:Tree α)
 |both (t f:Tree α)
 |fail
def Tree.bind{α β:Type}:Tree α->(α->Tree β)->Tree β
 | .leaf a,k=>k a | .node b t f,k=>.node b (t.bind k) (f.bind k) | .need b t,k=>.need b (t.bind k) | .must l t,k=>.must l (t.bind k) | .both t f,k=>.both (t.bind k) (f.bind k) | .fail,_=>.fail
def Tree.All{α:Type}(φ:α->Prop):Tree α->Prop
 | .leaf a=>φ a | .node b t f=>(b=aC->t.All φ)/\(b=ay->f.All φ) | .need b t=>b=aC/\t.All φ | .must l t=>AQ.all l/\t.All φ | .both t f=>t.All φ/\f.All φ | .fail=>False
def Tree.lone{α:Type}:Tree α->Bool
 | .both _ _=>ay | .node _ t f=>t.lone&&f.lone | .need _ t=>t.lone | .must _ t=>t.lone |_=>aC
structure Ctx where
 A:Prim
 tys:BT Jt
 fns:BT Func
 spec:Nat->Option (List Sh->Tree Sh)
 eqs:List Nat
 VB:List Nat
 LU:Nat->List Nat->Bool
 gls:List (Nat×Sh)
 live:BT Nat
 amU:Nat->Option (IntKind×List Int):=fun _=>aK
 lits:Bool:=ay
 ins:Nat->Option Nat:=fun _=>aK
 lend:Nat->Bool:=fun _=>ay
 grow:Nat->Option Nat:=fun _=>aK
 Z9:List Nat:=[]
 ad5:Nat->Option VT:=fun _=>aK
def zI{α:Type}:List (Nat×α)->Nat->Option α
 |[],_=>aK |(j,x)::l,i=>bif j==i then ak x else zI l i
def hset{α:Type}:List (Nat×α)->Nat->α->List (Nat×α)
 |[],_,_=>[] |(j,x)::l,i,y=>bif j==i then (j,y)::l else (j,x)::hset l i y
def hdel{α:Type}:List (Nat×α)->Nat->List (Nat×α)
 |[],_=>[] |(j,x)::l,i=>bif j==i then hdel l i else (j,x)::hdel l i
def hins{α:Type}:List (Nat×α)->Nat->α->List (Nat×α)
 |[],i,y=>[(i,y)] |(j,x)::l,i,y=>bif fF j i then (j,x)::hins l i y else (i,y)::(j,x)::l
structure Core where
 tm:List SV
 hp:List (Nat×SB)
 nx:Nat
 lim:Nat
 tc:List Nat
def SV.ofValue:Value->SV
 | .int k n=>.int k n | .bool b=>.bool b | .pointer aK=>.Ei | .slice aK 0 0=>.zY | .nilFunc=>.FM | .nilIface=>.CS | .map aK=>.EU | .string s=>.str s.data.toList | .chan aK=>.val (.chan aK) |_=>.any
def SV.lit:Value->SV
 | .int k n=>.int k n | .nilIface=>.CS | .bool b=>.bool b |x=>.val x
mutual
def Xw:Sh->SV
 | .agg l=>.agg (QD l) | .zQ l=>.zQ (QD l) | .fn f l=>.fn f (QD l) | .i k n=>.sym k n | .b x=>.test x | .v x=>SV.lit x | .pt l=>.Gh l.length 1 (fun _=>l) 0 0 |s=>.sh s
def QD:List Sh->List SV
 |[]=>[] |x::r=>Xw x::QD r
end
def Sh.IU:Sh->SV
 | .fn f l=>.fn f (QD l) | .i k n=>.sym k n | .b x=>.test x | .v x=>SV.lit x | .pt l=>.Gh l.length 1 (fun _=>l) 0 0 |s=>.sh s
def AP(tm:List SV):Operand->SV
 | .tmp t=>tm.getD t .any | .const v=>.ofValue v | .global g=>.glob g | .func f=>.fn f []
def SV.cells:SV->List SV
 | .agg l=>l |x=>[x]
def setAt(l:List SV)(off:Nat):List SV->List SV
 |[]=>l |x::r=>setAt (l.set off x) (off+1) r
def Ty.isAgg:Ty->Bool
 | .struct _=>aC | .arr _ _=>aC |_=>ay
def pack(agg:Bool)(l:List SV):Option SV:=
 bif agg then ak (.agg l) else match l with
  |[x]=>ak x |_=>aK
def seg(l:List SV)(off n:Nat):Option (List SV):=
 bif gJ (off+n) l.length then ak ((l.drop off).take n) else aK
def SV.okc:SV->Bool
 | .any=>ay | .ev _=>ay | .sh (.agg _)=>ay |_=>aC
def PD(place:Nat->Option (Nat×Nat))(ev:Operand->SV):List SV->List (Nat×Operand)->Option (List SV)
 |z,[]=>ak z |z,(i,x)::r=>match place i with
  |some (off,size)=>bif (ev x).okc&&(ev x).cells.length==size&&gJ (off+size) z.length then PD place ev (setAt z off (ev x).cells) r else aK |none=>aK
def rep(l:List SV):Nat->List SV
 |0=>[] |n+1=>l++rep l n
def chunks(st:Nat):Nat->List Sh->List (List Sh)
 |0,_=>[] |n+1,l=>l.take st::chunks st n (l.drop st)
def Af(ll:List (List Sh))(i:Nat):List Sh:=ll.getD i []
def SV.one:SV->Bool
 | .any| .agg _| .zQ _| .ev _=>ay | .sh (.agg _) | .sh (.zQ _)=>ay |_=>aC
def EG:List SV->Bool
 |[]=>aC |x::r=>x.one&&EG r
mutual
def Di(hp:List (Nat×SB)):SV->Option Sh
 | .int k n=>ak (.i k n) | .sym k n=>ak (.i k n) | .bool x=>ak (.b x) | .test x=>ak (.b x) | .str l=>ak (.str l) | .val v=>ak (.v v) | .Ei=>ak (.v (.pointer aK)) | .FM=>ak (.v .nilFunc) | .CS=>ak (.v .nilIface) | .zY=>ak (.sl 0 0 fun _=>[]) | .sh s=>ak s | .agg l=>(G8 hp l).map .agg | .zQ l=>(G8 hp l).map .zQ | .fn f l=>(G8 hp l).map (.fn f) | .BM t x=>(Di hp x).map (.BM t) | .gs id=>match zI hp id with
  |some (.fz st m g)=>ak (.sl st m g) |_=>aK
 | .ptr id off=>match zI hp id with
  |some (.QN l)=>bif off==0 then ak (.pt l) else aK |_=>aK
 | .Gh st _ g i off=>bif off==0&&(g i).length==st then ak (.pt (g i)) else aK |_=>aK
def G8(hp:List (Nat×SB)):List SV->Option (List Sh)
 |[]=>ak [] |x::r=>match Di hp x,G8 hp r with
  |some s,ak l=>ak (s::l) |_,_=>aK
end
mutual
def ah8:SV->List Nat
 | .gs id=>[id] | .ptr id _=>[id] | .agg l=>Jc l | .zQ l=>Jc l | .fn _ l=>Jc l | .BM _ x=>ah8 x |_=>[]
def Jc:List SV->List Nat
 |[]=>[] |x::r=>ah8 x++Jc r
end
def EW:Nat->List (Nat×SB)->List Nat->Option (List (Nat×SB))
 |_,hp,[]=>ak hp |0,_,_=>aK |m+1,hp,id::r=>match zI hp id with
  |some (.fz _ _ _)=>EW m hp r |some (.QN _)=>EW m hp r |some (.own _ st n g)=>EW m (hset hp id (.fz st n g)) r |some (.row cells _ st n)=>match G8 hp cells with
   |some l=>bif EG cells then EW m (hset hp id (.fz st n (Af (chunks st n l)))) r else aK |none=>EW m hp (Jc cells++id::r)
  |some (.box cells _)=>match G8 hp cells with
   |some l=>bif EG cells then EW m (hset hp id (.QN l)) r else aK |none=>EW m hp (Jc cells++id::r)
  |_=>aK
def freeze(hp:List (Nat×SB))(ids:List Nat):Option (List (Nat×SB)):=EW 40 hp ids
mutual
def BP:Sh->Nat->SV×List (Nat×SB)×Nat
 | .os e st n g,b=>(.gs b,[(b,.own e st n g)],b+1) | .agg l,b=>let r:=DU l b;(.agg r.1,r.2) | .zQ l,b=>let r:=DU l b;(.zQ r.1,r.2) | .i k n,b=>(.sym k n,[],b) | .b x,b=>(.test x,[],b) | .v x,b=>(SV.lit x,[],b) | .fn f l,b=>(.fn f (QD l),[],b) | .pt l,b=>(.Gh l.length 1 (fun _=>l) 0 0,[],b) |s,b=>(.sh s,[],b)
def DU:List Sh->Nat->List SV×List (Nat×SB)×Nat
 |[],b=>([],[],b) |x::r,b=>let p:=BP x b;let q:=DU r p.2.2;(p.1::q.1,p.2.1++q.2.1,q.2.2)
end
def CJ(hp:List (Nat×SB)):List (Nat×SB)->List (Nat×SB)
 |[]=>hp |(i,b)::r=>CJ (hins hp i b) r
def VD(A:Prim)(op:BinOp)(k:IntKind)(x y:Int):Option Int:=
 match op with
 | .add=>ak (A.add k x y) | .sub=>ak (A.sub k x y) | .mul=>ak (A.mul k x y) |_=>aK
def ad6(op:BinOp)(k:IntKind)(x y:Int):Option Int:=
 match op with
 | .add=>ak (k.wrap (x+y)) | .sub=>ak (k.wrap (x - y)) | .mul=>ak (k.wrap (x*y)) |_=>aK
def afu(A:Prim)(op:BinOp)(x y:Int):Option Bool:=
 match op with
 | .eql=>ak (A.eq x y) | .neq=>ak (A.nt (A.eq x y)) | .lss=>ak (A.lt x y) | .leq=>ak (A.le x y) | .gtr=>ak (A.lt y x) | .geq=>ak (A.le y x) |_=>aK
def cmpL(op:BinOp)(x y:Int):Option Bool:=
 match op with
 | .eql=>ak (x==y) | .neq=>ak (x != y) | .lss=>ak (decide (x<y)) | .leq=>ak (decide (x<=y)) | .gtr=>ak (decide (y<x)) | .geq=>ak (decide (y<=x)) |_=>aK
def Ctx.ty(C:Ctx)(t:Nat):Option Jt:=C.tys.get t
def orO{α:Type}:Option α->Option α->Option α
 |some a,_=>ak a |none,b=>b
def Dj(op:BinOp)(nil:Bool):Option SV:=
 match op with
 | .eql=>ak (.bool nil) | .neq=>ak (.bool !nil) |_=>aK
def eqB(A:Prim)(op:BinOp)(x y:Bool):Option SV:=
 match op with
 | .eql=>ak (.test (A.beq x y)) | .neq=>ak (.test (A.nt (A.beq x y))) |_=>aK
def eqS(A:Prim)(op:BinOp)(x y:List UInt8):Option SV:=
 match op with
 | .eql=>ak (.test (A.seq x y)) | .neq=>ak (.test (A.nt (A.seq x y))) |_=>aK
inductive Cq where
 |i (n:Int)
 |b (x:Bool)
 deriving DecidableEq
def Cq.v:Cq->Value
 | .i n=>.int .i64 n | .b x=>.bool x
def Oa:List SV->Option (List Cq)
 |[]=>ak [] | .int .i64 n::r=>(Oa r).map fun l=>.i n::l | .sym .i64 n::r=>(Oa r).map fun l=>.i n::l | .bool x::r=>(Oa r).map fun l=>.b x::l | .test x::r=>(Oa r).map fun l=>.b x::l |_=>aK
def Cc:List Cq->List SV->Bool
 |[],[]=>aC | .i _::r,.int .i64 _::z=>Cc r z | .b _::r,.bool _::z=>Cc r z |_,_=>ay
def PE(A:Prim):List Cq->List Cq->Bool
 | .i x::xs,.i y::ys=>A.ite (A.eq x y) (PE A xs ys) ay | .b x::xs,.b y::ys=>A.ite (A.beq x y) (PE A xs ys) ay |_,_=>aC
def acU(gls:List (Nat×Sh))(g T:Nat):Bool:=match zI gls g with
 |some (.er g' T')=>g'==g&&T'==T |_=>ay
def amW(gls:List (Nat×Sh))(op:BinOp):SV->SV->Option SV
 | .fn _ _,.FM=>Dj op ay | .FM,.FM=>Dj op aC | .ptr _ _,.Ei=>Dj op ay | .Gh _ _ _ _ _,.Ei=>Dj op ay | .val (.pointer (ak _)),.Ei=>Dj op ay | .Ei,.Ei=>Dj op aC | .BM _ _,.CS=>Dj op ay | .sh (.BM _ _),.CS=>Dj op ay | .sh (.er _ _),.CS=>Dj op ay | .CS,.CS=>Dj op aC | .sh (.er g T),.sh (.er g' T')=>bif g==g'&&T==T' then Dj op aC else bif acU gls g T&&acU gls g' T'&&T==T' && !(g==g') then Dj op ay else aK | .CS,.sh (.er _ _)=>Dj op ay | .BM t _,.sh (.er _ T)=>bif t==T then aK else Dj op ay | .sh (.BM t _),.sh (.er _ T)=>bif t==T then aK else Dj op ay |_,_=>aK
def Eu:Ty->SV->Bool
 | .fn,.fn _ _=>aC | .fn,.FM=>aC | .ptr _,.ptr _ _=>aC | .ptr _,.Gh _ _ _ _ _=>aC | .ptr _,.val (.pointer (ak _))=>aC | .ptr _,.Ei=>aC | .iface,.BM _ _=>aC | .iface,.sh (.BM _ _)=>aC | .iface,.sh (.er _ _)=>aC | .iface,.CS=>aC |_,_=>ay
def isConst:Operand->Bool
 | .const _=>aC |_=>ay
def amX(A:Prim)(op:BinOp)(x y:SV):Option SV:=
 match x,y with
 | .bool a,.bool b=>match op with| .eql=>ak (.bool (a==b)) | .neq=>ak (.bool (a != b)) |_=>aK
 | .bool a,.test b=>eqB A op a b | .test a,.bool b=>eqB A op a b | .test a,.test b=>eqB A op a b |_,_=>aK
def VE:SV->Bool
 | .CS=>aC |_=>ay
def asU(VB:List Nat):SV->Bool
 | .sh (.er _ T)=>VB.contains T |_=>aC
def akb(VB:List Nat)(gls:List (Nat×Sh))(op:BinOp)(ty:Ty)(lit:Bool)(x y:SV):Option SV:=
 bif asU VB x&&Eu ty x&&Eu ty y&&(lit || !(VE x&&VE y)) then amW gls op x y else aK
def amY(C:Ctx)(op:BinOp)(t:Nat)(lit:Bool)(x y:SV):Option SV:=
 let A:=C.A
 match x,y with
 | .int k a,.int l b=>bif k==l then orO ((ad6 op k a b).map (.int k)) ((cmpL op a b).map .bool) else aK | .int k a,.sym l b=>bif k==l then orO ((VD A op k a b).map (.sym k)) ((afu A op a b).map .test) else aK | .sym k a,.int l b=>bif k==l then orO ((VD A op k a b).map (.sym k)) ((afu A op a b).map .test) else aK | .sym k a,.sym l b=>bif k==l then orO ((VD A op k a b).map (.sym k)) ((afu A op a b).map .test) else aK | .str a,.str b=>match op with| .eql=>ak (.bool (a==b)) | .neq=>ak (.bool (a != b)) |_=>aK
 | .str a,.sh (.str b)=>eqS A op a b | .sh (.str a),.str b=>eqS A op a b | .sh (.str a),.sh (.str b)=>eqS A op a b | .agg a,.agg b=>match Oa a,Oa b,C.ty t with
  |some a,ak b,ak i=>bif C.eqs.contains t&&Cc a i.zero&&Cc b i.zero then match op with
   | .eql=>ak (.test (PE A a b)) | .neq=>ak (.test (A.nt (PE A a b))) |_=>aK
   else aK
  |_,_,_=>aK
 |x,y=>match C.ty t with
  |none=>aK |some i=>match i.ty with
   | .bool=>amX A op x y |ty=>akb C.VB C.gls op ty lit x y
def amZ(hp:List (Nat×SB)):SV->Option Nat
 | .gs id=>match zI hp id with
  |some (.row _ _ _ n)=>ak n |some (.own _ _ n _)=>ak n |some (.fz _ n _)=>ak n |_=>aK
 | .sh (.sl _ n _)=>ak n |_=>aK
def Xx:Operand->Bool
 | .const (.slice aK 0 0)=>aC |_=>ay
def acV(C:Ctx)(c:Core)(op:BinOp)(t:Nat)(y:Operand)(x:SV):Option (Tree (SV×Core)):=
 match C.ty t with
 |some i=>match i.ty with
  | .slice _=>bif Xx y then
    match Dj op aC,Dj op ay with
    |some a,ak b=>match x with
     | .zY=>ak (.leaf (a,c)) |x=>match amZ c.hp x with
      |some n=>ak (.node (C.A.Z8 n 0) (.both (.leaf (a,c)) (.leaf (b,c))) (.leaf (b,c))) |none=>aK
    |_,_=>aK
   else aK
  |_=>aK
 |none=>aK
def textOf:SV->Option (List UInt8)
 | .str l=>ak l | .sh (.str l)=>ak l |_=>aK
def VF(op:BinOp)(k:IntKind)(a b:Int):Int:=
 match op with
 | .and=>k.wrap (fD k.bits a&&&fD k.bits b).toNat | .or=>k.wrap (fD k.bits a|||fD k.bits b).toNat | .xor=>k.wrap (fD k.bits a^^^fD k.bits b).toNat | .andNot=>k.wrap (fD k.bits a&&&~~~ fD k.bits b).toNat | .shl=>k.wrap (a*2^(min b.toNat k.bits)) | .shr=>a.fdiv (2^(min b.toNat k.bits)) | .quo=>k.wrap (a.tdiv b) | .rem=>a.tmod b |_=>0
def numOf:SV->Option (IntKind×Int×Bool)
 | .int k n=>ak (k,n,aC) | .sym k n=>ak (k,n,ay) |_=>aK
def MB(A:Prim)(op:BinOp)(k:IntKind)(a b:Int)(la lb:Bool)(c:Core):Tree (SV×Core):=
 .leaf (bif la&&lb then .int k (VF op k a b) else .sym k (A.bin op k a b),c)
def am0(C:Ctx)(c:Core)(op:BinOp)(x y:SV):Option (Tree (SV×Core)):=
 match op,numOf x,numOf y with
 | .shl,ak (k,a,la),ak (_,b,lb)=>ak (bif lb then bif decide (0<=b) then MB C.A .shl k a b la lb c else .fail else .need (C.A.le 0 b) (MB C.A .shl k a b la lb c)) | .shr,ak (k,a,la),ak (_,b,lb)=>ak (bif lb then bif decide (0<=b) then MB C.A .shr k a b la lb c else .fail else .need (C.A.le 0 b) (MB C.A .shr k a b la lb c)) | .quo,ak (k,a,la),ak (l,b,lb)=>bif k==l then ak (bif lb then bif b==0 then .fail else MB C.A .quo k a b la lb c else .need (C.A.nt (C.A.eq b 0)) (MB C.A .quo k a b la lb c)) else aK | .rem,ak (k,a,la),ak (l,b,lb)=>bif k==l then ak (bif lb then bif b==0 then .fail else MB C.A .rem k a b la lb c else .need (C.A.nt (C.A.eq b 0)) (MB C.A .rem k a b la lb c)) else aK | .and,ak (k,a,la),ak (l,b,lb)=>bif k==l then ak (MB C.A .and k a b la lb c) else aK | .or,ak (k,a,la),ak (l,b,lb)=>bif k==l then ak (MB C.A .or k a b la lb c) else aK | .xor,ak (k,a,la),ak (l,b,lb)=>bif k==l then ak (MB C.A .xor k a b la lb c) else aK | .andNot,ak (k,a,la),ak (l,b,lb)=>bif k==l then ak (MB C.A .andNot k a b la lb c) else aK |_,_,_=>aK
def akc(C:Ctx)(c:Core)(op:BinOp)(x y:SV):Option (Tree (SV×Core)):=
 match op with
 | .add=>match textOf x,textOf y with
  |some a,ak b=>ak (.need (C.A.Z8 (C.A.addN (C.A.len a) (C.A.len b)) 9223372036854775807) (.leaf (.sh (.str (C.A.app a b)),c))) |_,_=>aK
 |_=>aK
def aac(C:Ctx)(c:Core)(op:BinOp)(t:Nat)(x y:Operand)(lit:Bool):Tree (SV×Core):=
 match am0 C c op (AP c.tm x) (AP c.tm y) with
 |some r=>r |none=>match akc C c op (AP c.tm x) (AP c.tm y) with
 |some r=>r |none=>match acV C c op t y (AP c.tm x) with
 |some r=>r |none=>match amY C op t lit (AP c.tm x) (AP c.tm y) with
  |some v=>.leaf (v,c) |none=>.fail
def notS(A:Prim):SV->Option SV
 | .bool b=>ak (.bool !b) | .test b=>ak (.test (A.nt b)) |_=>aK
def negS(A:Prim):SV->Option SV
 | .int k n=>ak (.int k (k.wrap (0 - n))) | .sym k n=>ak (.sym k (A.neg k n)) |_=>aK
def ZB:SV->Option Bool
 | .bool x=>ak x | .test x=>ak x |_=>aK
def ah9(A:Prim)(c a b:SV):Option SV:=
 match c with
 | .bool aC=>ak a | .bool ay=>ak b | .test c=>match ZB a,ZB b with
  |some x,ak y=>ak (.test (A.ite c x y)) |_,_=>aK
 |_=>aK
def akd(A:Prim)(hp:List (Nat×SB)):SV->Option SV
 | .gs id=>match zI hp id with
  |some (.row _ _ _ n)=>ak (.int .i64 n) |some (.own _ _ n _)=>ak (.sym .i64 (A.Aa n)) |some (.FY _ st n _ more)=>ak (.sym .i64 (A.Aa (A.addN n (Nat.div more.length st)))) |some (.fz _ n _)=>ak (.sym .i64 (A.Aa n)) |some (.buf _ l)=>ak (.sym .i64 (A.Aa (A.len l))) |_=>aK
 | .vw _ n=>ak (.sym .i64 (A.Aa n)) | .sh (.sl _ n _)=>ak (.sym .i64 (A.Aa n)) | .zY=>ak (.int .i64 0) | .str l=>ak (.int .i64 l.length) | .sh (.str l)=>ak (.sym .i64 (A.Aa (A.len l))) |_=>aK
def Gi:SV->Option Int
 | .int _ n=>ak n | .sym _ n=>ak n |_=>aK
def ret(c:Core)(v:SV):Tree (SV×Core):=.leaf (v,c)
def alloc(c:Core)(b:SB)(v:SV):Tree (SV×Core):=
 bif fF c.nx c.lim then ret {c with hp:=hins c.hp c.nx b,nx:=c.nx+1} v else .fail
def Kr(c:Core):Option SV->Tree (SV×Core)
 |some v=>.leaf (v,c) |none=>.fail
def Un(C:Ctx)(c:Core)(e:Nat):Tree (SV×Core):=
 match C.ty e with
 |some i=>alloc c (.box i.zero e) (.ptr c.nx 0) |none=>.fail
def Uo(C:Ctx)(c:Core)(t:Nat)(parts:List (Nat×Operand)):Tree (SV×Core):=
 match C.ty t with
 |some i=>match i.ty with
  | .struct fs=>match PD (fun j=>fs[j]?.map fun f=>(f.1,f.2.1)) (AP c.tm) i.zero parts with
   |some l=>ret c (.agg l) |none=>.fail
  |_=>.fail
 |none=>.fail
def KE(C:Ctx)(c:Core)(t n:Nat)(parts:List (Nat×Operand)):Tree (SV×Core):=
 match C.ty t with
 |some i=>match i.ty with
  | .slice e=>match C.ty e with
   |some j=>bif gJ (n*j.size) 16777216&&fF 0 j.size then
     match PD (fun k=>ak (k*j.size,j.size)) (AP c.tm) (rep j.zero n) parts with
     |some l=>alloc c (.row l e j.size n) (.gs c.nx) |none=>.fail
    else .fail
   |none=>.fail
  |_=>.fail
 |none=>.fail
def ad7(C:Ctx)(c:Core)(agg:Bool)(size:Nat):SV->Option SV
 | .ptr id off=>match zI c.hp id with
  |some (.box cs _)=>(seg cs off size).bind (pack agg) |some (.row cs _ _ _)=>(seg cs off size).bind (pack agg) |some (.QN l)=>(seg (l.map Sh.IU) off size).bind (pack agg) |_=>aK
 | .gp id st i off=>match zI c.hp id with
  |some (.own _ st' _ g)=>bif st==st' then (seg ((g i).map Sh.IU) off size).bind (pack agg) else aK |some (.fz st' _ g)=>bif st==st' then (seg ((g i).map Sh.IU) off size).bind (pack agg) else aK |_=>aK
 | .Gh _ _ g i off=>(seg ((g i).map Sh.IU) off size).bind (pack agg) | .glob g=>bif agg then aK else (zI C.gls g).bind fun s=>match s with
  | .zQ _=>aK |s=>ak s.IU
 |_=>aK
def Xy(C:Ctx)(c:Core)(t:Nat)(x:SV):Tree (SV×Core):=
 match C.ty t with
 |some i=>Kr c (ad7 C c i.ty.isAgg i.size x) |none=>.fail
def Ur(C:Ctx)(c:Core)(t:Nat)(x v:SV):Tree (SV×Core):=
 match C.ty t with
 |some i=>bif v.cells.length==i.size&&EG v.cells then
   match x with
   | .ptr id off=>match zI c.hp id with
    |some (.box cs e)=>bif gJ (off+i.size) cs.length then ret {c with hp:=hset c.hp id (.box (setAt cs off v.cells) e),tc:=id::c.tc} .any else .fail
    |some (.row cs e st n)=>bif gJ (off+i.size) cs.length then ret {c with hp:=hset c.hp id (.row (setAt cs off v.cells) e st n),tc:=id::c.tc} .any else .fail
    |_=>.fail
   | .gp id st j off=>match zI c.hp id with
    |some (.own e st' n g)=>bif st==st'&&gJ (off+i.size) st then match G8 c.hp v.cells with
      |some l=>ret {c with hp:=hset c.hp id (.own e st n (C.A.upd g j off l)),tc:=id::c.tc} .any
      |none=>.fail
     else .fail
    |_=>.fail
   |_=>.fail
  else .fail
 |none=>.fail
def aad(c:Core):SV->Tree (SV×Core)
 | .ptr i o=>ret c (.ptr i o) | .gp i st j o=>ret c (.gp i st j o) | .Gh st n g i o=>ret c (.Gh st n g i o) | .fn f l=>ret c (.fn f l) |_=>.fail
def MC(C:Ctx)(c:Core)(t f:Nat)(x:SV):Tree (SV×Core):=
 match C.ty t with
 |some i=>match i.ty with
  | .struct fs=>match fs[f]? with
   |some (off,size,_)=>bif fF 0 size then match x with
    | .ptr id o=>ret c (.ptr id (o+off)) | .gp id st j o=>ret c (.gp id st j (o+off)) | .Gh st n g j o=>ret c (.Gh st n g j (o+off)) |_=>.fail
    else .fail
   |none=>.fail
  |_=>.fail
 |none=>.fail
def Us(C:Ctx)(c:Core)(t f:Nat)(x:SV):Tree (SV×Core):=
 match C.ty t with
 |some i=>match i.ty,x with
  | .struct fs,.agg l=>match fs[f]? with
   |some (off,size,agg)=>Kr c ((seg l off size).bind (pack agg)) |none=>.fail
  |_,_=>.fail
 |none=>.fail
def aia(A:Prim)(n:Int)(f:Nat->Tree (SV×Core))(m:Nat):Nat->Tree (SV×Core)
 |0=>.fail |k+1=>.node (A.eq n (ofNat (m - (k+1)))) (f (m - (k+1))) (aia A n f m k)
def ake(A:Prim)(n:Int):SV->Nat
 | .int _ k=>k.toNat |_=>A.toN n
def MF(C:Ctx)(c:Core)(t:Nat)(x i:SV):Tree (SV×Core):=
 match C.ty t with
 |some ti=>match ti.ty with
  | .slice e=>match C.ty e with
   |some te=>match x,Gi i with
    | .gs id,ak n=>match zI c.hp id with
     |some (.row _ _ st m)=>match i with
      | .int _ n=>bif decide (0<=n)&&decide (n<m)&&st==te.size then ret c (.ptr id (n.toNat*st)) else .fail |_=>.fail
     |some (.own _ st m _)=>bif st==te.size then .need (C.A.inB n m) (ret c (.gp id st (ake C.A n i) 0)) else .fail |some (.fz st m g)=>bif st==te.size then .need (C.A.inB n m) (ret c (.Gh st m g (ake C.A n i) 0)) else .fail |_=>.fail
    | .sh (.sl st m g),ak n=>bif st==te.size then .need (C.A.inB n m) (ret c (.Gh st m g (ake C.A n i) 0)) else .fail |_,_=>.fail
   |none=>.fail
  | .arr m e=>match C.ty e with
   |some te=>match x,i with
    | .glob g,.int _ n=>match zI C.gls g with
     |some (.zQ l)=>bif decide (0<=n)&&decide (n<m)&&l.length==m*te.size then ret c (.Gh te.size m (Af (chunks te.size m l)) n.toNat 0) else .fail |_=>.fail
    | .glob g,.sym _ n=>match zI C.gls g with
     |some (.zQ l)=>bif l.length==m*te.size then .need (C.A.inB n m) (aia C.A n (fun j=>ret c (.Gh te.size m (Af (chunks te.size m l)) j 0)) m m) else .fail |_=>.fail
    |_,_=>.fail
   |none=>.fail
  |_=>.fail
 |none=>.fail
def PG(c:Core)(x:SV)(i:Nat):Tree (SV×Core):=
 match x with
 | .zQ l=>Kr c l[i]? |_=>.fail
def Oc(A:Prim):SV->Option Nat
 | .int _ k=>ak k.toNat | .sym _ n=>ak (A.toN n) |_=>aK
def akf(hp:List (Nat×SB))(st:Nat):SV->Option (Nat×Nat)
 | .gs id=>match zI hp id with
  |some (.own _ st' n _)=>bif st==st' then ak (id,n) else aK |_=>aK
 |_=>aK
def Ut(C:Ctx)(c:Core)(t:Nat)(x:SV)(lo hi:Option SV):Tree (SV×Core):=
 match C.ty t with
 |some ti=>match ti.ty with
  | .slice e=>match C.ty e with
   |some te=>
    match akf c.hp te.size x,lo,hi with
    |some (id,n),aK,ak h=>match Gi h,Oc C.A h with
     |some hi,ak h=>.need (C.A.upTo hi n) (ret c (.vw id h)) |_,_=>.fail
    |_,_,_=>
    match (match x with| .gs id=>freeze c.hp [id] |_=>ak c.hp) with
    |none=>.fail |some hp=>match Di hp x with
     |some (.sl st n g)=>bif st==te.size then
       match lo,hi with
       |none,aK=>ret {c with hp} (.sh (.sl st n g))
       |none,ak h=>match Gi h,Oc C.A h with
        |some hi,ak h=>.need (C.A.upTo hi n) (ret {c with hp} (.sh (.sl st h g)))
        |_,_=>.fail
       |some l,aK=>match Gi l,Oc C.A l with
        |some li,ak l=>.need (C.A.upTo li n) (ret {c with hp} (.sh (.sl st (C.A.Jb n l) fun j=>g (C.A.addN l j))))
        |_,_=>.fail
       |some l,ak h=>match Gi l,Oc C.A l,Gi h,Oc C.A h with
        |some li,ak l,ak hi,ak h=>.need (C.A.upTo hi n) (.need (C.A.upTo li h) (ret {c with hp} (.sh (.sl st (C.A.Jb h l) fun j=>g (C.A.addN l j)))))
        |_,_,_,_=>.fail
      else .fail
     |_=>.fail
   |none=>.fail
  |_=>.fail
 |none=>.fail
def isZero:SV->Bool
 | .int _ n=>n==0 |_=>ay
def am1(k:SV)(e st:Nat):SB:=
 match k with
 | .int _ _=>.row [] e st 0 |_=>.own e st 0 fun _=>[]
def MG(C:Ctx)(c:Core)(t:Nat)(l k:SV)(same:Bool):Tree (SV×Core):=
 match C.ty t with
 |some ti=>match ti.ty with
  | .slice e=>match C.ty e with
   |some te=>match Gi k,Oc C.A k with
    |some ki,ak kn=>
     bif isZero l then .need (C.A.le 0 ki) (.need (C.A.room kn te.bytes) (alloc c (am1 k e te.size) (.gs c.nx)))
     else bif same&&EG te.zero&&fF 0 te.size then match G8 [] te.zero with
      |some z=>.need (C.A.le 0 ki) (.need (C.A.room kn te.bytes) (alloc c (.own e te.size kn fun _=>z) (.gs c.nx))) |none=>.fail
     else .fail
    |_,_=>.fail
   |none=>.fail
  |_=>.fail
 |none=>.fail
def xOf(hp:List (Nat×SB))(e st:Nat):SV->Option (Nat×(Nat->List Sh)×List SV)
 | .gs id=>match zI hp id with
  |some (.own e' st' n g)=>bif e==e'&&st==st' then ak (n,g,[]) else aK |some (.FY e' st' n g more)=>bif e==e'&&st==st' then ak (n,g,more) else aK |_=>aK
 |_=>aK
def rowOf(hp:List (Nat×SB))(st:Nat):SV->Option (List SV×Nat)
 | .zY=>ak ([],0) | .gs id=>match zI hp id with
  |some (.row cells _ st' n)=>bif st==st' then ak (cells,n) else aK |_=>aK
 |_=>aK
def MH(hp:List (Nat×SB))(st:Nat):SV->Option (Nat×(Nat->List Sh))
 | .zY=>ak (0,fun _=>[]) | .gs id=>match zI hp id with
  |some (.row cells _ st' n)=>bif st==st'&&EG cells then (G8 hp cells).map fun l=>(n,Af (chunks st n l)) else aK |some (.own _ st' n g)=>bif st==st' then ak (n,g) else aK |some (.fz st' n g)=>bif st==st' then ak (n,g) else aK |_=>aK
 | .sh (.sl st' n g)=>bif st==st' then ak (n,g) else bif st'==0&&n==0 then ak (0,fun _=>[]) else aK | .vw id n=>match zI hp id with
  |some (.own _ st' _ g)=>bif st==st' then ak (n,g) else aK |_=>aK
 |_=>aK
def PI:SV->Option Nat
 | .gs id=>ak id |_=>aK
def MI(hp:List (Nat×SB))(e:Nat):SV->Bool
 | .zY=>aC | .gs id=>match zI hp id with
  |some (.row _ e' _ _)=>e==e' |some (.own e' _ _ _)=>e==e' |some (.FY e' _ _ _ _)=>e==e' |some (.buf e' _)=>e==e' |_=>ay
 |_=>ay
def NC(x y:SV):Bool:=
 match PI x,PI y with
 |some i,ak j=>i==j |_,_=>ay
def BN(c:Core)(s:SV):Core:=
 match PI s with
 |some id=>{c with hp:=hdel c.hp id,tc:=id::c.tc}
 |none=>c
def aae:List SV->Option (List UInt8)
 |[]=>ak [] | .int .u8 n::r=>bif decide (0<=n)&&decide (n<256) then (aae r).map fun l=>UInt8.ofNat n.toNat::l else aK |_=>aK
def QU(hp:List (Nat×SB))(e:Nat):SV->Option (List UInt8)
 | .zY=>ak [] | .gs id=>match zI hp id with
  |some (.buf e' l)=>bif e==e' then ak l else aK |some (.row cells e' st n)=>bif e==e'&&st==1&&n==cells.length then aae cells else aK |_=>aK
 |_=>aK
def Jd(C:Ctx)(e:Nat):Bool:=
 match C.ty e with
 |some te=>match te.ty,te.zero with
  | .int .u8,[.int .u8 n]=>te.size==1&&te.bytes==1&&n==0 |_,_=>ay
 |none=>ay
def PK(C:Ctx)(c:Core)(t u:Nat)(s x:SV):Tree (SV×Core):=
 match C.ty t,C.ty u with
 |some ti,ak ui=>match ti.ty,ui.ty with
  | .slice e,.str=>match QU c.hp e s,textOf x with
   |some l,ak m=>bif Jd C e&&MI c.hp e s then
     .need (C.A.room (C.A.addN (C.A.len l) (C.A.len m)) 1) (alloc (BN c s) (.buf e (C.A.app l m)) (.gs c.nx))
    else .fail
   |_,_=>.fail
  |_,_=>.fail
 |_,_=>.fail
def PL(C:Ctx)(c:Core)(t:Nat)(s x:SV):Option (Tree (SV×Core)):=
 match s with
 | .gs id=>match zI c.hp id with
  |some (.buf e l)=>match C.ty t,QU c.hp e x with
   |some ti,ak m=>match ti.ty with
    | .slice e'=>bif e==e'&&Jd C e && !NC s x then
      ak (.need (C.A.room (C.A.addN (C.A.len l) (C.A.len m)) 1) (alloc (BN c s) (.buf e (C.A.app l m)) (.gs c.nx)))
     else aK
    |_=>aK
   |_,_=>aK
  |_=>aK
 |_=>aK
def Xz(C:Ctx)(c:Core)(t u:Nat)(x:SV):Tree (SV×Core):=
 match C.ty t,C.ty u with
 |some ti,ak ui=>match ti.ty,ui.ty with
  | .int _,.int k=>match x with
   | .int _ n=>ret c (.int k (k.wrap n)) | .sym _ n=>ret c (.sym k (C.A.conv k n)) |_=>.fail
  | .str,.slice e=>match textOf x with
   |some l=>bif Jd C e then .need (C.A.room (C.A.len l) 1) (alloc c (.buf e l) (.gs c.nx)) else .fail |none=>.fail
  | .slice e,.str=>match QU c.hp e x with
   |some l=>bif Jd C e then ret c (.sh (.str l)) else .fail |none=>.fail
  |_,_=>.fail
 |_,_=>.fail
def QV(C:Ctx)(c:Core)(t:Nat)(s x:SV):Tree (SV×Core):=
 match C.ty t with
 |some ti=>match ti.ty with
  | .slice e=>match C.ty e with
   |some te=>
    bif MI c.hp e s && !NC s x&&fF 0 te.size then
     match rowOf c.hp te.size s,rowOf c.hp te.size x with
     |some (a,n),ak (b,m)=>
      bif EG b&&gJ ((n+m)*te.bytes) 140737488355328&&gJ (n+m) 1073741824 then alloc (BN c s) (.row (a++b) e te.size (n+m)) (.gs c.nx) else .fail
     |_,_=>match MH c.hp te.size s,MH c.hp te.size x with
      |some (n,g),ak (m,h)=>.need (C.A.room (C.A.addN n m) te.bytes) (alloc (BN c s) (.own e te.size (C.A.addN n m) (C.A.snoc g n h)) (.gs c.nx)) |_,_=>match xOf c.hp e te.size s,rowOf c.hp te.size x with
       |some (n,g,more),ak (b,_)=>bif EG b then .need (C.A.room (C.A.addN n (Nat.div (more++b).length te.size)) te.bytes) (alloc (BN c s) (.FY e te.size n g (more++b)) (.gs c.nx)) else .fail |_,_=>.fail
    else .fail
   |none=>.fail
  |_=>.fail
 |none=>.fail
def Ib:SV->Option (IntKind×Int×Bool)
 | .int k n=>ak (k,n,aC) | .sym k n=>ak (k,n,ay) |_=>aK
def QW(kk:IntKind)(k:Int):List (SV×SV)->Option (Option SV)
 |[]=>ak aK |(.int j m,v)::r=>bif j==kk then bif m==k then ak (ak v) else QW kk k r else aK |_=>aK
def VG(A:Prim)(kk:IntKind)(k:Int)(z:SV)(f:SV->Bool->Tree (SV×Core)):List (SV×SV)->Tree (SV×Core)
 |[]=>f z ay |(.int j m,v)::r=>bif j==kk then .node (A.eq k m) (f v aC) (VG A kk k z f r) else .fail |_=>.fail
def VH(k:IntKind)(n:Int)(v:SV):List (SV×SV)->Option (List (SV×SV))
 |[]=>ak [(.int k n,v)] |(.int j m,u)::r=>bif j==k then bif m==n then ak ((.int k n,v)::r) else (VH k n v r).map fun r=>(.int j m,u)::r else aK |_=>aK
def afw(l:List Int):List (Int×Bool×SV):=l.map fun n=>(n,ay,.any)
def PN(C:Ctx)(c:Core)(t:Nat):Tree (SV×Core):=
 match C.amU t with
 |some (k,l)=>alloc c (.fm k (fun _=>aK) (afw l) [] aK) (.mp c.nx) |none=>match C.ad5 t with
  |some vt=>alloc c (.pm vt (fun _=>aK) []) (.mp c.nx) |none=>alloc c (.map []) (.mp c.nx)
def findF(A:Prim)(k:Int)(f:Bool->SV->Tree (SV×Core)):List (Int×Bool×SV)->Tree (SV×Core)
 |[]=>.fail |[(j,p,v)]=>.need (A.eq k j) (f p v) |(j,p,v)::r=>.node (A.eq k j) (f p v) (findF A k f r)
def intOf:SV->Option Int
 | .int .i64 n=>ak n | .sym .i64 n=>ak n | .sh (.i .i64 n)=>ak n |_=>aK
def strOf:SV->Option (List UInt8)
 | .str l=>ak l | .sh (.str l)=>ak l |_=>aK
def ZC:SV->Option (Int×List UInt8)
 | .agg [a,b]=>match intOf a,strOf b with
  |some n,ak l=>ak (n,l) |_,_=>aK
 | .sh (.agg [.i .i64 n,.str l])=>ak (n,l) |_=>aK
def SV.acW:SV->VT->Bool
 | .int .i64 _,.int=>aC | .sym .i64 _,.int=>aC | .bool _,.bool=>aC | .test _,.bool=>aC |_,_=>ay
def am2(A:Prim)(vt:VT)(o:Option Value):SV:=match vt with
 | .int=>.sym .i64 (A.asT o) | .bool=>.test (A.IQ o)
def aic(A:Prim)(vt:VT)(M:Int×List UInt8->Option Value)(k:Int×List UInt8)(f:Bool->SV->Tree (SV×Core)):List ((Int×List UInt8)×Bool×SV)->Tree (SV×Core)
 |[]=>.node (A.isS (M k)) (f aC (am2 A vt (M k))) (f ay .any) |(j,p,v)::r=>.node (A.kp k.1 k.2 j.1 j.2) (f p v) (aic A vt M k f r)
def Ic(c:Core)(ok:Bool)(v:SV)(b:Bool):Tree (SV×Core):=ret c (bif ok then .zQ [v,.bool b] else v)
def QX(C:Ctx)(c:Core)(t:Nat)(m k:SV)(ok:Bool):Tree (SV×Core):=
 match C.ty t with
 |some ti=>match ti.ty with
  | .map kt e=>match C.ty kt,C.ty e with
   |some kti,ak te=>match kti.ty,pack te.ty.isAgg te.zero with
    | .struct _,ak z=>bif C.Z9.contains kt then
      match m with
      | .mp id=>match zI c.hp id with
       |some (.pm vt M us)=>match ZC k with
        |some n=>aic C.A vt M n (fun p v=>bif p then Ic c ok v aC else Ic c ok z ay) us |none=>.fail
       |_=>.fail
      |_=>.fail
     else .fail
    | .int kk,ak z=>
     match m with
     | .EU=>match Ib k with
      |some (j,_,_)=>bif j==kk then Ic c ok z ay else .fail |none=>.fail
     | .mp id=>match zI c.hp id with
      |some (.map es)=>match k with
       | .int j n=>bif j==kk then match QW kk n es with
        |some (ak v)=>Ic c ok v aC |some aK=>Ic c ok z ay |none=>.fail
        else .fail
       | .sym j n=>bif j==kk then VG C.A kk n z (Ic c ok) es else .fail |_=>.fail
      |some (.fm fk _ fs us _)=>match Ib k with
       |some (j,n,_)=>bif j==kk&&fk==kk then findF C.A n (fun p v=>bif p then Ic c ok v aC else Ic c ok z ay) (us++fs) else .fail |none=>.fail
      |_=>.fail
     |_=>.fail
    |_,_=>.fail
   |_,_=>.fail
  |_=>.fail
 |none=>.fail
def ND(C:Ctx)(c:Core)(t:Nat)(m k v:SV):Tree (SV×Core):=
 match C.ty t with
 |some ti=>match ti.ty with
  | .map kt _=>match C.ty kt with
   |some kti=>match kti.ty,m,k with
    | .int kk,.mp id,.int k n=>match zI c.hp id with
     |some (.map es)=>bif kk==k then match VH k n v es with
      |some es=>ret {c with hp:=hset c.hp id (.map es),tc:=id::c.tc} .any
      |none=>.fail
      else .fail
     |_=>.fail
    | .struct _,.mp id,k=>match zI c.hp id with
     |some (.pm vt M us)=>match ZC k with
      |some n=>bif C.Z9.contains kt&&v.one&&v.acW vt then ret {c with hp:=hset c.hp id (.pm vt M ((n,aC,v)::us)),tc:=id::c.tc} .any else .fail
      |none=>.fail
     |_=>.fail
    |_,_,_=>.fail
   |none=>.fail
  |_=>.fail
 |none=>.fail
def Oe(C:Ctx)(c:Core)(t:Nat)(m k:SV):Tree (SV×Core):=
 match C.ty t with
 |some ti=>match ti.ty with
  | .map kt e=>match C.ty kt,C.ty e with
   |some kti,ak te=>match kti.ty,pack te.ty.isAgg te.zero,m,Ib k with
    | .int kk,ak z,.mp id,ak (j,n,_)=>match zI c.hp id with
     |some (.fm fk M fs us _)=>bif j==kk&&fk==kk&&z.one&&fF c.nx c.lim then
       findF C.A n (fun p v=>ret {c with hp:=hset c.hp id (.fm fk M fs ((n,aC,bif p then v else z)::us) (ak (c.nx,n))),nx:=c.nx+1,tc:=id::c.tc} (.zQ [bif p then v else z,.ev c.nx])) (us++fs)
      else .fail
     |_=>.fail
    |_,_,_,_=>.fail
   |_,_=>.fail
  |_=>.fail
 |none=>.fail
def KF(c:Core)(m s v:SV):Tree (SV×Core):=
 match m,s with
 | .mp id,.ev s=>match zI c.hp id with
  |some (.fm fk M fs us (ak (s',n)))=>bif s==s'&&v.one then ret {c with hp:=hset c.hp id (.fm fk M fs ((n,aC,v)::us) (ak (s',n))),tc:=id::c.tc} .any else .fail
  |_=>.fail
 |_,_=>.fail
def QY(C:Ctx)(c:Core)(t:Nat)(m k:SV):Tree (SV×Core):=
 match C.ty t with
 |some ti=>match ti.ty with
  | .map kt _=>match C.ty kt with
   |some kti=>match kti.ty,m,Ib k with
    | .int kk,.mp id,ak (j,n,_)=>match zI c.hp id with
     |some (.fm fk M fs us _)=>bif j==kk&&fk==kk then ret {c with hp:=hset c.hp id (.fm fk M fs ((n,ay,.any)::us) aK),tc:=id::c.tc} .any else .fail
     |_=>.fail
    |_,_,_=>.fail
   |none=>.fail
  |_=>.fail
 |none=>.fail
def spread(c:Core)(F:List Sh->Tree Sh)(args:List SV):Tree (SV×Core):=
 match freeze c.hp (Jc args) with
 |none=>.fail |some hp=>match G8 hp args with
  |none=>.fail |some Aq=>(F Aq).bind fun r=>bif gJ (BP r c.nx).2.2 c.lim then ret {c with hp:=CJ hp (BP r c.nx).2.1,nx:=(BP r c.nx).2.2} (BP r c.nx).1 else .fail
mutual
def Ie:Sh->Bool
 | .i _ _=>aC | .b _=>aC | .str _=>aC | .v _=>aC | .agg l=>OO l | .zQ l=>OO l |_=>ay
def OO:List Sh->Bool
 |[]=>aC |x::r=>Ie x&&OO r
end
def VI(c:Core)(F:List Sh->Tree Sh)(args:List SV):Tree (SV×Core):=
 match freeze c.hp (Jc args) with
 |none=>.fail |some hp=>match G8 hp args with
  |none=>.fail |some Aq=>(F Aq).bind fun r=>bif Ie r then ret c (BP r c.nx).1 else .fail
def maxS(A:Prim)(mx:Bool)(x y:SV):Option SV:=
 match Ib x,Ib y with
 |some (k,a,la),ak (l,b,lb)=>bif k==l then
   ak (bif la&&lb then .int k (bif mx then (bif decide (a<b) then b else a) else (bif decide (b<a) then b else a)) else .sym k (bif mx then A.max a b else A.min a b))
  else aK
 |_,_=>aK
def OQ:Ty->SV->Bool
 | .str,.str _=>aC | .str,.sh (.str _)=>aC | .slice _,.gs _=>aC | .slice _,.sh (.sl _ _ _)=>aC | .slice _,.zY=>aC | .slice _,.vw _ _=>aC |_,_=>ay
def XA:SV->Option Int
 | .int .i64 n=>ak n | .sym .i64 n=>ak n |_=>aK
def VJ(C:Ctx)(c:Core)(e:Nat):List SV->Tree (SV×Core)
 |[s,i,.gs id']=>match C.ty e with
  |some te=>match MH c.hp te.size s,zI c.hp id' with
   |some (n,g),ak (.row cells e2 st2 m)=>
    bif MI c.hp e s&&e==e2&&st2==te.size&&m==1 && !NC s (.gs id')&&fF 0 te.size&&EG cells then
     match G8 c.hp cells,XA i,Oc C.A i with
     |some l,ak iv,ak k=>.need (C.A.upTo iv n) (.need (C.A.room (C.A.addN n 1) te.bytes) (alloc (BN c s) (.own e te.size (C.A.addN n 1) (C.A.ins g k l)) (.gs c.nx))) |_,_,_=>.fail
    else .fail
   |_,_=>.fail
  |none=>.fail
 |_=>.fail
def SY(C:Ctx)(c:Core)(e:Nat):List SV->Tree (SV×Core)
 |[.zY,i]=>match C.ty e,XA i,Oc C.A i with
  |some te,ak iv,ak k=>.need (C.A.le 0 iv) (.need (C.A.room k te.bytes) (alloc c (.own e te.size 0 fun _=>[]) (.gs c.nx))) |_,_,_=>.fail
 |_=>.fail
def S9(C:Ctx)(call:Nat->List SV->Core->Tree (SV×Core))(c:Core)(k:Call):Tree (SV×Core):=
 let ev:=AP c.tm
 match k.callee with
 | .builtin b=>match b,k.args.toList,k.argTypes.toList with
  | .len,[x],[t]=>match C.ty t with
   |some i=>bif OQ i.ty (ev x) then Kr c (akd C.A c.hp (ev x)) else .fail |none=>.fail
  | .delete,[m,k],t::_=>QY C c t (ev m) (ev k) | .append,[s,x],[t,u]=>bif t==u then match PL C c t (ev s) (ev x) with
    |some r=>r |none=>QV C c t (ev s) (ev x)
   else PK C c t u (ev s) (ev x)
  | .max,[x,y],_=>Kr c (maxS C.A aC (ev x) (ev y)) | .min,[x,y],_=>Kr c (maxS C.A ay (ev x) (ev y)) |_,_,_=>.fail
 | .value f=>match ev f with
  | .fn g cs=>
   let args:=k.args.toList.map ev++cs
   match C.ins g with
   |some e=>VJ C c e args |none=>match C.grow g with
   |some e=>SY C c e args |none=>match C.spec g with
   |some F=>bif C.lend g then VI c F args else spread c F args |none=>call g args c
  |_=>.fail
 |_=>.fail
def Uu(C:Ctx)(c:Core)(t:Nat)(x i:SV):Tree (SV×Core):=
 match C.ty t,x,i with
 |some ti,.str l,.int _ n=>match ti.ty with
  | .str=>bif decide (0<=n) then Kr c (l[n.toNat]?.map fun b=>.int .u8 (b.toNat:Int)) else .fail |_=>.fail
 |_,_,_=>.fail
def PO(C:Ctx)(call:Nat->List SV->Core->Tree (SV×Core))(c:Core)(o:Oper):Tree (SV×Core):=
 let ev:=AP c.tm
 match o.op with
 | .move x=>ret c (ev x) | .assign x=>ret c (ev x) | .pick x a b=>Kr c (ah9 C.A (ev x) (ev a) (ev b)) | .alloc e=>Un C c e | .box e x=>bif (ev x).okc then alloc c (.box (ev x).cells e) (.ptr c.nx 0) else .fail | .build t parts=>Uo C c t parts.toList | .buildSlice t n parts=>KE C c t n parts.toList | .load t x=>Xy C c t (ev x) | .store t x v=>Ur C c t (ev x) (ev v) | .nilCheck x=>aad c (ev x) | .binOp op t x y _=>aac C c op t x y (isConst x||isConst y) | .unOp .not _ x=>Kr c (notS C.A (ev x)) | .unOp .neg _ x=>Kr c (negS C.A (ev x)) | .fieldAddr t x f=>MC C c t f (ev x) | .field t x f=>Us C c t f (ev x) | .indexAddr t x i=>MF C c t (ev x) (ev i) | .extract x i=>PG c (ev x) i | .makeFunc (.func f) fs cs=>bif fs.size==0 then ret c (.fn f (cs.toList.map ev)) else .fail | .makeInterface t x=>match C.ty t with
  |some i=>match i.ty with
   | .iface=>.fail | .other=>.fail |_=>ret c (.BM t (ev x))
  |none=>.fail
 | .makeMap t aK=>PN C c t | .makeSlice t l k=>MG C c t (ev l) (ev k) (match l,k with| .tmp i,.tmp j=>i==j|_,_=>ay)
 | .slice t x lo hi aK=>Ut C c t (ev x) (lo.map ev) (hi.map ev) | .lookup t m k ok=>QX C c t (ev m) (ev k) ok | .insert t m k v=>ND C c t (ev m) (ev k) (ev v) | .mapUpdate t m k v=>ND C c t (ev m) (ev k) (ev v) | .mapEntry t m k=>Oe C c t (ev m) (ev k) | .entryStore _ m s v=>KF c (ev m) (ev s) (ev v) | .call k=>S9 C call c k | .convert t u x=>Xz C c t u (ev x) | .index t x i=>Uu C c t (ev x) (ev i) |_=>.fail
mutual
def SV.hard:SV->SV
 | .sym k n=>.int k n | .test b=>.bool b | .agg l=>.agg (ad8 l) | .zQ l=>.zQ (ad8 l) |x=>x
def ad8:List SV->List SV
 |[]=>[] |x::r=>x.hard::ad8 r
end
def exec(C:Ctx)(call:Nat->List SV->Core->Tree (SV×Core))(c:Core)(o:Oper):Tree (SV×Core):=
 bif C.lits then (PO C call c o).bind fun p=>.leaf (p.1.hard,p.2) else PO C call c o
mutual
def refs:SV->List Nat
 | .gs id=>[id] | .ptr id _=>[id] | .gp id _ _ _=>[id] | .mp id=>[id] | .agg l=>Og l | .zQ l=>Og l | .fn _ l=>Og l | .BM _ x=>refs x |_=>[]
def Og:List SV->List Nat
 |[]=>[] |x::r=>refs x++Og r
end
def am3:List (SV×SV)->List Nat
 |[]=>[] |(a,b)::r=>refs a++refs b++am3 r
def aie:List (Int×Bool×SV)->List Nat
 |[]=>[] |(_,_,b)::r=>refs b++aie r
def am4:List ((Int×List UInt8)×Bool×SV)->List Nat
 |[]=>[] |(_,_,b)::r=>refs b++am4 r
def am5:SB->List Nat
 | .box l _=>Og l | .row l _ _ _=>Og l | .map es=>am3 es | .FY _ _ _ _ l=>Og l | .fm _ _ fs us _=>aie fs++aie us | .pm _ _ us=>am4 us |_=>[]
def reach(hp:List (Nat×SB)):Nat->List Nat->List Nat->List Nat
 |0,_,seen=>seen |_,[],seen=>seen |n+1,i::r,seen=>bif seen.contains i then reach hp n r seen else match zI hp i with
  |some b=>reach hp n (am5 b++r) (i::seen) |none=>reach hp n r (i::seen)
def Ld(hp:List (Nat×SB)):List Nat->List Nat
 |[]=>[] |i::r=>match zI hp i with
  |some b=>am5 b++Ld hp r |none=>Ld hp r
def dropKey(p:Nat->Bool):List (Nat×SB)->List (Nat×SB)
 |[]=>[] |(i,b)::r=>bif p i then dropKey p r else (i,b)::dropKey p r
def gc(nx lim:Nat)(v:SV)(c:Core):List (Nat×SB):=
 let live:=reach c.hp 4000 (refs v++Ld c.hp c.tc) []
 dropKey (fun i=>gJ nx i&&fF i lim && !live.contains i) c.hp
def QE(tm:List SV)(dst:Option Nat)(v:SV):List SV:=
 match dst with
 |some d=>tm.set d v |none=>tm
def Core.put(c:Core)(dst:Option Nat)(v:SV):Core:={c with tm:=QE c.tm dst v}
def opAt(l:List Oper)(i:Nat):Option Oper:=l[i]?
inductive Want where
 |yes|no|ask (slot:Nat) (b want:Bool) |lost
def NG(ops:List Oper)(tm:List SV)(o:Oper):Want:=
 match o.guard with
 |none=>.yes |some (j,b)=>match (opAt ops j).bind (·.dst) with
  |some d=>match tm.getD d .any with
   | .bool c=>bif c==b then .yes else .no | .test c=>.ask d c b | .zQ _=>.no |_=>.lost
  |none=>.lost
def skV(ops:List Oper)(i:Nat):SV:=
 bif ops.any (fun o=>match o.guard with|some (j,_)=>dQ j i|none=>ay) then .zQ [] else .any
def afx(C:Ctx)(call:Nat->List SV->Core->Tree (SV×Core))(c:Core)(o:Oper):Tree Core:=
 (exec C call c o).bind fun p=>.leaf (p.2.put o.dst p.1)
def ZE(C:Ctx)(call:Nat->List SV->Core->Tree (SV×Core))(ops:List Oper)(c:Core)(i:Nat):Tree Core:=
 match opAt ops i with
 |none=>.leaf c |some o=>match NG ops c.tm o with
  | .yes=>afx C call c o | .no=>.leaf (c.put o.dst (skV ops i)) | .ask d t b=>.node t
    (let c':=c.put (ak d) (.bool aC);bif b then afx C call c' o else .leaf (c'.put o.dst (skV ops i)))
    (let c':=c.put (ak d) (.bool ay);bif b then .leaf (c'.put o.dst (skV ops i)) else afx C call c' o)
  | .lost=>.fail
def Ce:Op->Bool
 | .move _| .assign _| .pick .. | .load .. | .nilCheck _| .binOp .. | .unOp .. | .fieldAddr .. | .field .. | .indexAddr .. | .index .. | .extract .. | .makeFunc .. | .makeInterface .. | .build .. | .lookup ..=>aC | .call {callee:=.builtin .len,..} | .call {callee:=.builtin .max,..} | .call {callee:=.builtin .min,..}=>aC |_=>ay
def Le(hp:List (Nat×SB))(unl:List Nat):List (Nat×SB):=
 match hp with
 |[]=>[] |(j,x)::l=>bif unl.contains j then Le l unl else (j,x)::Le l unl
def Jv:SV->Bool
 | .sh (.er _ _)=>aC |_=>ay
def Lh(tm:List SV):Op->Bool
 | .load .. | .lookup ..=>ay | .binOp _ _ x y _=>!(Jv (AP tm x)&&Jv (AP tm y)) |o=>Ce o
def OT(o:Oper):List Nat:=(o.after.toList.filter (jW .any)).map (·.on)
def OU(all:List Bool):List Oper->Nat->List Bool->List Nat
 |o::r,i,b::l=>bif !b&&(OT o).all (fun j=>all.getD j ay) then i::OU all r (i+1) l else OU all r (i+1) l |_,_,_=>[]
def aea(ops:Array Oper)(listed:Array Bool):List Nat:=OU listed.toList ops.toList 0 listed.toList
def VK(ops:Array Oper)(oi:Oper)(i:Nat):List Oper->Nat->List Bool->Bool
 |o::r,j,b::l=>(dQ j i||b||(OT o).contains i||oi.apart ops o)&&VK ops oi i r (j+1) l |_,_,_=>aC
def aeb(ops:Array Oper)(listed:Array Bool)(i:Nat):Bool:=
 match opAt ops.toList i with
 |none=>ay |some oi=>VK ops oi i ops.toList 0 listed.toList
theorem afy{l:List Nat}{p q:Nat->Bool}(h:∀j,j∈l->p j=q j):l.all p=l.all q:=by
 grind
theorem Yz(all:List Bool):∀(ops:List Oper) (k:Nat) (l:List Bool),(∀i,l.getD i aC=all.getD (k+i) aC)->
  OU all ops k l=(jK k ops.length).filter fun i=>!all.getD i aC&&((ops[i - k]?).map (·.after.all fun e=>!Region.binds .any e||all.getD e.on ay)).getD ay
 |[],k,l,_=>by rfl |o::r,k,[],h=>by
  have h2:∀i,all.getD (k+i) aC=aC:=fun i=>by simp_all
  simp only[OU];symm
  rw[List.filter_eq_nil_iff];intro i hi;have:=sF.1 hi;have e:=h2 (i - k);simp_all
 |o::r,k,b::l,h=>by
  have h0:=h 0;simp only[qN,kF] at h0;have ih:=Yz all r (k+1) l (fun i=>by have:=h (i+1);grind);have he:(OT o).all (fun j=>all.getD j ay)=o.after.all fun e=>!Region.binds .any e||all.getD e.on ay:=by
   rw[<-Array.all_toList];unfold OT;simp
  have ht:(jK (k+1) r.length).filter (fun i=>!all.getD i aC&&((r[i - (k+1)]?).map (·.after.all fun e=>!Region.binds .any e||all.getD e.on ay)).getD ay) =
    (jK (k+1) r.length).filter (fun i=>!all.getD i aC&&(((o::r)[i - k]?).map (·.after.all fun e=>!Region.binds .any e||all.getD e.on ay)).getD ay):=by
   refine List.filter_congr fun i hi=>?_
   grind
  simp only[OU,jf,tJ,List.filter_cons,ih,ht,he,h0,Nat.sub_self,List.getElem?_cons_zero,Option.map_some,Option.getD_some];simp
theorem alm{listed:Array Bool}(i:Nat)(d:Bool):listed.getD i d=listed.toList.getD i d:=by
 simp
theorem aif(ops:Array Oper)(listed:Array Bool):aea ops listed=jA .any ops listed:=by
 unfold aea jA;rw[Yz listed.toList ops.toList 0 listed.toList (fun i=>by simp),dU,qg];simp
theorem aag(ops:Array Oper)(oi:Oper)(i:Nat)(all:List Bool):∀(r:List Oper) (k:Nat) (l:List Bool),(∀j,l.getD j aC=all.getD (k+j) aC)->
  VK ops oi i r k l=(jK k r.length).all fun j=>j==i||all.getD j aC||match r[j - k]? with
   |some oj=>oj.after.any (fun e=>jW .any e&&e.on==i)||oi.apart ops oj |none=>aC
 |[],k,l,_=>by rfl |o::r,k,[],h=>by
  have h2:∀i,all.getD (k+i) aC=aC:=fun i=>by simp_all
  simp only[VK];symm
  rw[List.all_eq_true];intro j hj;have:=sF.1 hj;have e:=h2 (j - k);simp_all
 |o::r,k,b::l,h=>by
  have h0:=h 0;simp only[qN,kF] at h0;have ih:=aag ops oi i all r (k+1) l (fun i=>by have:=h (i+1);grind);have he:(OT o).contains i=o.after.any fun e=>jW .any e&&e.on==i:=by
   rw[<-Array.any_toList];unfold OT;grind
  have ht:(jK (k+1) r.length).all (fun j=>j==i||all.getD j aC||match r[j - (k+1)]? with
     |some oj=>oj.after.any (fun e=>jW .any e&&e.on==i)||oi.apart ops oj |none=>aC) =
    (jK (k+1) r.length).all (fun j=>j==i||all.getD j aC||match (o::r)[j - k]? with
     |some oj=>oj.after.any (fun e=>jW .any e&&e.on==i)||oi.apart ops oj |none=>aC):=by
   refine afy fun j hj=>?_
   grind
  have hb:dQ k i=(k==i):=rfl;simp only[VK,jf,tJ,List.all_cons];grind
theorem acX(ops:Array Oper)(listed:Array Bool)(i:Nat):aeb ops listed i=mP .any ops listed i:=by
 have hop:opAt ops.toList i=ops[i]?:=by simp[opAt]
 unfold aeb mP;rw[hop];cases ops[i]? with
 |none=>rfl |some oi=>
  simp only;rw[aag ops oi i listed.toList ops.toList 0 listed.toList (fun i=>by simp),dU,qg];grind [alm]
inductive Quiet where
 |take (i:Nat) (needs:List Bool) (v v0:SV)
 |ask (slot:Nat) (b:Bool)
 |no
def aec:Nat->List SV->Core->Tree (SV×Core):=fun _ _ _=>.fail
def aed:Option (List Bool×SV)->Option (List Bool×SV)
 |some (_,.any)=>aK |r=>r
def Dp:Tree (SV×Core)->List Bool->Option (List Bool×SV)
 | .leaf p,bs=>ak (bs,p.1) | .need b t,bs=>Dp t (b::bs) |_,_=>aK
def Tc(C:Ctx)(AO:Array Oper)(lock:List (Nat×SB))(listed:Array Bool)(GR:List SV)(c:Core)(i:Nat):Quiet:=
 match opAt AO.toList i with
 |none=>.no |some o=>match NG AO.toList c.tm o with
  | .ask d t _=>.ask d t | .no=>bif aeb AO listed i then .take i [] (skV AO.toList i) (skV AO.toList i) else .no | .yes=>bif Ce o.op&&aeb AO listed i then
    match aed (Dp (exec C aec {c with tm:=GR,hp:=lock} o) []) with
    |some (bs,v)=>.take i bs v v |none=>bif Lh c.tm o.op then match Dp (exec C aec c o) [] with
     |some (bs,v)=>.take i bs v .any |none=>.no
     else .no
   else .no
  | .lost=>.no
def VL(C:Ctx)(AO:Array Oper)(lock:List (Nat×SB))(listed:Array Bool)(GR:List SV)(c:Core):List Nat->Quiet
 |[]=>.no |i::r=>match Tc C AO lock listed GR c i with
  | .no=>VL C AO lock listed GR c r |q=>q
def needs{α:Type}(t:Tree α):List Bool->Tree α
 |[]=>t |b::r=>.need b (needs t r)
def allOf{α:Type}(f:Nat->Tree α):List Nat->Tree α
 |[]=>.fail |[i]=>f i |i::r=>.both (f i) (allOf f r)
def disjoint(l:List Nat)(hp:List (Nat×SB)):Bool:=l.all fun i=>(zI hp i).isNone
def Je(c:Core)(n:Nat):Nat:=Nat.min 1048576 ((c.lim - c.nx) / (n+1))
def explore(C:Ctx)(call:Nat->List SV->Core->Tree (SV×Core))(base step:Nat)(AO:Array Oper)(lock:List (Nat×SB)):
  Nat->Array Bool->List SV->Core->Tree Core
 |0,_,_,_=>.fail |n+1,listed,GR,c=>
  match aea AO listed with
  |[]=>.leaf c |rs=>match VL C AO lock listed GR c rs with
   | .take i bs v v0=>let d:=(opAt AO.toList i).bind (·.dst)
    needs (explore C call base step AO lock n (listed.setIfInBounds i aC) (QE GR d v0) (c.put d v)) bs
   | .ask d t=>.node t (explore C call base step AO lock n listed (GR.set d (.bool aC)) (c.put (ak d) (.bool aC))) (explore C call base step AO lock n listed (GR.set d (.bool ay)) (c.put (ak d) (.bool ay))) | .no=>allOf (fun i=>(ZE C call AO.toList {c with tc:=[],nx:=base+step*i,lim:=base+step*(i+1)} i).bind fun c'=>
     bif disjoint c'.tc lock then explore C call base step AO lock n (listed.setIfInBounds i aC) (QE GR ((opAt AO.toList i).bind (·.dst)) .any) {c' with tc:=c'.tc++c.tc,nx:=c.nx,lim:=c.lim} else .fail) rs
def Em(a b:Option (List AQ)):Option (List AQ):=
 match a,b with
 |some x,ak y=>ak (x++y) |_,_=>aK
def BQ(c:Bool)(a:Option (List AQ)):Option (List AQ):=bif c then a else aK
def am6:Sh->Sh->Option (List AQ)
 | .er g t,.er h u=>BQ (g==h&&t==u) (ak []) |s,s'=>ak [.sh s s']
mutual
def YA:SV->SV->Option (List AQ)
 | .any,.any=>ak [] | .int k n,.int l m=>BQ (k==l&&n==m) (ak []) | .sym k n,.sym l m=>BQ (k==l) (ak [.int n m]) | .bool a,.bool b=>BQ (a==b) (ak []) | .test a,.test b=>ak [.bool a b] | .str a,.str b=>BQ (a==b) (ak []) | .val v,.val u=>ak [.val v u] | .ptr a b,.ptr c d=>BQ (a==c&&b==d) (ak []) | .gs a,.gs b=>BQ (a==b) (ak []) | .gp a st i o,.gp a' st' i' o'=>BQ (a==a'&&st==st'&&o==o') (ak [.nat i i']) | .Gh st n g i o,.Gh st' n' g' i' o'=>BQ (st==st'&&o==o') (ak [.nat n n',.Nz g g',.nat i i']) | .Ei,.Ei=>ak [] | .zY,.zY=>ak [] | .FM,.FM=>ak [] | .CS,.CS=>ak [] | .EU,.EU=>ak [] | .fn f l,.fn g m=>BQ (f==g) (KG l m) | .agg l,.agg m=>KG l m | .zQ l,.zQ m=>KG l m | .BM t x,.BM u y=>BQ (t==u) (YA x y) | .mp a,.mp b=>BQ (a==b) (ak []) | .glob a,.glob b=>BQ (a==b) (ak []) | .ev a,.ev b=>BQ (a==b) (ak []) | .sh s,.sh u=>am6 s u |_,_=>aK
def KG:List SV->List SV->Option (List AQ)
 |[],[]=>ak [] |x::l,y::m=>Em (YA x y) (KG l m) |_,_=>aK
end
def XB:List (SV×SV)->List (SV×SV)->Option (List AQ)
 |[],[]=>ak [] |(a,b)::l,(c,d)::m=>Em (YA a c) (Em (YA b d) (XB l m)) |_,_=>aK
def aah:List (Int×Bool×SV)->List (Int×Bool×SV)->Option (List AQ)
 |[],[]=>ak [] |(a,p,b)::l,(c,q,d)::m=>BQ (p==q) (Em (ak [.int a c]) (Em (YA b d) (aah l m))) |_,_=>aK
def acY:List ((Int×List UInt8)×Bool×SV)->List ((Int×List UInt8)×Bool×SV)->Option (List AQ)
 |[],[]=>ak [] |((a,s),p,b)::l,((c,t),q,d)::m=>BQ (p==q) (Em (ak [.int a c,.str s t]) (Em (YA b d) (acY l m))) |_,_=>aK
def aii:Option (Nat×Int)->Option (Nat×Int)->Option (List AQ)
 |none,aK=>ak [] |some (a,n),ak (b,m)=>BQ (a==b) (ak [.int n m]) |_,_=>aK
def am7:SB->SB->Option (List AQ)
 | .box l e,.box m f=>BQ (e==f) (KG l m) | .row l e s n,.row m f t k=>BQ (e==f&&s==t&&n==k) (KG l m) | .own e s n g,.own f t m h=>BQ (e==f&&s==t) (ak [.nat n m,.Nz g h]) | .fz s n g,.fz t m h=>BQ (s==t) (ak [.nat n m,.Nz g h]) | .map l,.map m=>XB l m | .QN l,.QN m=>ak [.sh (.pt l) (.pt m)] | .FY e s n g x,.FY f t m h y=>BQ (e==f&&s==t) (Em (ak [.nat n m,.Nz g h]) (KG x y)) | .buf e l,.buf f m=>BQ (e==f) (ak [.str l m]) | .fm k M fs us tg,.fm l N gs vs th=>BQ (k==l) (Em (ak [.mp M N]) (Em (aah fs gs) (Em (aah us vs) (aii tg th)))) | .pm vt M us,.pm wt N vs=>BQ (vt==wt) (Em (ak [.mg M N]) (acY us vs)) |_,_=>aK
def acZ:List (Nat×SB)->List (Nat×SB)->Option (List AQ)
 |[],[]=>ak [] |(i,a)::l,(j,b)::m=>BQ (i==j) (Em (am7 a b) (acZ l m)) |_,_=>aK
def aee(a b:Core):Option (List AQ):=BQ (a.nx==b.nx&&a.lim==b.lim&&a.tc==b.tc) (Em (KG a.tm b.tm) (acZ a.hp b.hp))
def afz(i:Nat):List Nat->List Nat
 |[]=>[i] |j::l=>bif i==j then j::l else bif fF i j then i::j::l else j::afz i l
def QZ:List Nat->List Nat
 |[]=>[] |i::l=>afz i (QZ l)
inductive Ob where
 |b (x:Bool)
 |e (l:List AQ)
def strip{α:Type}:Tree α->Option (List Ob×α)
 | .leaf a=>ak ([],a) | .need b t=>(strip t).map fun p=>(.b b::p.1,p.2) | .must l t=>(strip t).map fun p=>(.e l::p.1,p.2) |_=>aK
def wrap{α:Type}(t:Tree α):List Ob->Tree α
 |[]=>t | .b x::r=>.need x (wrap t r) | .e l::r=>.must l (wrap t r)
def XC{α:Type}(l:List AQ)(t:Tree α):Tree α:=
 match l with
 |[]=>t |l=>.must l t
def ZF(t f:Tree Core):Tree Core:=
 match strip t,strip f with
 |some (o,a),ak (q,b)=>match aee a b with
  |some l=>wrap (XC l (.leaf a)) (o++q) |none=>.both t f
 |_,_=>.both t f
def merge:Tree Core->Tree Core
 | .both t f=>ZF (merge t) (merge f) | .node b t f=>.node b (merge t) (merge f) | .need b t=>.need b (merge t) | .must l t=>.must l (merge t) |t=>t
def ZG:Nat->List SV->List SV
 |_,[]=>[] |m,x::l=>(bif dQ (m % 2) 1 then x else .any)::ZG (m / 2) l
def MJ(C:Ctx)(g:Nat)(tm:List SV):List SV:=
 match C.live.get g with
 |some m=>ZG m tm |none=>tm
def Td:SV->List Nat
 | .ptr id _=>[id] | .gp id _ _ _=>[id] | .gs id=>[id] | .mp id=>[id] |_=>[]
def touches(c:Core):Op->List Nat
 | .store _ x _=>Td (AP c.tm x) | .insert _ x _ _=>Td (AP c.tm x) | .mapUpdate _ x _ _=>Td (AP c.tm x) | .mapEntry _ x _=>Td (AP c.tm x) | .entryStore _ x _ _=>Td (AP c.tm x) | .call k=>match k.callee with
  | .value f=>reach c.hp 4000 (refs (AP c.tm f)++Og (k.args.toList.map (AP c.tm))) [] | .builtin .append=>Og (k.args.toList.map (AP c.tm)) | .builtin .delete=>Og (k.args.toList.map (AP c.tm)) |_=>[]
 | .slice _ x _ _ _=>Td (AP c.tm x) |_=>[]
def XD(C:Ctx):List Oper->Core->List Nat->List Nat
 |[],_,acc=>acc |o::r,c,acc=>XD C r (c.put o.dst (bif Ce o.op then match Dp (exec C aec c o) [] with
   |some (_,v)=>v |none=>.any
  else .any)) (touches c o.op++acc)
def drawn(C:Ctx)(call:Nat->List SV->Core->Tree (SV×Core))(g:Nat)(AO:Array Oper)(c:Core):Tree Core:=
 let lock:=Le c.hp (XD C AO.toList c [])
 bif gJ (c.nx+Je c AO.size*AO.size) c.lim&&Region.noSelect AO then
  merge ((explore C call c.nx (Je c AO.size) AO lock (2*AO.size+1) (Array.replicate AO.size ay) c.tm {c with nx:=0,lim:=0}).bind fun c'=>.leaf {tm:=MJ C g c'.tm,hp:=c'.hp,nx:=c.nx+Je c AO.size*AO.size,lim:=c.lim,tc:=QZ c'.tc})
 else .fail
inductive It where
 |code (p:List Nat)
 |inBlock (id:Nat)
 |reg (p:List Nat) (l:List Nat)
 |XE
inductive Out where
 |done (v:SV) (c:Core)
 |stop (fn:Nat) (todo:List It) (c:Core)
def child:Code->Nat->Code
 | .seq a _,0=>a | .seq _ b,_=>b | .cond _ a _,0=>a | .cond _ _ b,_=>b | .block _ b,_=>b | .loop b,_=>b | .rangeFunc _ _ a _,0=>a | .rangeFunc _ _ _ b,_=>b |_,_=>.skip
def Ai(c:Code):List Nat->Code
 |[]=>c |i::p=>child (Ai c p) i
def Hu(id:Nat):List It->Option (List It)
 | .inBlock j::k=>bif j==id then ak k else Hu id k |_::k=>Hu id k |[]=>aK
def aai(C:Ctx)(c:Core):List ResultVar->Option (List SV)
 |[]=>ak [] | .tmp t::r=>match c.tm[t]?,aai C c r with
  |some v,ak l=>ak (v::l) |_,_=>aK
 | .cell a t::r=>match C.ty t,aai C c r with
  |some i,ak l=>(ad7 C c i.ty.isAgg i.size (c.tm.getD a .any)).map fun v=>v::l |_,_=>aK
def result(C:Ctx)(fn:Func)(c:Core):Tree Out:=
 match aai C c fn.results.toList with
 |some [v]=>.leaf (.done v c) |some l=>.leaf (.done (.zQ l) c) |none=>.fail
def zS(fn:Func):Code:=match fn.body with|some b=>b|none=>.skip
def aln(c:Core):Out->Tree (SV×Core)
 | .done v c'=>.leaf (v,{tm:=c.tm,hp:=gc c.nx c.lim v c',nx:=c'.nx,lim:=c'.lim,tc:=c'.tc}) | .stop _ _ _=>.fail
def LV(C:Ctx)(run:Nat->List It->Core->Tree Out)(g:Nat)(args:List SV)(c:Core):Tree (SV×Core):=
 match C.fns.get g with
 |none=>.fail |some fn=>bif gJ args.length fn.ntmps&&fn.body.isSome then
   (run g [.code []] {tm:=args++dL (fn.ntmps - args.length) .any,hp:=c.hp,nx:=c.nx,lim:=c.lim,tc:=c.tc}).bind (aln c)
  else .fail
def VN:Operand->Option Nat
 | .tmp t=>ak t |_=>aK
inductive Sig where
 |go (td:List It) (c:Core)
 |done (v:SV) (c:Core)
 |halt (td:List It) (c:Core)
def aef:Out->Tree Sig
 | .done v c=>.leaf (.done v c) | .stop _ td c=>.leaf (.halt td c)
def Q5(C:Ctx)(call:Nat->List SV->Core->Tree (SV×Core))(top:Bool)(g:Nat)(fn:Func)(td:List It)(c:Core):Tree Sig:=
 match td with
 |[]=>(result C fn c).bind aef | .inBlock _::k=>.leaf (.go k c) | .XE::_=>.fail | .reg _ []::k=>.leaf (.go k {c with tm:=MJ C g c.tm})
 | .reg p (i::r)::k=>match Ai (zS fn) p with
  | .region _ ops _=>(ZE C call ops.toList c i).bind fun c=>.leaf (.go (.reg p r::k) c) |_=>.fail
 | .code p::k=>match Ai (zS fn) p with
  | .skip=>.leaf (.go k c) | .ret=>(result C fn c).bind aef | .seq _ _=>.leaf (.go (.code (0::p)::.code (1::p)::k) c) | .block id _=>.leaf (.go (.code (0::p)::.inBlock id::k) c) | .loop _=>bif C.LU g p then .leaf (.halt td c) else .leaf (.go (.code (0::p)::.code p::k) c) | .exit id=>match Hu id k with
   |some k=>.leaf (.go k c) |none=>.fail
  | .cond x _ _=>match AP c.tm x with
   | .bool aC=>.leaf (.go (.code (0::p)::k) c) | .bool ay=>.leaf (.go (.code (1::p)::k) c) | .test b=>let d:=VN x
    .node b (.leaf (.go (.code (0::p)::k) (c.put d (.bool aC)))) (.leaf (.go (.code (1::p)::k) (c.put d (.bool ay))))
   |_=>.fail
  | .region _ ops dr=>bif dr then
    let t:=drawn C call g ops c
    bif top && !t.lone then t.bind fun c=>.leaf (.halt k c) else t.bind fun c=>.leaf (.go k c)
   else .leaf (.go (.reg p (aY ops.size)::k) c)
  |_=>.fail
def run(C:Ctx):Nat->Bool->Nat->List It->Core->Tree Out
 |0,_,g,td,c=>.leaf (.stop g td c) |n+1,top,g,td,c=>
  match C.fns.get g with
  |none=>.fail |some fn=>(Q5 C (LV C (run C n ay)) top g fn td c).bind fun s=>match s with
   | .go td c=>run C n top g td c | .done v c=>.leaf (.done v c) | .halt td c=>.leaf (.stop g td c)
open Go.RowKit (Below)
abbrev Mem:=Nat->Option Obj
def Mem.le(H H':Mem):Prop:=∀b o,H b=ak o->H' b=ak o
def Mem.on(H:Mem)(w:World):Prop:=∀b o,H b=ak o->w.heap[b]?=ak o
def hcell(H:Mem)(b off:Nat):Option Value:=
 match H b with
 |some (.cells c _ _)=>c[off]? |_=>aK
theorem JA{H H':Mem}(h:H.le H'){b off:Nat}{v:Value}(hc:hcell H b off=ak v):hcell H' b off=ak v:=by
 unfold hcell at *;cases hb:H b with
 |none=>grind |some o=>rw[h b o hb];simp_all
theorem LW{H:Mem}{w:World}(h:H.on w){b off:Nat}{v:Value}(hc:hcell H b off=ak v):w.cell? ⟨b,off,aK⟩=ak v:=by
 unfold hcell at hc;cases hb:H b with
 |none=>grind |some o=>
  rw[hb] at hc;have:=h b o hb;grind [mQ]
inductive Rep(H:Mem):Sh->Value->Prop
 |i (k:IntKind) (n:Int):Rep H (.i k n) (.int k n)
 |b (x:Bool):Rep H (.b x) (.bool x)
 |str (l:List UInt8):Rep H (.str l) (.string ⟨l.toArray⟩)
 |v (x:Value) (h:x.oneCell'=aC):Rep H (.v x) x
 |sl0 (st:Nat) (g:Nat->List Sh) (A:Option Addr) (cap:Nat):cap<=maxLen->Rep H (.sl st 0 g) (.slice A 0 cap)
 |sl (st n:Nat) (g:Nat->List Sh) (b off cap:Nat) (c:Nat->Nat->Value):n<=cap->cap<=maxLen->(∀(i:Nat),i<n->(g i).length=st)->
   (∀(i j:Nat),i<n->j<st->hcell H b (off+i*st+j)=ak (c i j))->(∀(i j:Nat),i<n->j<st->(c i j).oneCell'=aC)->
   (∀(i j:Nat) (s:Sh),i<n->(g i)[j]?=ak s->Rep H s (c i j))->Rep H (.sl st n g) (.slice (ak ⟨b,off,aK⟩) n cap)
 |agg (l:List Sh) (vs:Array Value):vs.size=l.length->(∀(j:Nat) (s:Sh) (v:Value),l[j]?=ak s->vs[j]?=ak v->Rep H s v)->Rep H (.agg l) (.agg vs)
 |zQ (l:List Sh) (vs:Array Value):vs.size=l.length->(∀(j:Nat) (s:Sh) (v:Value),l[j]?=ak s->vs[j]?=ak v->Rep H s v)->Rep H (.zQ l) (.tuple vs)
 |BM (t:Nat) (x:Sh) (u:Value):Rep H x u->Rep H (.BM t x) (.iface t u)
 |fn (f:Nat) (l:List Sh) (vs:Array Value):vs.size=l.length->(∀(j:Nat) (s:Sh) (v:Value),l[j]?=ak s->vs[j]?=ak v->Rep H s v)->Rep H (.fn f l) (.func (.func f) #[] vs)
 |er (g T:Nat) (b:Addr) (cs:Array Value) (e:Nat):hcell H g 0=ak (.iface T (.pointer (ak b)))->H b.block=ak (.cells cs e (0,0))->
   Rep H (.er g T) (.iface T (.pointer (ak b)))
 |pt (l:List Sh) (b off:Nat) (c:Nat->Value):(∀(j:Nat),j<l.length->hcell H b (off+j)=ak (c j))->(∀(j:Nat),j<l.length->(c j).oneCell'=aC)->(∀(j:Nat) (s:Sh),l[j]?=ak s->Rep H s (c j))->
   Rep H (.pt l) (.pointer (ak ⟨b,off,aK⟩))
theorem Rep.le{H H':Mem}(h:H.le H'){s:Sh}{v:Value}(r:Rep H s v):Rep H' s v:=by
 induction r with
 |i k n=>exact .i k n |b x=>exact .b x |str l=>exact .str l |v x hx=>exact .v x hx |sl0 st g A cap hc=>exact .sl0 st g A cap hc |sl st n g b off cap c h1 h2 h3 h4 h5 _ ih=>exact .sl st n g b off cap c h1 h2 h3 (fun i j hi hj=>JA h (h4 i j hi hj)) h5 ih |agg l vs hs _ ih=>exact .agg l vs hs ih |zQ l vs hs _ ih=>exact .zQ l vs hs ih |BM t x u _ ih=>exact .BM t x u ih |fn f l vs hs _ ih=>exact .fn f l vs hs ih |er g T b cs e h1 h2=>exact .er g T b cs e (JA h h1) (h _ _ h2) |pt l b off c h1 h2 _ ih=>exact .pt l b off c (fun j hj=>JA h (h1 j hj)) h2 ih
def CU(H:Mem):List Sh->List Value->Prop
 |[],[]=>True |s::l,v::vs=>Rep H s v/\CU H l vs |_,_=>False
theorem CU.le{H H':Mem}(h:H.le H'):∀{l:List Sh} {vs:List Value},CU H l vs->CU H' l vs
 |[],[],_=>trivial |_::_,_::_,⟨a,b⟩=>⟨a.le h,CU.le h b⟩ |[],_::_,h=>h.elim |_::_,[],h=>h.elim
theorem CU.length{H:Mem}:∀{l:List Sh} {vs:List Value},CU H l vs->vs.length=l.length
 |[],[],_=>rfl |_::_,_::_,⟨_,b⟩=>by simp[CU.length b] |[],_::_,h=>h.elim |_::_,[],h=>h.elim
theorem CU.at_{H:Mem}:∀{l:List Sh} {vs:List Value},CU H l vs->∀{j:Nat} {s:Sh} {v:Value},l[j]?=ak s->vs[j]?=ak v->Rep H s v
 |_::_,_::_,⟨a,_⟩,0,_,_,h1,h2=>by simp_all |_::_,_::_,⟨_,b⟩,j+1,_,_,h1,h2=>CU.at_ b (by simpa using h1) (by grind) |[],[],_,_,_,_,h1,_=>by simp at h1 |[],_::_,h,_,_,_,_,_=>h.elim |_::_,[],h,_,_,_,_,_=>h.elim
theorem CU.Oh{H:Mem}:∀{l:List Sh} {vs:List Value},vs.length=l.length->(∀(j:Nat) (s:Sh) (v:Value),l[j]?=ak s->vs[j]?=ak v->Rep H s v)->CU H l vs
 |[],[],_,_=>trivial |_::_,_::_,hl,h=>⟨h 0 _ _ rfl rfl,CU.Oh (by grind) fun j s v h1 h2=>h (j+1) s v (by grind) (by grind)⟩ |[],_::_,h,_=>by simp at h |_::_,[],h,_=>by simp at h
def Bq(H:Mem)(st n:Nat)(g:Nat->List Sh)(xs:List Value):Prop:=
 xs.length=n*st/\(∀i,i<n->(g i).length=st)/\(∀u∈xs,u.oneCell'=aC)/\
 ∀(i j:Nat) (s:Sh) (v:Value),i<n->(g i)[j]?=ak s->xs[i*st+j]?=ak v->Rep H s v
theorem Bq.le{H H':Mem}(h:H.le H'){st n:Nat}{g:Nat->List Sh}{xs:List Value}(r:Bq H st n g xs):Bq H' st n g xs:=
 ⟨r.1,r.2.1,r.2.2.1,fun i j s v hi h1 h2=>(r.2.2.2 i j s v hi h1 h2).le h⟩
abbrev Env:=Nat->Option Value
def Env.le(E E':Env):Prop:=∀i v,E i=ak v->E' i=ak v
def zT:Value->Option Nat
 | .pointer (ak ⟨b,0,aK⟩)=>ak b | .slice (ak ⟨b,0,aK⟩) _ _=>ak b | .map (ak b)=>ak b |_=>aK
def lenV:Value->Nat
 | .slice _ n _=>n |_=>0
mutual
def Den(H:Mem)(E:Env):SV->Value->Prop
 | .any,_=>True | .val v,u=>u=v/\v.oneCell'=aC | .int k n,u=>u=.int k n | .sym k n,u=>u=.int k n | .bool b,u=>u=.bool b | .test b,u=>u=.bool b | .str l,u=>u=.string ⟨l.toArray⟩ | .ptr id off,u=>∃b,(E id).bind zT=ak b/\u=.pointer (ak ⟨b,off,aK⟩) | .gs id,u=>E id=ak u/\∃A n c,u=.slice A n c | .gp id st i off,u=>∃b v,E id=ak v/\zT v=ak b/\i<lenV v/\u=.pointer (ak ⟨b,i*st+off,aK⟩) | .Ei,u=>u=.pointer aK | .zY,u=>u=.slice aK 0 0 | .FM,u=>u=.nilFunc | .CS,u=>u=.nilIface | .EU,u=>u=.map aK | .fn f l,u=>∃vs:Array Value,u=.func (.func f) #[] vs/\zO H E l vs.toList | .agg l,u=>∃vs:Array Value,u=.agg vs/\zO H E l vs.toList | .zQ l,u=>∃vs:Array Value,u=.tuple vs/\zO H E l vs.toList | .BM t x,u=>∃v,u=.iface t v/\Den H E x v | .mp id,u=>∃b,E id=ak (.map (ak b))/\u=.map (ak b) | .sh s,u=>Rep H s u | .Gh st n g i off,u=>∃(b o:Nat) (c:Nat->Value),u=.pointer (ak ⟨b,o+off,aK⟩)/\i<n/\(g i).length=st/\
   (∀j,j<st->hcell H b (o+j)=ak (c j)/\(c j).oneCell'=aC)/\∀(j:Nat) (s:Sh),(g i)[j]?=ak s->Rep H s (c j)
 | .glob g,u=>u=.pointer (ak ⟨g,0,aK⟩) | .ev id,u=>E id=ak u | .vw id n,u=>∃A m c,E id=ak (.slice A m c)/\n<=m/\u=.slice A n c
def zO(H:Mem)(E:Env):List SV->List Value->Prop
 |[],[]=>True |s::l,v::vs=>Den H E s v/\zO H E l vs |_,_=>False
end
section
variable{H H':Mem}{E E':Env}
mutual
theorem Den.le(hH:H.le H')(hE:E.le E'):∀{s:SV} {v:Value},Den H E s v->Den H' E' s v
 | .any,_,_=>trivial | .val _,_,h=>h | .int _ _,_,h=>h | .sym _ _,_,h=>h | .bool _,_,h=>h | .test _,_,h=>h | .str _,_,h=>h | .ptr id off,u,⟨b,h1,h2⟩=>⟨b,by
   cases he:E id with
   |none=>grind |some v=>rw[hE _ _ he];simp_all,h2⟩
 | .gs id,u,⟨h,h'⟩=>⟨hE _ _ h,h'⟩ | .gp id st i off,u,⟨b,v,h1,h2⟩=>⟨b,v,hE _ _ h1,h2⟩ | .Ei,_,h=>h | .zY,_,h=>h | .FM,_,h=>h | .CS,_,h=>h | .EU,_,h=>h | .fn _ _,_,⟨vs,h1,h2⟩=>⟨vs,h1,zO.le hH hE h2⟩ | .agg _,_,⟨vs,h1,h2⟩=>⟨vs,h1,zO.le hH hE h2⟩ | .zQ _,_,⟨vs,h1,h2⟩=>⟨vs,h1,zO.le hH hE h2⟩ | .BM _ _,_,⟨v,h1,h2⟩=>⟨v,h1,Den.le hH hE h2⟩ | .mp id,_,⟨b,h1,h2⟩=>⟨b,hE _ _ h1,h2⟩ | .sh _,_,h=>Rep.le hH h | .Gh _ _ _ _ _,_,⟨b,o,c,h1,h2,h3,h4,h5⟩=>⟨b,o,c,h1,h2,h3,fun j hj=>⟨JA hH (h4 j hj).1,(h4 j hj).2⟩,fun j s hs=>(h5 j s hs).le hH⟩ | .glob _,_,h=>h | .ev _,_,h=>hE _ _ h | .vw _ _,_,⟨A,m,c,h1,h2⟩=>⟨A,m,c,hE _ _ h1,h2⟩
theorem zO.le(hH:H.le H')(hE:E.le E'):∀{l:List SV} {vs:List Value},zO H E l vs->zO H' E' l vs
 |[],[],_=>trivial |_::_,_::_,⟨a,b⟩=>⟨Den.le hH hE a,zO.le hH hE b⟩ |[],_::_,h=>h.elim |_::_,[],h=>h.elim
end
theorem zO.length:∀{l:List SV} {vs:List Value},zO H E l vs->vs.length=l.length
 |[],[],_=>rfl |_::_,_::_,⟨_,b⟩=>by simp[zO.length b] |[],_::_,h=>h.elim |_::_,[],h=>h.elim
theorem zO.at_:∀{l:List SV} {vs:List Value},zO H E l vs->∀{j:Nat} {s:SV} {v:Value},l[j]?=ak s->vs[j]?=ak v->Den H E s v
 |_::_,_::_,⟨a,_⟩,0,_,_,h1,h2=>by simp_all |_::_,_::_,⟨_,b⟩,j+1,_,_,h1,h2=>zO.at_ b (by simpa using h1) (by grind) |[],[],_,_,_,_,h1,_=>by simp at h1 |[],_::_,h,_,_,_,_,_=>h.elim |_::_,[],h,_,_,_,_,_=>h.elim
theorem zO.get:∀{l:List SV} {vs:List Value},zO H E l vs->∀{j:Nat} {s:SV},l[j]?=ak s->∃v,vs[j]?=ak v/\Den H E s v:=by
 intro l vs h j s hs;have hj:j<l.length:=(bW.1 hs).1;have hj':j<vs.length:=by rw[h.length];exact hj
 exact ⟨vs[j],aV hj',h.at_ hs (aV hj')⟩
theorem zO.append:∀{l l':List SV} {vs vs':List Value},zO H E l vs->zO H E l' vs'->zO H E (l++l') (vs++vs')
 |[],_,[],_,_,h'=>h' |_::_,_,_::_,_,⟨a,b⟩,h'=>⟨a,zO.append b h'⟩ |[],_,_::_,_,h,_=>h.elim |_::_,_,[],_,h,_=>h.elim
theorem zO.drop:∀{l:List SV} {vs:List Value},zO H E l vs->∀n,zO H E (l.drop n) (vs.drop n)
 |_,_,h,0=>h |[],[],_,_+1=>trivial |_::_,_::_,⟨_,b⟩,n+1=>zO.drop b n |[],_::_,h,_+1=>h.elim |_::_,[],h,_+1=>h.elim
theorem zO.take:∀{l:List SV} {vs:List Value},zO H E l vs->∀n,zO H E (l.take n) (vs.take n)
 |_,_,_,0=>by simp[zO] |[],[],_,_+1=>trivial |_::_,_::_,⟨a,b⟩,n+1=>⟨a,zO.take b n⟩ |[],_::_,h,_+1=>h.elim |_::_,[],h,_+1=>h.elim
theorem zO.set:∀{l:List SV} {vs:List Value},zO H E l vs->∀(n:Nat) {s:SV} {v:Value},Den H E s v->zO H E (l.set n s) (vs.set n v)
 |[],[],_,_,_,_,_=>trivial |_::_,_::_,⟨_,b⟩,0,_,_,h=>⟨h,b⟩ |_::_,_::_,⟨a,b⟩,n+1,_,_,h=>⟨a,zO.set b n h⟩ |[],_::_,h,_,_,_,_=>h.elim |_::_,[],h,_,_,_,_=>h.elim
theorem zO.any:∀(n:Nat) (vs:List Value),vs.length=n->zO H E (dL n .any) vs
 |0,[],_=>trivial |n+1,_::vs,h=>⟨trivial,zO.any n vs (by simpa using h)⟩ |0,_::_,h=>by simp at h |_+1,[],h=>by simp at h
end
structure Kx where
 w0:World
 own:Nat->Prop
 H0:Mem
def Mine(K:Kx)(H:Mem)(b:Nat):Prop:=H b=aK/\(K.w0.heap.size<=b\/K.own b)
def NH(H:Mem)(E:Env):List (SV×SV)->List MapEntry->Prop
 |[],[]=>True |(k,v)::l,m::ms=>Den H E k m.key/\Den H E v m.val/\NH H E l ms |_,_=>False
def FD(H:Mem)(E:Env):List (Int×Bool×SV)->List (Int×Option Value)->Prop
 |[],[]=>True |(k,p,sv)::l,(n,o)::r=>n=k/\(match p,o with|true,ak v=>Den H E sv v/\v.oneCell'=aC|false,aK=>True|_,_=>False)/\FD H E l r
 |_,_=>False
def TS(M:Int->Option Value):List (Int×Option Value)->Int->Option Value
 |[]=>M |(n,o)::r=>fun k=>if k=n then o else TS M r k
abbrev CZ:=Int×List UInt8
def Ci(n:CZ):Value:=.agg #[.int .i64 n.1,.string ⟨n.2.toArray⟩]
def VO(H:Mem)(E:Env):List (CZ×Bool×SV)->List (CZ×Option Value)->Prop
 |[],[]=>True |(k,p,sv)::l,(n,o)::r=>n=k/\(match p,o with|true,ak v=>Den H E sv v/\v.oneCell'=aC|false,aK=>True|_,_=>False)/\VO H E l r
 |_,_=>False
def Q7(M:CZ->Option Value):List (CZ×Option Value)->CZ->Option Value
 |[]=>M |(n,o)::r=>fun k=>if k=n then o else Q7 M r k
def am8:VT->Value->Prop
 | .int,v=>∃n,v=.int .i64 n | .bool,v=>∃b,v=.bool b
def akg(vt:VT)(M:CZ->Option Value):Prop:=∀k v,M k=ak v->am8 vt v
def am9(vt:VT)(us:List (CZ×Bool×SV)):Prop:=∀u∈us,u.2.1=aC->u.2.2.acW vt=aC
structure YB(ms:List MapEntry)(N:CZ->Option Value):Prop where
 key:∀m∈ms,∃n,m.key=Ci n
 Zp:∀m∈ms,∀n,m.key=Ci n->N n=ak m.val
 ex:∀n v,N n=ak v->∃m∈ms,m.key=Ci n
 one:∀(i j:Nat) (m m':MapEntry),ms[i]?=ak m->ms[j]?=ak m'->m.key=m'.key->i=j
def Iu(k:IntKind)(n:Int):List MapEntry->Option Value
 |[]=>aK |m::r=>match Instr.sameNow (.int k) (.int k n) m.key with
  |some aC=>ak m.val |_=>Iu k n r
structure Ew(k:IntKind)(ms:List MapEntry)(clk:Nat)(N:Int->Option Value):Prop where
 key:∀m∈ms,∃n,m.key=.int k n
 at_:∀n,Iu k n ms=N n
 one:∀(i j:Nat) (m m':MapEntry),ms[i]?=ak m->ms[j]?=ak m'->m.key=m'.key->i=j
 born:∀(i j:Nat) (m m':MapEntry),ms[i]?=ak m->ms[j]?=ak m'->m.born=m'.born->i=j
 lt:∀m∈ms,m.born<clk
def aeg(E:Env)(k:IntKind)(ms:List MapEntry):Option (Nat×Int)->Prop
 |none=>True |some (s,n)=>∃m∈ms,m.key=.int k n/\E s=ak (.int .i64 m.born)
def bytesV(l:List UInt8):List Value:=l.map fun b=>.int .u8 b.toNat
def FN(w:World)(e:TypeId)(v:Value)(l:List UInt8):Prop:=
 (v=.slice aK 0 0/\l=[])\/∃g cap cur fz,v=.slice (ak ⟨g,0,aK⟩) l.length cap/\w.heap[g]?=ak (.cells cur e fz)/\(fz.2<=l.length\/cap<=fz.1)/\l.length<=cap/\cap<=maxLen/\cur.size=cap/\cur.toList.take l.length=bytesV l
def FH(K:Kx)(H:Mem)(E:Env)(w:World)(id:Nat):SB->Prop
 | .box cells elem=>∃b cs,E id=ak (.pointer (ak ⟨b,0,aK⟩))/\w.heap[b]?=ak (.cells cs elem (0,0))/\zO H E cells cs.toList/\Mine K H b | .row cells elem st n=>∃v xs,E id=ak v/\w.ownsRow 0 elem st v n xs/\zO H E cells xs/\∀b,zT v=ak b->Mine K H b | .own elem st n g=>∃v xs,E id=ak v/\w.ownsRow 0 elem st v n xs/\Bq H st n g xs/\∀b,zT v=ak b->Mine K H b | .fz st n g=>∃v,E id=ak v/\Rep H (.sl st n g) v | .map es=>∃b ms clk,E id=ak (.map (ak b))/\w.heap[b]?=ak (.map ms clk)/\NH H E es ms.toList/\Mine K H b | .QN l=>∃v,E id=ak v/\Rep H (.pt l) v | .FY elem st n g more=>∃v xs ys,E id=ak v/\w.ownsRow 0 elem st v (n+more.length / st) (xs++ys)/\Bq H st n g xs/\zO H E more ys/\more.length % st=0/\EG more=aC/\∀b,zT v=ak b->Mine K H b | .fm k M fs us tag=>∃b ms clk fv uv,E id=ak (.map (ak b))/\w.heap[b]?=ak (.map ms clk)/\FD H E fs fv/\FD H E us uv/\(∀n o,(n,o)∈fv->M n=o)/\Ew k ms.toList clk (TS M uv)/\aeg E k ms.toList tag/\Mine K H b | .pm vt M us=>∃b ms clk uv,E id=ak (.map (ak b))/\w.heap[b]?=ak (.map ms clk)/\VO H E us uv/\akg vt M/\am9 vt us/\YB ms.toList (Q7 M uv)/\Mine K H b | .buf e l=>∃v,E id=ak v/\FN w e v l/\∀b,zT v=ak b->Mine K H b
def Ag(E:Env)(id:Nat):SB->Option Nat
 | .fz _ _ _=>aK | .QN _=>aK |_=>(E id).bind zT
structure zU(K:Kx)(H:Mem)(E:Env)(w:World)(hp:List (Nat×SB)):Prop where
 ent:∀id sb,zI hp id=ak sb->FH K H E w id sb
 Fg:∀id id' sb sb' b,zI hp id=ak sb->zI hp id'=ak sb'->Ag E id sb=ak b->Ag E id' sb'=ak b->id=id'
structure Du(K:Kx)(H:Mem)(w:World):Prop where
 os:w.os=K.w0.os
 tape:w.tape=K.w0.tape
 output:w.output=K.w0.output
 size:K.w0.heap.size<=w.heap.size
 kept:∀b,b<K.w0.heap.size->¬K.own b->w.heap[b]?=K.w0.heap[b]?
 on:H.on w
 le:K.H0.le H
 fresh:∀b,H b≠aK->K.H0 b≠aK\/K.w0.heap.size<=b\/K.own b
open Go.RowKit (Below)
def zG:Prim where
 add k x y:=k.wrap (x+y)
 sub k x y:=k.wrap (x - y)
 mul k x y:=k.wrap (x*y)
 neg k x:=k.wrap (0 - x)
 lt x y:=decide (x<y)
 le x y:=decide (x<=y)
 eq x y:=x==y
 max x y:=if y>x then y else x
 min x y:=if y<x then y else x
 inB i n:=decide (0<=i/\i<n)
 upTo i n:=decide (0<=i/\i<=n)
 toN i:=i.toNat
 Aa n:=n
 addN i j:=i+j
 Jb i j:=i - j
 Z8 i j:=decide (i<=j)
 room n b:=decide (n*b<=140737488355328/\n<=maxLen)
 len l:=l.length
 nt b:=!b
 ite c x y:=bif c then x else y
 beq x y:=x==y
 seq x y:=x==y
 app x y:=x++y
 snoc g n h i:=if i<n then g i else h (i - n)
 upd g i off l j:=if j=i then (g j).take off++l++(g j).drop (off+l.length) else g j
 bin op k a b:=VF op k a b
 conv k a:=k.wrap a
 ins g i l j:=if j<i then g j else if j=i then l else g (j - 1)
 kp a l b m:=decide (a=b/\l=m)
 isS o:=o.isSome
 asT o:=match o with|some (.int .i64 n)=>n|_=>0
 IQ o:=match o with|some (.bool b)=>b|_=>ay
def E0:Env:=fun _=>aK
def M0:Mem:=fun _=>aK
def ac0(P:Program)(fields:Array Field)(fs:List (Nat×Nat×Bool)):Prop:=
 fields.size=fs.length/\∀(j:Nat) (f:Field),fields[j]?=ak f->∃inf:TypeInfo,P.info? f.type=ak inf/\
  fs[j]?=ak (f.offset,inf.size,match P.underlying f.type with|some (.struct _) |some (.array _ _)=>aC|_=>ay)/\(P.underlying f.type).isSome=aC
def aeh(P:Program)(t:Nat):Ty->Prop
 | .int k=>P.underlying t=ak (.int k) | .bool=>P.underlying t=ak .bool | .str=>P.underlying t=ak .string | .ptr e=>P.underlying t=ak (.pointer e) | .fn=>∃ps rs b,P.underlying t=ak (.func ps rs b) | .iface=>∃ms,P.underlying t=ak (.interface ms) | .map k e=>P.underlying t=ak (.map k e) | .slice e=>P.underlying t=ak (.slice e) | .struct fs=>∃fields,P.underlying t=ak (.struct fields)/\ac0 P fields fs | .arr n e=>P.underlying t=ak (.array n e) | .other=>False
structure NI(P:Program)(t:Nat)(i:Jt):Prop where
 desc:aeh P t i.ty
 info:∃(inf:TypeInfo) (z:Value),P.info? t=ak inf/\inf.size=i.size/\inf.bytes=i.bytes/\inf.zero=ak z/\zO M0 E0 i.zero z.cells.toList/\z.cells.size=i.size/\
  (i.ty.isAgg=aC->∃cs,z=.agg cs)/\(i.ty.isAgg=ay->i.size=1/\z.oneCell'=aC)
def EX(H:Mem)(g:Nat)(s:Sh):Prop:=
 match s with
 | .zQ l=>(∃cs e f,H g=ak (.cells cs e f)/\cs.size=l.length)/\∃c:Nat->Value,(∀(j:Nat),j<l.length->hcell H g j=ak (c j)/\(c j).oneCell'=aC)/\∀(j:Nat) (s:Sh),l[j]?=ak s->Rep H s (c j) |s=>∃v,hcell H g 0=ak v/\Rep H s v/\v.oneCell'=aC
structure BU(gls:List (Nat×Sh))(H:Mem):Prop where
 at_:∀g s,zI gls g=ak s->EX H g s
 apart:∀g g' T T',zI gls g=ak (.er g T)->zI gls g'=ak (.er g' T')->g≠g'->hcell H g 0≠hcell H g' 0
theorem BU.le{gls:List (Nat×Sh)}{H H':Mem}(h:BU gls H)(hH:H.le H'):BU gls H' where
 at_ g s hg:=by
  have:=h.at_ g s hg;cases s with
  |zQ l=>obtain ⟨⟨cs,e,f,q1,q2⟩,c,h1,h2⟩:=this;exact ⟨⟨cs,e,f,hH _ _ q1,q2⟩,c,fun j hj=>⟨JA hH (h1 j hj).1,(h1 j hj).2⟩,fun j s hs=>(h2 j s hs).le hH⟩ |_=>obtain ⟨v,h1,h2,h3⟩:=this;exact ⟨v,JA hH h1,h2.le hH,h3⟩
 apart g g' T T' h1 h2 hne:=by
  have a1:EX H g (.er g T):=h.at_ g _ h1;have a2:EX H g' (.er g' T'):=h.at_ g' _ h2;obtain ⟨v1,b1,_⟩:=a1;obtain ⟨v2,b2,_⟩:=a2;have:=h.apart g g' T T' h1 h2 hne;grind [JA]
section
variable{P:Program}{C:Ctx}{K:Kx}{H:Mem}{E:Env}{w:World}
theorem aij{t:Nat}{i:Jt}(h:NI P t i)(w:World):(isAgg t).run P w=.ok i.ty.isAgg w:=by
 have hd:=h.desc;unfold isAgg;cases hi:i.ty<;>rw[hi] at hd<;>simp only[aeh] at hd
 case struct fs=>obtain ⟨f,hf,_⟩:=hd;simp[run_underlying hf,Ty.isAgg]
 case fn=>obtain ⟨_,_,_,hd⟩:=hd;simp[run_underlying hd,Ty.isAgg]
 case iface=>obtain ⟨_,hd⟩:=hd;simp[run_underlying hd,Ty.isAgg]
 all_goals simp[run_underlying hd,Ty.isAgg]
theorem IV{t:Nat}{i:Jt}(h:NI P t i)(w:World):(sizeOf t).run P w=.ok i.size w:=by
 obtain ⟨inf,z,h1,h2,_⟩:=h.info;simp[sizeOf,typeInfo,h1,h2]
theorem alo{t:Nat}{i:Jt}(h:NI P t i)(w:World):∃z:Value,(zeroValue t).run P w=.ok z w/\zO M0 E0 i.zero z.cells.toList/\z.cells.size=i.size:=by
 obtain ⟨inf,z,h1,_,_,h4,h5,h6,_⟩:=h.info;simp_all [zeroValue,typeInfo]
theorem aik(v:Value):Den H E (.ofValue v) v:=by
 unfold SV.ofValue;split<;>first|exact ⟨rfl,rfl⟩ |simp[Den]
theorem Ap{tm:List SV}{a:Act}(hd:zO H E tm a.tmps.toList)(x:Operand):Den H E (AP tm x) (a.eval x):=by
 cases x with
 |tmp t=>
  simp only[AP,Act.eval];by_cases ht:t<tm.length
  ·have h1:tm[t]?=ak tm[t]:=aV ht
   obtain ⟨v,hv,h2⟩:=hd.get h1;simp_all
  ·rw[List.getD_eq_getElem?_getD,List.getElem?_eq_none (Nat.le_of_not_lt ht)]
   trivial
 |const v=>exact aik v |global g=>exact rfl |func f=>exact ⟨#[],rfl,trivial⟩
theorem afB{x:Value}(h:x.oneCell'=aC):Den H E (SV.lit x) x:=by
 unfold SV.lit;split
 ·rfl
 ·rfl
 ·rfl
 ·exact ⟨rfl,h⟩
mutual
theorem Uw:∀{s:Sh} {v:Value},Rep H s v->Den H E (Xw s) v
 | .i _ _,_,h=>by cases h;rfl | .b _,_,h=>by cases h;rfl | .v _,_,h=>by cases h with|v _ h1=>exact afB h1
 | .str _,_,h=>h | .sl _ _ _,_,h=>h | .BM _ _,_,h=>h | .er _ _,_,h=>h | .fn _ l,_,h=>by
  cases h with
  |fn _ _ vs h1 h2=>exact ⟨vs,rfl,IW (CU.Oh (by omega) fun j s v e1 e2=>h2 j s v e1 (by grind))⟩
 | .pt l,_,h=>by
  cases h with
  |pt _ b off c h1 h2 h3=>exact ⟨b,off,c,rfl,Nat.zero_lt_one,rfl,fun j hj=>⟨h1 j hj,h2 j hj⟩,h3⟩
 | .os _ _ _ _,_,h=>by cases h | .agg l,_,h=>by
  cases h with
  |agg _ vs h1 h2=>exact ⟨vs,rfl,IW (CU.Oh (by omega) fun j s v e1 e2=>h2 j s v e1 (by grind))⟩
 | .zQ l,_,h=>by
  cases h with
  |zQ _ vs h1 h2=>exact ⟨vs,rfl,IW (CU.Oh (by omega) fun j s v e1 e2=>h2 j s v e1 (by grind))⟩
theorem IW:∀{l:List Sh} {vs:List Value},CU H l vs->zO H E (QD l) vs
 |[],[],_=>trivial |_::_,_::_,⟨h1,h2⟩=>⟨Uw h1,IW h2⟩ |[],_::_,h=>h.elim |_::_,[],h=>h.elim
end
theorem XF{s:Sh}{v:Value}(h:Rep H s v)(h1:v.oneCell'=aC):Den H E s.IU v:=by
 cases h;case v hx=>
  simp only[Sh.IU];unfold SV.lit;split
  ·rfl
  ·rfl
  ·rfl
  ·exact ⟨rfl,hx⟩
 all_goals simp[Sh.IU,Den]
 case sl0 st g A cap hc=>exact .sl0 st g A cap hc
 case sl st n g b off cap c a1 a2 a3 a4 a5 a6=>exact .sl st n g b off cap c a1 a2 a3 a4 a5 a6
 case str l=>exact .str l
 case agg l vs _ _=>simp[jm] at h1
 case zQ l vs _ _=>simp[jm] at h1
 case BM t x u hu=>exact .BM t x u hu
 case fn f l vs hs hv=>grind [IW,CU.Oh]
 case er g T b cs e a1 a2=>exact .er g T b cs e a1 a2
 case pt l b off c a1 a2 a3=>exact ⟨b,off,⟨rfl,rfl⟩,c,fun j hj=>⟨a1 j hj,a2 j hj⟩,a3⟩
def Ux(H:Mem)(E:Env)(hp:List (Nat×SB))(w w':World):Prop:=
 ∀b,(H b≠aK\/∃id sb,zI hp id=ak sb/\Ag E id sb=ak b)->w'.heap[b]?=w.heap[b]?
theorem Ux.refl(H:Mem)(E:Env)(hp:List (Nat×SB))(w:World):Ux H E hp w w:=fun _ _=>rfl
theorem JB{l:List SV}{off n:Nat}{r:List SV}(h:seg l off n=ak r):off+n<=l.length/\r=(l.drop off).take n:=by
 unfold seg at h;cases hb:gJ (off+n) l.length<;>simp[hb] at h
 simp_all
theorem MK{agg:Bool}{l:List SV}{v:SV}(h:pack agg l=ak v):(agg=aC/\v=.agg l)\/(agg=ay/\l=[v]):=by
 unfold pack at h;grind
theorem ac1{t:Nat}{i:Jt}(ht:NI P t i){a:Addr}{cs:List Value}(hl:cs.length=i.size)(hc:∀j v,cs[j]?=ak v->w.cell? (a.add j)=ak v):
  (loadVar t a).run P w=.ok (if i.ty.isAgg then .agg cs.toArray else cs.headD undef) w:=by
 unfold loadVar;simp only[gK,aij ht,iI];cases hi:i.ty.isAgg
 ·obtain ⟨_,_,_,_,_,_,_,_,_,h1⟩:=ht.info
  have h1:=(h1 hi).1;rw[h1] at hl;match cs,hl with
  |[c],_=>
   have:=hc 0 c rfl;simp_all [vO,run_load]
 ·have:=run_loadCells_list (P:=P) (w:=w) a cs hc
  rw[hl] at this;simp[IV ht,this]
def ML(agg:Bool)(cs:List Value):Value:=if agg then .agg cs.toArray else cs.headD undef
theorem JC{agg:Bool}{l:List SV}{sv:SV}{cs:List Value}(h:pack agg l=ak sv)(hd:zO H E l cs):Den H E sv (ML agg cs):=by
 rcases MK h with ⟨rfl,rfl⟩ |⟨rfl,rfl⟩
 ·exact ⟨cs.toArray,by simp[ML],hd⟩
 ·match cs,hd with
  |[c],⟨hc,_⟩=>exact hc
theorem IX{hp:List (Nat×SB)}{w':World}(ha:Ux H E hp w w'){id b:Nat}{sb:SB}(hl:zI hp id=ak sb)(hb:Ag E id sb=ak b):
  w'.heap[b]?=w.heap[b]?:=ha b (.inr ⟨id,sb,hl,hb⟩)
theorem VP{elem st n:Nat}{v:Value}{xs:List Value}(h:w.ownsRow 0 elem st v n xs){j:Nat}{u:Value}(hu:xs[j]?=ak u):
  ∃b cur,zT v=ak b/\w.heap[b]?=ak (.cells cur elem (0,0))/\cur.toList[j]?=ak u:=by
 obtain ⟨hl,h⟩:=h;rcases h with ⟨rfl,rfl⟩ |⟨g,cap,cur,rfl,_,hg,_,_,hs,ht⟩
 ·simp_all
 ·refine ⟨g,cur,rfl,hg,?_⟩
  grind
theorem acr{st n:Nat}{g:Nat->List Sh}{xs:List Value}(h:Bq H st n g xs){i:Nat}(hi:i<n):
  zO H E ((g i).map Sh.IU) ((xs.drop (i*st)).take st):=by
 obtain ⟨h1,h2,h3,h4⟩:=h;have hg:=h2 i hi;have hlen:i*st+st<=xs.length:=by
  rw[h1];calc i*st+st=(i+1)*st:=by grind
   _<=n*st:=Nat.mul_le_mul_right _ hi
 have key:∀(l:List Sh) (vs:List Value),vs.length=l.length->(∀(j:Nat) (s:Sh) (v:Value),l[j]?=ak s->vs[j]?=ak v->Rep H s v/\v.oneCell'=aC)->zO H E (l.map Sh.IU) vs:=by
  intro l;induction l with
  |nil=>intro vs hl _;match vs,hl with|[],_=>trivial
  |cons s l ih=>
   intro vs hl h;match vs,hl with
   |v::vs,hl=>
    have h0:=h 0 s v rfl rfl;exact ⟨XF h0.1 h0.2,ih vs (by grind) fun j s' v' e1 e2=>h (j+1) s' v' (by grind) (by grind)⟩
 grind
theorem range_map_get{st k:Nat}{c:Nat->Value}{v:Value}(h:((aY st).map c)[k]?=ak v):k<st/\c k=v:=by
 grind
theorem Uy{l:List Sh}{st:Nat}{c:Nat->Value}(hl:l.length=st)(hr:∀(j:Nat) (s:Sh),l[j]?=ak s->Rep H s (c j))(h1:∀j,j<st->(c j).oneCell'=aC):
  zO H E (l.map Sh.IU) ((aY st).map c):=by
 have key:∀(l:List Sh) (c:Nat->Value),(∀(j:Nat) (s:Sh),l[j]?=ak s->Rep H s (c j)/\(c j).oneCell'=aC)->zO H E (l.map Sh.IU) ((aY l.length).map c):=by
  intro l;induction l with
  |nil=>intro c _;trivial |cons s l ih=>
   intro c h;rw[jf,List.range_succ_eq_map,jJ,jJ,List.map_map];exact ⟨XF (h 0 s rfl).1 (h 0 s rfl).2,ih (c ∘ Nat.succ) fun j s' e=>h (j+1) s' (by simpa using e)⟩
 grind
theorem YC{c:Core}{agg:Bool}{size:Nat}{x sv:SV}{u:Value}(hx:Den H E x u)(hh:zU K H E w c.hp)(hg:BU C.gls H)(hsz:agg=ay->size=1)
  (h:ad7 C c agg size x=ak sv):∃(a:Addr) (cs:List Value),u=.pointer (ak a)/\cs.length=size/\Den H E sv (ML agg cs)/\
   ∀w',Ux H E c.hp w w'->H.on w'->∀(j:Nat) (v:Value),cs[j]?=ak v->w'.cell? (a.add j)=ak v:=by
 unfold ad7 at h;split at h
 ·
  rename_i id off;obtain ⟨b,hb,rfl⟩:=hx;split at h
  ·rename_i cells elem hl
   obtain ⟨b',cs,he,hw,hd,_⟩:=hh.ent _ _ hl;simp only[he,eH,zT,jL] at hb;subst hb;cases hs:seg cells off size with
   |none=>grind |some r=>
    simp only[hs,eH] at h;obtain ⟨hle,rfl⟩:=JB hs;have hdl:=hd.length;refine ⟨_,(cs.toList.drop off).take size,rfl,by grind,JC h ((hd.drop off).take size),?_⟩;intro w' ha _ j v hv;rw[dO] at hv;split at hv
    ·rw[gq,iJ] at hv
     grind [IX,Ag,zT,mQ,dW]
    ·cases hv
  ·rename_i cells elem st n hl
   obtain ⟨v',xs,he,ho,hd,_⟩:=hh.ent _ _ hl;cases hs:seg cells off size with
   |none=>grind |some r=>
    simp only[hs,eH] at h;obtain ⟨hle,rfl⟩:=JB hs;have hdl:=hd.length;refine ⟨_,(xs.drop off).take size,rfl,by grind,JC h ((hd.drop off).take size),?_⟩;intro w' ha _ j v hv;rw[dO] at hv;split at hv
    ·rw[gq] at hv
     obtain ⟨b',cur,hb',hw,hu⟩:=VP ho hv;simp only[he,eH,hb',jL] at hb;grind [IX,Ag,mQ,dW]
    ·cases hv
  ·rename_i l hl
   obtain ⟨v',he,hr⟩:=hh.ent _ _ hl;cases hr with
   |pt _ b2 off2 c2 h1 h2 h3=>
    have h02:b2=b/\off2=0:=by
     rw[he] at hb;simp only[eH] at hb;unfold zT at hb;grind
    obtain ⟨rfl,rfl⟩:=h02;cases hs:seg (l.map Sh.IU) off size with
    |none=>grind |some r=>
     simp only[hs,eH] at h;obtain ⟨hle,rfl⟩:=JB hs;rw[iy] at hle;have hd:zO H E (l.map Sh.IU) ((aY l.length).map c2):=Uy rfl h3 h2;refine ⟨_,(((aY l.length).map c2).drop off).take size,rfl,by grind,JC h ((hd.drop off).take size),?_⟩;intro w' _ hon j v hv;rw[dO] at hv;split at hv
     ·rw[gq] at hv
      obtain ⟨hk,rfl⟩:=range_map_get hv;grind [LW,dW]
     ·cases hv
  ·cases h
 ·
  rename_i id st i off;obtain ⟨b,v',he,hb,hi,rfl⟩:=hx;split at h
  ·rename_i elem st' n g hl
   obtain ⟨v'',xs,he',ho,hr,_⟩:=hh.ent _ _ hl;rw[he] at he';cases he';have hn:lenV v'=n:=by
    rcases ho.2 with ⟨rfl,rfl⟩ |⟨_,_,_,rfl,_⟩<;>rfl
   rw[hn] at hi;cases hst:(st==st')<;>simp only[hst,cond_true,cond_false] at h
   ·cases h
   obtain rfl:st=st':=by grind
   cases hs:seg ((g i).map Sh.IU) off size with
   |none=>grind |some r=>
    simp only[hs,eH] at h;obtain ⟨hle,rfl⟩:=JB hs;have hd:=acr (E:=E) hr hi;have hdl:=hd.length;refine ⟨_,(((xs.drop (i*st)).take st).drop off).take size,rfl,by grind,JC h ((hd.drop off).take size),?_⟩;intro w' ha _ j v hv;rw[dO] at hv;split at hv
    ·rw[gq,dO] at hv
     split at hv
     ·rw[gq] at hv
      grind [VP,IX,Ag,mQ,dW]
     ·cases hv
    ·cases hv
  ·rename_i st' n g hl
   obtain ⟨v'',he',hr⟩:=hh.ent _ _ hl;rw[he] at he';cases he';cases hst:(st==st')<;>simp only[hst,cond_true,cond_false] at h
   ·cases h
   obtain rfl:st=st':=by grind
   cases hr with
   |sl0 _ _ A cap hc=>simp[lenV] at hi |sl _ _ _ b2 off2 cap c h1 h2 h3 h4 h5 h6=>
    simp only[lenV] at hi;have h02:b2=b/\off2=0:=by
     unfold zT at hb;grind
    obtain ⟨rfl,rfl⟩:=h02;cases hs:seg ((g i).map Sh.IU) off size with
    |none=>grind |some r=>
     simp only[hs,eH] at h;obtain ⟨hle,rfl⟩:=JB hs;rw[iy,h3 i hi] at hle;have hd:zO H E ((g i).map Sh.IU) ((aY st).map (c i)):=Uy (h3 i hi) (fun j s hs=>h6 i j s hi hs) (fun j hj=>h5 i j hi hj);refine ⟨_,(((aY st).map (c i)).drop off).take size,rfl,by grind,JC h ((hd.drop off).take size),?_⟩;intro w' _ hon j v hv;rw[dO] at hv;split at hv
     ·rw[gq] at hv
      obtain ⟨hk,rfl⟩:=range_map_get hv;grind [LW,dW,qO]
     ·cases hv
  ·cases h
 ·
  rename_i st n g i off;obtain ⟨b,o,c,rfl,hi,hgl,hc,hr⟩:=hx;cases hs:seg ((g i).map Sh.IU) off size with
  |none=>grind |some r=>
   simp only[hs,eH] at h;obtain ⟨hle,rfl⟩:=JB hs;rw[iy,hgl] at hle;have hd:zO H E ((g i).map Sh.IU) ((aY st).map c):=Uy hgl hr (fun j hj=>(hc j hj).2);refine ⟨_,(((aY st).map c).drop off).take size,rfl,by grind,JC h ((hd.drop off).take size),?_⟩;intro w' _ hon j v hv;rw[dO] at hv;split at hv
   ·rw[gq] at hv
    obtain ⟨hk,rfl⟩:=range_map_get hv;grind [LW,dW,qO]
   ·cases hv
 ·rename_i g
  obtain rfl:u=_:=hx;cases agg<;>simp only[cond_true,cond_false] at h
  ·cases hl:zI C.gls g with
   |none=>grind |some s=>
    have hgl:=hg.at_ g s hl;have h:s.IU=sv/\∃v,hcell H g 0=ak v/\Rep H s v/\v.oneCell'=aC:=by
     cases s<;>simp[hl] at h<;>exact ⟨h,hgl⟩
    obtain ⟨rfl,v,h1,h2,h3⟩:=h;refine ⟨_,[v],rfl,(hsz rfl).symm,XF h2 h3,?_⟩;grind [vO,LW]
  ·cases h
 ·cases h
end
structure Q8(P:Program)(t:Nat):Prop where
 und:∃fs,P.underlying t=ak (.struct fs)
 chk:∀(em:Bool) (n:CZ) (w:World),(Instr.checkKey em 10000 t (Ci n)).run P w=.ok () w
 eq:∀(n m:CZ) (w:World),(Op.equal t (Ci n) (Ci m)).run P w=.ok (decide (n=m)) w
structure Az(P:Program)(C:Ctx):Prop where
 ty:∀t i,C.tys.get t=ak i->NI P t i
 fn:∀g fn,C.fns.get g=ak fn->P.funcs[g]?=ak fn
 A:C.A=zG
 mixed:P.follows .mixedOrders=aC
 eqs:∀t i,C.eqs.contains t=aC->C.tys.get t=ak i->∀(xs ys:List Cq) (w:World),Cc xs i.zero=aC->Cc ys i.zero=aC->∀x y:Operand,
  (do eqGuard .eql t x y (.agg (xs.map Cq.v).toArray) (.agg (ys.map Cq.v).toArray);binOp .eql t (.agg (xs.map Cq.v).toArray) (.agg (ys.map Cq.v).toArray):Sem Value).run P w=.ok (.bool (decide (xs=ys))) w/\
  (do eqGuard .neq t x y (.agg (xs.map Cq.v).toArray) (.agg (ys.map Cq.v).toArray);binOp .neq t (.agg (xs.map Cq.v).toArray) (.agg (ys.map Cq.v).toArray):Sem Value).run P w=.ok (.bool (!decide (xs=ys))) w
 VB:∀T,C.VB.contains T=aC->∃inf e ie,P.info? T=ak inf/\inf.comparable=aC/\P.underlying T=ak (.pointer e)/\P.info? e=ak ie/\ie.size≠0
 Z9:∀t,C.Z9.contains t=aC->Q8 P t
section
variable{P:Program}{C:Ctx}{K:Kx}{H:Mem}{E:Env}{w:World}
def VQ(P:Program)(H:Mem)(E:Env)(w:World)(c:Core)(a:Act)(o:Oper)(φ:SV×Core->Prop):Prop:=
 ∃(p:SV×Core) (v:Value),φ p/\p.2=c/\Den H E p.1 v/\∀w',Ux H E c.hp w w'->H.on w'->(execOp a.eval o).run P w'=.ok (.value v) w'
def QP(P:Program)(H:Mem)(E:Env)(c:Core)(a:Act)(o:Oper)(φ:SV×Core->Prop):Prop:=
 ∃(p:SV×Core) (v:Value),φ p/\p.2=c/\Den H E p.1 v/\∀w',(execOp a.eval o).run P w'=.ok (.value v) w'
theorem QP.q{c:Core}{a:Act}{o:Oper}{φ:SV×Core->Prop}(h:QP P H E c a o φ):VQ P H E w c a o φ:=
 let ⟨p,v,h1,h2,h3,h4⟩:=h;⟨p,v,h1,h2,h3,fun w' _ _=>h4 w'⟩
theorem GI{c:Core}{x:Option SV}{φ:SV×Core->Prop}(h:(Kr c x).All φ):∃v,x=ak v/\φ (v,c):=by
 cases x with
 |none=>exact h.elim |some v=>exact ⟨v,rfl,h⟩
theorem ZH{c:Core}{a:Act}{o:Oper}{x:Operand}{φ:SV×Core->Prop}(ho:o.op=.move x\/o.op=.assign x)(hd:zO H E c.tm a.tmps.toList)
  (h:(ret c (AP c.tm x)).All φ):QP P H E c a o φ:=by
 refine ⟨_,a.eval x,h,rfl,Ap hd x,fun w'=>?_⟩;rcases ho with ho|ho<;>simp[execOp,ho]
theorem VR{x:SV}{b:Bool}{u:Value}(h:ZB x=ak b)(hd:Den H E x u):u=.bool b:=by
 cases x<;>simp[ZB] at h
 all_goals (subst h;exact hd)
theorem akh{c:Core}{a:Act}{o:Oper}{x y z:Operand}{φ:SV×Core->Prop}(hA:C.A=zG)(ho:o.op=.pick x y z)(hd:zO H E c.tm a.tmps.toList)
  (h:(Kr c (ah9 C.A (AP c.tm x) (AP c.tm y) (AP c.tm z))).All φ):QP P H E c a o φ:=by
 obtain ⟨v,hv,hφ⟩:=GI h;have dx:=Ap (H:=H) (E:=E) hd x;have dy:=Ap (H:=H) (E:=E) hd y;have dz:=Ap (H:=H) (E:=E) hd z;unfold ah9 at hv;split at hv
 ·rename_i hx
  rw[hx] at dx;cases hv;refine ⟨_,a.eval y,hφ,rfl,dy,fun w'=>?_⟩;simp_all [Den,execOp,asBool]
 ·rename_i hx
  rw[hx] at dx;cases hv;refine ⟨_,a.eval z,hφ,rfl,dz,fun w'=>?_⟩;simp_all [Den,execOp,asBool]
 ·rename_i b hx
  rw[hx] at dx;simp only[Den] at dx;split at hv
  ·rename_i p q hp hq
   cases hv;have ep:=VR hp dy;have eq:=VR hq dz;refine ⟨_,.bool (bif b then p else q),hφ,rfl,?_,fun w'=>?_⟩
   ·rw[hA];rfl
   simp_all [execOp,asBool]
  ·cases hv
 ·cases hv
theorem ana{c:Core}{a:Act}{o:Oper}{t:Nat}{x:Operand}{φ:SV×Core->Prop}(hA:C.A=zG)(ho:o.op=.unOp .not t x)(hd:zO H E c.tm a.tmps.toList)
  (h:(Kr c (notS C.A (AP c.tm x))).All φ):QP P H E c a o φ:=by
 obtain ⟨v,hv,hφ⟩:=GI h;have dx:=Ap (H:=H) (E:=E) hd x;unfold notS at hv;split at hv<;>cases hv
 all_goals
  rename_i b hx;rw[hx] at dx;simp only[Den] at dx;refine ⟨_,.bool (!b),hφ,rfl,?_,fun w'=>by simp[execOp,ho,dx,Op.unary]⟩
 ·rfl
 ·rw[hA];rfl
theorem anb{c:Core}{a:Act}{o:Oper}{t:Nat}{x:Operand}{φ:SV×Core->Prop}(hA:C.A=zG)(ho:o.op=.unOp .neg t x)(hd:zO H E c.tm a.tmps.toList)
  (h:(Kr c (negS C.A (AP c.tm x))).All φ):QP P H E c a o φ:=by
 obtain ⟨v,hv,hφ⟩:=GI h;have dx:=Ap (H:=H) (E:=E) hd x;unfold negS at hv;split at hv<;>cases hv
 all_goals
  rename_i k n hx;rw[hx] at dx;simp only[Den] at dx;refine ⟨_,.int k (k.wrap (0 - n)),hφ,rfl,?_,fun w'=>by simp[execOp,ho,dx,Op.unary,Op.intArith]⟩
 ·rfl
 ·rw[hA];rfl
theorem aaj{c:Core}{a:Act}{o:Oper}{x:Operand}{i:Nat}{φ:SV×Core->Prop}(ho:o.op=.extract x i)(hd:zO H E c.tm a.tmps.toList)
  (h:(PG c (AP c.tm x) i).All φ):QP P H E c a o φ:=by
 have dx:=Ap (H:=H) (E:=E) hd x;unfold PG at h;split at h
 ·rename_i l hx
  obtain ⟨v,hv,hφ⟩:=GI h;rw[hx] at dx;obtain ⟨vs,he,hl⟩:=dx;obtain ⟨u,hu,hdu⟩:=hl.get hv;refine ⟨_,u,hφ,rfl,hdu,fun w'=>?_⟩;simp_all [iJ,execOp,Instr.extract]
 ·exact h.elim
theorem afC{C:Ctx}{c:Core}{a:Act}{o:Oper}{t:TypeId}{x i:Operand}{φ:SV×Core->Prop}(hC:Az P C)(ho:o.op=.index t x i)(hd:zO H E c.tm a.tmps.toList)
  (h:(Uu C c t (AP c.tm x) (AP c.tm i)).All φ):QP P H E c a o φ:=by
 have dx:=Ap (H:=H) (E:=E) hd x;have di:=Ap (H:=H) (E:=E) hd i;unfold Uu at h;split at h
 ·rename_i ti l k n e1 e2 e3
  rw[e2] at dx;rw[e3] at di;have dx:a.eval x=_:=dx;have di:a.eval i=_:=di;have ht:=(hC.ty _ _ e1).desc;split at h
  ·rename_i et
   rw[et] at ht;cases hn:decide (0<=n)<;>simp only[hn,cond_true,cond_false] at h
   ·exact h.elim
   obtain ⟨v,hv,hφ⟩:=GI h;obtain ⟨b,hb,rfl⟩:=Option.map_eq_some_iff.1 hv;refine ⟨_,.int .u8 (b.toNat:Int),hφ,rfl,rfl,fun w'=>?_⟩;have hs:(sG l.toArray)[n.toNat]?=ak b:=by
    obtain ⟨h1,h2⟩:=bW.1 hb;rw[getElem?_pos (sG l.toArray) n.toNat (by simpa[yR] using h1)];exact congrArg ak h2
   have hn:0<=n:=of_decide_eq_true hn;have ht:P.underlying t=ak .string:=ht;simp[execOp,ho,dx,di,Instr.index,asIntOf,run_underlying ht,hn,hs]
  ·exact h.elim
 ·exact h.elim
theorem YD{c:Core}{a:Act}{o:Oper}{f:Nat}{fs cs:Array Operand}{φ:SV×Core->Prop}(ho:o.op=.makeFunc (.func f) fs cs)(hd:zO H E c.tm a.tmps.toList)
  (h:(bif fs.size==0 then ret c (.fn f (cs.toList.map (AP c.tm))) else .fail).All φ):QP P H E c a o φ:=by
 cases hf:(fs.size==0)<;>simp only[hf,cond_true,cond_false] at h
 ·exact h.elim
 have hf:fs=#[]:=by grind
 subst hf;have key:∀l:List Operand,zO H E (l.map (AP c.tm)) (l.map a.eval):=by
  intro l;induction l with
  |nil=>trivial |cons x l ih=>exact ⟨Ap hd x,ih⟩
 refine ⟨_,.func (.func f) #[] (cs.map a.eval),h,rfl,⟨cs.map a.eval,rfl,by simp_all⟩,fun w'=>?_⟩;simp[execOp,ho,Instr.makeFunc]
theorem anc{c:Core}{a:Act}{o:Oper}{x:Operand}{φ:SV×Core->Prop}(ho:o.op=.nilCheck x)(hd:zO H E c.tm a.tmps.toList)
  (h:(aad c (AP c.tm x)).All φ):QP P H E c a o φ:=by
 have dx:=Ap (H:=H) (E:=E) hd x;unfold aad at h;split at h
 ·rename_i i off hx
  rw[hx] at dx;have dx':=dx;obtain ⟨b,_,he⟩:=dx;exact ⟨_,a.eval x,h,rfl,dx',fun w'=>by simp[execOp,ho,he]⟩
 ·rename_i i st j off hx
  rw[hx] at dx;have dx':=dx;obtain ⟨b,_,_,_,_,he⟩:=dx;exact ⟨_,a.eval x,h,rfl,dx',fun w'=>by simp[execOp,ho,he]⟩
 ·rename_i st n g i off hx
  rw[hx] at dx;have dx':=dx;obtain ⟨b,_,_,he,_⟩:=dx;exact ⟨_,a.eval x,h,rfl,dx',fun w'=>by simp[execOp,ho,he]⟩
 ·rename_i f l hx
  rw[hx] at dx;have dx':=dx;obtain ⟨vs,he,_⟩:=dx;exact ⟨_,a.eval x,h,rfl,dx',fun w'=>by simp[execOp,ho,he]⟩
 ·exact h.elim
theorem aru{c:Core}{a:Act}{o:Oper}{t:Nat}{x:Operand}{φ:SV×Core->Prop}(hC:Az P C)(ho:o.op=.load t x)(hd:zO H E c.tm a.tmps.toList)
  (hh:zU K H E w c.hp) (hg:BU C.gls H) (h:(Xy C c t (AP c.tm x)).All φ):VQ P H E w c a o φ:=by
 have dx:=Ap (H:=H) (E:=E) hd x;unfold Xy at h;split at h
 ·rename_i i hi
  have ht:=hC.ty _ _ hi;obtain ⟨sv,hs,hφ⟩:=GI h;obtain ⟨ad,cs,he,hl,hden,hc⟩:=YC dx hh hg (fun e=>by obtain ⟨_,_,_,_,_,_,_,_,_,h1⟩:=ht.info;grind) hs;refine ⟨_,_,hφ,rfl,hden,fun w' ha hon=>?_⟩;have:=ac1 (w:=w') ht hl (hc w' ha hon);simp_all [execOp,Instr.loadAt,jG,ML]
 ·exact h.elim
theorem aak{fields:Array Field}{fs:List (Nat×Nat×Bool)}(hf:ac0 P fields fs){j off size:Nat}{agg:Bool}(h:fs[j]?=ak (off,size,agg)):
  ∃(f:Field) (inf:TypeInfo),fields[j]?=ak f/\f.offset=off/\P.info? f.type=ak inf/\inf.size=size/\(P.underlying f.type).isSome=aC/\
   (match P.underlying f.type with|some (.struct _) |some (.array _ _)=>aC|_=>ay)=agg:=by
 obtain ⟨h1,h2⟩:=hf;have hj:j<fields.size:=by grind
 have hfj:fields[j]?=ak fields[j]:=Array.getElem?_eq_getElem hj;grind
theorem JD{n m:Nat}(h:fF n m=aC):n<m:=Nat.le_of_ble_eq_true h
theorem Zq{f:Field}{inf:TypeInfo}(hi:P.info? f.type=ak inf)(hs:0<inf.size)(a:Addr)(w:World):(fieldPlace a f).run P w=.ok (a.add f.offset) w:=by
 simp_all [fieldPlace,sizeOf,typeInfo,Nat.ne_of_gt]
theorem VU{c:Core}{a:Act}{o:Oper}{t f:Nat}{x:Operand}{φ:SV×Core->Prop}(hC:Az P C)(ho:o.op=.fieldAddr t x f)(hd:zO H E c.tm a.tmps.toList)
  (h:(MC C c t f (AP c.tm x)).All φ):QP P H E c a o φ:=by
 have dx:=Ap (H:=H) (E:=E) hd x;unfold MC at h;split at h
 ·rename_i i hi
  have ht:=(hC.ty _ _ hi).desc;split at h
  ·rename_i fs hty
   rw[hty] at ht;obtain ⟨fields,hu,hf⟩:=ht;split at h
   ·rename_i off size agg hfs
    cases hb:fF 0 size<;>simp only[hb,cond_true,cond_false] at h
    ·exact h.elim
    obtain ⟨fd,inf,h1,rfl,h2,h3,_⟩:=aak hf hfs;have hp:=fun (ad:Addr) (w':World)=>Zq (P:=P) h2 (by simp_all) ad w';split at h
    ·rename_i id off2 hx
     rw[hx] at dx;obtain ⟨b,h4,he⟩:=dx;refine ⟨_,.pointer (ak ⟨b,off2+fd.offset,aK⟩),h,rfl,⟨b,h4,rfl⟩,fun w'=>?_⟩;simp_all [execOp,oD,run_underlying,jG,dW]
    ·rename_i id st j off2 hx
     rw[hx] at dx;obtain ⟨b,v,h4,h5,h6,he⟩:=dx;refine ⟨_,.pointer (ak ⟨b,j*st+off2+fd.offset,aK⟩),h,rfl,⟨b,v,h4,h5,h6,by simp⟩,fun w'=>?_⟩;simp_all [execOp,oD,run_underlying,jG,dW]
    ·rename_i st n g j off2 hx
     rw[hx] at dx;obtain ⟨b,o2,cc,he,h4⟩:=dx;refine ⟨_,.pointer (ak ⟨b,o2+off2+fd.offset,aK⟩),h,rfl,⟨b,o2,cc,by simp,h4⟩,fun w'=>?_⟩;simp_all [execOp,oD,run_underlying,jG,dW]
    ·exact h.elim
   ·exact h.elim
  ·exact h.elim
 ·exact h.elim
theorem alp{ty:Nat}{inf:TypeInfo}{agg:Bool}(hi:P.info? ty=ak inf)(hs:(P.underlying ty).isSome=aC)
  (ha:(match P.underlying ty with|some (.struct _) |some (.array _ _)=>aC|_=>ay)=agg) {cs:List Value} {off:Nat} (hl:off+inf.size<=cs.length) (h1:agg=ay->inf.size=1) (w:World) :
  (part ty cs.toArray off).run P w=.ok (ML agg ((cs.drop off).take inf.size)) w:=by
 cases hu:P.underlying ty with
 |none=>grind |some d=>
  rw[hu] at ha;have hag:(isAgg ty).run P w=.ok agg w:=by
   unfold isAgg;simp only[gK,run_underlying hu,iI];cases d<;>simp_all
  unfold part;simp only[gK,hag,iI];cases agg
  ·have h1:=h1 rfl
   have hlt:off<cs.length:=by omega
   rw[h1];have:(cs.drop off).take 1=[cs[off]]:=by rw[List.drop_eq_getElem_cons hlt];rfl
   simp[this,ML,hlt]
  ·simp[sizeOf,typeInfo,hi,ML,List.extract_eq_take_drop]
theorem afD{c:Core}{a:Act}{o:Oper}{t f:Nat}{x:Operand}{φ:SV×Core->Prop}(hC:Az P C)(ho:o.op=.field t x f)(hd:zO H E c.tm a.tmps.toList)
  (h:(Us C c t f (AP c.tm x)).All φ):QP P H E c a o φ:=by
 have dx:=Ap (H:=H) (E:=E) hd x;unfold Us at h;split at h
 ·rename_i i hi
  have ht:=(hC.ty _ _ hi).desc;split at h
  ·rename_i fs l hty hx
   rw[hty] at ht;obtain ⟨fields,hu,hf⟩:=ht;rw[hx] at dx;obtain ⟨vs,he,hl⟩:=dx;split at h
   ·rename_i off size agg hfs
    obtain ⟨sv,hs,hφ⟩:=GI h;obtain ⟨fd,inf,h1,rfl,h2,h3,h4,h5⟩:=aak hf hfs;subst h3;cases hsg:seg l fd.offset inf.size with
    |none=>simp_all |some r=>
     simp only[hsg,eH] at hs;obtain ⟨hle,rfl⟩:=JB hsg;have hlen:=hl.length;refine ⟨_,ML agg ((vs.toList.drop fd.offset).take inf.size),hφ,rfl,JC hs ((hl.drop _).take _),fun w'=>?_⟩;have hp:=alp (P:=P) h2 h4 h5 (cs:=vs.toList) (off:=fd.offset) (by omega) (fun e=>by
      subst e;rcases MK hs with ⟨e,_⟩ |⟨_,e⟩
      ·cases e
      grind [List.length_take]) w'
     simp_all [execOp,Instr.field,run_underlying,asAgg]
   ·exact h.elim
  ·exact h.elim
 ·exact h.elim
end
end Go.Sx
