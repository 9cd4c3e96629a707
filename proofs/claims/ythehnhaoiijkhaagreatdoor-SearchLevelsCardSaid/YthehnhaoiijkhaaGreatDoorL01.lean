/- Own work. -/
import Derived.OrdersHeld
import Derived.Calls
import Derived.Laws.AppendOwn
import Derived.Laws.OwnMore
import Derived.Below
import Derived.WalkKit
open Int (ofNat)
open Array renaming getD_eq_getD_getElem?->iQ,getElem?_toList->dX,length_toList->bV
open BEq renaming beq->rH
open BitVec renaming ofInt->gG
open Bool renaming true->aC,false->ay
open Go.Addr renaming add_zero'->wP,add_lit->eY
open Go.Instr renaming sureAddr->mJ,fieldAt->qw
open Go.Region renaming binds->jK,ready->kS,free->lg
open Go.Result renaming andThen_ok->gy
open Go.Sem renaming run_bind->gK
open Go.Value renaming oneCell'->ku
open Go.World renaming cell?->oJ
open List renaming all_cons->lH,range'->lu,mem_range'_1->lC,getD_eq_getElem?_getD->aX,getD_cons_zero->sO,getD_cons_succ->sS,filter_cons->oI,map_cons->jr,filter_congr->uz,getElem?_cons_succ->jR,length_cons->iU,range'_succ->uV,getElem?_cons_zero->jS,range_eq_range'->rU,replicate->dU,range->aZ,getElem?_eq_some_iff->aV,getElem?_eq_getElem->aS,getElem?_take->bY,length_take->cu,length_drop->dS,getElem?_drop->eP,length_map->dP
open Nat renaming beq->fC,blt->fV,ble_eq_true_of_le->rQ,ble->iq,add_zero->jC,sub_self->qV,zero_add->gu,sub_zero->uD,le_of_ble_eq_true->gq,add_assoc->kC
open Option renaming none->aK,some->ak,bind_some->eU
open Option.some renaming injEq->kX
namespace Go.Sx
instance (priority:=high)VR:BEq Nat:=⟨fC⟩
instance (priority:=high)ah8:LawfulBEq Nat where
 eq_of_beq h:=Nat.eq_of_beq_eq_true h
 rfl:=Nat.beq_refl _
inductive BT(α:Type)where
 |nil
 |node (l:BT α) (k:Nat) (v:α) (r:BT α)
def BT.get{α:Type}:BT α->Nat->Option α
 | .nil,_=>aK | .node l k v r,i=>bif fV i k then l.get i else bif fV k i then r.get i else ak v
def BT.All{α:Type}(φ:Nat->α->Prop):BT α->Prop
 | .nil=>True | .node l k v r=>φ k v/\l.All φ/\r.All φ
def BT.allB{α:Type}(f:Nat->α->Bool):BT α->Bool
 | .nil=>aC | .node l k v r=>f k v&&l.allB f&&r.allB f
theorem BT.All.get{α:Type}{φ:Nat->α->Prop}:∀{t:BT α} {i:Nat} {v:α},t.All φ->t.get i=ak v->φ i v
 | .nil,_,_,_,h=>by cases h | .node l k v r,i,v',h,hg=>by
  simp only[BT.get] at hg;cases h1:fV i k<;>simp only[h1,cond_true,cond_false] at hg
  ·cases h2:fV k i<;>simp only[h2,cond_true,cond_false] at hg
   ·cases hg
    have a1:¬i<k:=fun h=>by have:fV i k=aC:=rQ h;rw[this] at h1;cases h1
    have a2:¬k<i:=fun h=>by have:fV k i=aC:=rQ h;rw[this] at h2;cases h2
    obtain rfl:k=i:=by omega
    exact h.1
   ·exact BT.All.get h.2.2 hg
  ·exact BT.All.get h.2.1 hg
theorem BT.TN{α:Type}{f:Nat->α->Bool}:∀{t:BT α},t.allB f=aC->t.All fun k v=>f k v=aC
 | .nil,_=>trivial | .node l k v r,h=>by
  simp only[BT.allB,Bool.and_eq_true] at h;exact ⟨h.1.1,BT.TN h.1.2,BT.TN h.2⟩
inductive Sh where
 |i (k:IntKind) (n:Int)
 |b (x:Bool)
 |str (l:List UInt8)
 |v (x:Value)
 |sl (st n:Nat) (get:Nat->List Sh)
 |os (e st n:Nat) (get:Nat->List Sh)
 |agg (l:List Sh)
 |AQ (l:List Sh)
 |C9 (t:Nat) (x:Sh)
 |fn (f:Nat) (caps:List Sh)
 |er (g T:Nat)
 |pt (l:List Sh)
 deriving Inhabited
inductive SV where
 |any
 |val (v:Value)
 |int (k:IntKind) (n:Int)
 |sym (k:IntKind) (n:Int)
 |bool (b:Bool)
 |test (b:Bool)
 |str (l:List UInt8)
 |ptr (id off:Nat)
 |gs (id:Nat)
 |gp (id st i off:Nat)
 |EZ|A8|Gy|DT|FY
 |fn (f:Nat) (cap:List SV)
 |agg (l:List SV)
 |AQ (l:List SV)
 |C9 (t:Nat) (x:SV)
 |mp (id:Nat)
 |sh (s:Sh)
 |GX (st n:Nat) (get:Nat->List Sh) (i off:Nat)
 |glob (g:Nat)
 |ev (id:Nat)
 |vw (id n:Nat)
 deriving Inhabited
inductive VT where
 |int|bool
 deriving DecidableEq,Inhabited
inductive SB where
 |box (cells:List SV) (elem:Nat)
 |row (cells:List SV) (elem st n:Nat)
 |own (elem st n:Nat) (get:Nat->List Sh)
 |fz (st n:Nat) (get:Nat->List Sh)
 |map (es:List (SV×SV))
 |Rw (l:List Sh)
 |Hf (elem st n:Nat) (get:Nat->List Sh) (more:List SV)
 |fm (k:IntKind) (M:Int->Option Value) (fs us:List (Int×Bool×SV)) (tag:Option (Nat×Int))
 |buf (e:Nat) (l:List UInt8)
 |pm (vt:VT) (M:Int×List UInt8->Option Value) (us:List ((Int×List UInt8)×Bool×SV))
inductive Ty where
 |int (k:IntKind) |bool|str|ptr (e:Nat) |fn|iface
 |map (k e:Nat)
 |slice (e:Nat)
 |struct (fs:List (Nat×Nat×Bool))
 |arr (n e:Nat)
 |other
structure J9 where
 ty:Ty
 size:Nat
 bytes:Nat
 zero:List SV
structure Prim where
 add:IntKind->Int->Int->Int
 sub:IntKind->Int->Int->Int
 mul:IntKind->Int->Int->Int
 neg:IntKind->Int->Int
 lt:Int->Int->Bool
 le:Int->Int->Bool
 eq:Int->Int->Bool
 max:Int->Int->Int
 min:Int->Int->Int
 inB:Int->Nat->Bool
 upTo:Int->Nat->Bool
 toN:Int->Nat
 AZ:Nat->Int
 addN:Nat->Nat->Nat
 JK:Nat->Nat->Nat
 ZN:Nat->Nat->Bool
 room:Nat->Nat->Bool
 len:List UInt8->Nat
 nt:Bool->Bool
 ite:Bool->Bool->Bool->Bool
 beq:Bool->Bool->Bool
 seq:List UInt8->List UInt8->Bool
 app:List UInt8->List UInt8->List UInt8
 snoc:(Nat->List Sh)->Nat->(Nat->List Sh)->Nat->List Sh
 upd:(Nat->List Sh)->Nat->Nat->List Sh->Nat->List Sh
 bin:BinOp->IntKind->Int->Int->Int
 conv:IntKind->Int->Int
 ins:(Nat->List Sh)->Nat->List Sh->Nat->List Sh
 kp:Int->List UInt8->Int->List UInt8->Bool
 isS:Option Value->Bool
 aso:Option Value->Int
 HY:Option Value->Bool
inductive BK where
 |int (a b:Int)
 |nat (a b:Nat)
 |bool (a b:Bool)
 |str (a b:List UInt8)
 |val (a b:Value)
 |sh (a b:Sh)
 |get (n:Nat) (g g':Nat->List Sh)
 |Mc (g g':Nat->List Sh)
 |mp (M M':Int->Option Value)
 |mg (M M':Int×List UInt8->Option Value)
def BK.ok:BK->Prop
 | .int a b=>a=b | .nat a b=>a=b | .bool a b=>a=b | .str a b=>a=b | .val a b=>a=b | .sh a b=>a=b | .get n g g'=>∀i,i<n->g i=g' i | .Mc g g'=>g=g' | .mp M M'=>M=M' | .mg M M'=>M=M'
def BK.all:List BK->Prop
 |[]=>True |e::l=>e.ok/\BK.all l
inductive Tree(α:Type)where
 |leaf (a:α)
 |node (b:Bool) (t f:Tree α)
 |need (b:Bool) (t:Tree α)
 |must (l:List BK) (t:Tree α)
 |both (t f:Tree α)
 |fail
def Tree.bind{α β:Type}:Tree α->(α->Tree β)->Tree β
 | .leaf a,k=>k a | .node b t f,k=>.node b (t.bind k) (f.bind k) | .need b t,k=>.need b (t.bind k) | .must l t,k=>.must l (t.bind k) | .both t f,k=>.both (t.bind k) (f.bind k) | .fail,_=>.fail
def Tree.All{α:Type}(φ:α->Prop):Tree α->Prop
 | .leaf a=>φ a | .node b t f=>(b=aC->t.All φ)/\(b=ay->f.All φ) | .need b t=>b=aC/\t.All φ | .must l t=>BK.all l/\t.All φ | .both t f=>t.All φ/\f.All φ | .fail=>False
def Tree.lone{α:Type}:Tree α->Bool
 | .both _ _=>ay | .node _ t f=>t.lone&&f.lone | .need _ t=>t.lone | .must _ t=>t.lone |_=>aC
structure Ctx where
 A:Prim
 tys:BT J9
 fns:BT Func
 spec:Nat->Option (List Sh->Tree Sh)
 eqs:List Nat
 VU:List Nat
 MQ:Nat->List Nat->Bool
 gls:List (Nat×Sh)
 live:BT Nat
 amL:Nat->Option (IntKind×List Int):=fun _=>aK
 lits:Bool:=ay
 ins:Nat->Option Nat:=fun _=>aK
 lend:Nat->Bool:=fun _=>ay
 grow:Nat->Option Nat:=fun _=>aK
 pks:List Nat:=[]
 aev:Nat->Option VT:=fun _=>aK
def Ak{α:Type}:List (Nat×α)->Nat->Option α
 |[],_=>aK |(j,x)::l,i=>bif j==i then ak x else Ak l i
def hset{α:Type}:List (Nat×α)->Nat->α->List (Nat×α)
 |[],_,_=>[] |(j,x)::l,i,y=>bif j==i then (j,y)::l else (j,x)::hset l i y
def hdel{α:Type}:List (Nat×α)->Nat->List (Nat×α)
 |[],_=>[] |(j,x)::l,i=>bif j==i then hdel l i else (j,x)::hdel l i
def hins{α:Type}:List (Nat×α)->Nat->α->List (Nat×α)
 |[],i,y=>[(i,y)] |(j,x)::l,i,y=>bif fV j i then (j,x)::hins l i y else (i,y)::(j,x)::l
structure Core where
 tm:List SV
 hp:List (Nat×SB)
 nx:Nat
 lim:Nat
 tc:List Nat
def SV.ofValue:Value->SV
 | .int k n=>.int k n | .bool b=>.bool b | .pointer aK=>.EZ | .slice aK 0 0=>.A8 | .nilFunc=>.Gy | .nilIface=>.DT | .map aK=>.FY | .string s=>.str s.data.toList | .chan aK=>.val (.chan aK) |_=>.any
def SV.lit:Value->SV
 | .int k n=>.int k n | .nilIface=>.DT | .bool b=>.bool b |x=>.val x
mutual
def XI:Sh->SV
 | .agg l=>.agg (Q8 l) | .AQ l=>.AQ (Q8 l) | .fn f l=>.fn f (Q8 l) | .i k n=>.sym k n | .b x=>.test x | .v x=>SV.lit x | .pt l=>.GX l.length 1 (fun _=>l) 0 0 |s=>.sh s
def Q8:List Sh->List SV
 |[]=>[] |x::r=>XI x::Q8 r
end
def Sh.Js:Sh->SV
 | .fn f l=>.fn f (Q8 l) | .i k n=>.sym k n | .b x=>.test x | .v x=>SV.lit x | .pt l=>.GX l.length 1 (fun _=>l) 0 0 |s=>.sh s
def BI(tm:List SV):Operand->SV
 | .tmp t=>tm.getD t .any | .const v=>.ofValue v | .global g=>.glob g | .func f=>.fn f []
def SV.cells:SV->List SV
 | .agg l=>l |x=>[x]
def setAt(l:List SV)(off:Nat):List SV->List SV
 |[]=>l |x::r=>setAt (l.set off x) (off+1) r
def Ty.isAgg:Ty->Bool
 | .struct _=>aC | .arr _ _=>aC |_=>ay
def pack(agg:Bool)(l:List SV):Option SV:=
 bif agg then ak (.agg l) else match l with
  |[x]=>ak x |_=>aK
def seg(l:List SV)(off n:Nat):Option (List SV):=
 bif iq (off+n) l.length then ak ((l.drop off).take n) else aK
def SV.ZO:SV->Bool
 | .any=>ay | .ev _=>ay | .sh (.agg _)=>ay |_=>aC
def Qh(place:Nat->Option (Nat×Nat))(ev:Operand->SV):List SV->List (Nat×Operand)->Option (List SV)
 |z,[]=>ak z |z,(i,x)::r=>match place i with
  |some (off,size)=>bif (ev x).ZO&&(ev x).cells.length==size&&iq (off+size) z.length then Qh place ev (setAt z off (ev x).cells) r else aK |none=>aK
def rep(l:List SV):Nat->List SV
 |0=>[] |n+1=>l++rep l n
def chunks(st:Nat):Nat->List Sh->List (List Sh)
 |0,_=>[] |n+1,l=>l.take st::chunks st n (l.drop st)
def Bh(ll:List (List Sh))(i:Nat):List Sh:=ll.getD i []
def SV.one:SV->Bool
 | .any| .agg _| .AQ _| .ev _=>ay | .sh (.agg _) | .sh (.AQ _)=>ay |_=>aC
def FP:List SV->Bool
 |[]=>aC |x::r=>x.one&&FP r
mutual
def D6(hp:List (Nat×SB)):SV->Option Sh
 | .int k n=>ak (.i k n) | .sym k n=>ak (.i k n) | .bool x=>ak (.b x) | .test x=>ak (.b x) | .str l=>ak (.str l) | .val v=>ak (.v v) | .EZ=>ak (.v (.pointer aK)) | .Gy=>ak (.v .nilFunc) | .DT=>ak (.v .nilIface) | .A8=>ak (.sl 0 0 fun _=>[]) | .sh s=>ak s | .agg l=>(Iw hp l).map .agg | .AQ l=>(Iw hp l).map .AQ | .fn f l=>(Iw hp l).map (.fn f) | .C9 t x=>(D6 hp x).map (.C9 t) | .gs id=>match Ak hp id with
  |some (.fz st m g)=>ak (.sl st m g) |_=>aK
 | .ptr id off=>match Ak hp id with
  |some (.Rw l)=>bif off==0 then ak (.pt l) else aK |_=>aK
 | .GX st _ g i off=>bif off==0&&(g i).length==st then ak (.pt (g i)) else aK |_=>aK
def Iw(hp:List (Nat×SB)):List SV->Option (List Sh)
 |[]=>ak [] |x::r=>match D6 hp x,Iw hp r with
  |some s,ak l=>ak (s::l) |_,_=>aK
end
mutual
def ah9:SV->List Nat
 | .gs id=>[id] | .ptr id _=>[id] | .agg l=>JL l | .AQ l=>JL l | .fn _ l=>JL l | .C9 _ x=>ah9 x |_=>[]
def JL:List SV->List Nat
 |[]=>[] |x::r=>ah9 x++JL r
end
def FB:Nat->List (Nat×SB)->List Nat->Option (List (Nat×SB))
 |_,hp,[]=>ak hp |0,_,_=>aK |m+1,hp,id::r=>match Ak hp id with
  |some (.fz _ _ _)=>FB m hp r |some (.Rw _)=>FB m hp r |some (.own _ st n g)=>FB m (hset hp id (.fz st n g)) r |some (.row cells _ st n)=>match Iw hp cells with
   |some l=>bif FP cells then FB m (hset hp id (.fz st n (Bh (chunks st n l)))) r else aK |none=>FB m hp (JL cells++id::r)
  |some (.box cells _)=>match Iw hp cells with
   |some l=>bif FP cells then FB m (hset hp id (.Rw l)) r else aK |none=>FB m hp (JL cells++id::r)
  |_=>aK
def freeze(hp:List (Nat×SB))(ids:List Nat):Option (List (Nat×SB)):=FB 40 hp ids
mutual
def Dc:Sh->Nat->SV×List (Nat×SB)×Nat
 | .os e st n g,b=>(.gs b,[(b,.own e st n g)],b+1) | .agg l,b=>let r:=EC l b;(.agg r.1,r.2) | .AQ l,b=>let r:=EC l b;(.AQ r.1,r.2) | .i k n,b=>(.sym k n,[],b) | .b x,b=>(.test x,[],b) | .v x,b=>(SV.lit x,[],b) | .fn f l,b=>(.fn f (Q8 l),[],b) | .pt l,b=>(.GX l.length 1 (fun _=>l) 0 0,[],b) |s,b=>(.sh s,[],b)
def EC:List Sh->Nat->List SV×List (Nat×SB)×Nat
 |[],b=>([],[],b) |x::r,b=>let p:=Dc x b;let q:=EC r p.2.2;(p.1::q.1,p.2.1++q.2.1,q.2.2)
end
def Dx(hp:List (Nat×SB)):List (Nat×SB)->List (Nat×SB)
 |[]=>hp |(i,b)::r=>Dx (hins hp i b) r
def VW(A:Prim)(op:BinOp)(k:IntKind)(x y:Int):Option Int:=
 match op with
 | .add=>ak (A.add k x y) | .sub=>ak (A.sub k x y) | .mul=>ak (A.mul k x y) |_=>aK
def aew(op:BinOp)(k:IntKind)(x y:Int):Option Int:=
 match op with
 | .add=>ak (k.wrap (x+y)) | .sub=>ak (k.wrap (x - y)) | .mul=>ak (k.wrap (x*y)) |_=>aK
def afB(A:Prim)(op:BinOp)(x y:Int):Option Bool:=
 match op with
 | .eql=>ak (A.eq x y) | .neq=>ak (A.nt (A.eq x y)) | .lss=>ak (A.lt x y) | .leq=>ak (A.le x y) | .gtr=>ak (A.lt y x) | .geq=>ak (A.le y x) |_=>aK
def cmpL(op:BinOp)(x y:Int):Option Bool:=
 match op with
 | .eql=>ak (x==y) | .neq=>ak (x != y) | .lss=>ak (decide (x<y)) | .leq=>ak (decide (x<=y)) | .gtr=>ak (decide (y<x)) | .geq=>ak (decide (y<=x)) |_=>aK
def Ctx.ty(C:Ctx)(t:Nat):Option J9:=C.tys.get t
def orO{α:Type}:Option α->Option α->Option α
 |some a,_=>ak a |none,b=>b
def D7(op:BinOp)(nil:Bool):Option SV:=
 match op with
 | .eql=>ak (.bool nil) | .neq=>ak (.bool !nil) |_=>aK
def eqB(A:Prim)(op:BinOp)(x y:Bool):Option SV:=
 match op with
 | .eql=>ak (.test (A.beq x y)) | .neq=>ak (.test (A.nt (A.beq x y))) |_=>aK
def eqS(A:Prim)(op:BinOp)(x y:List UInt8):Option SV:=
 match op with
 | .eql=>ak (.test (A.seq x y)) | .neq=>ak (.test (A.nt (A.seq x y))) |_=>aK
inductive Cq where
 |i (n:Int)
 |b (x:Bool)
 deriving DecidableEq
def Cq.v:Cq->Value
 | .i n=>.int .i64 n | .b x=>.bool x
def OE:List SV->Option (List Cq)
 |[]=>ak [] | .int .i64 n::r=>(OE r).map fun l=>.i n::l | .sym .i64 n::r=>(OE r).map fun l=>.i n::l | .bool x::r=>(OE r).map fun l=>.b x::l | .test x::r=>(OE r).map fun l=>.b x::l |_=>aK
def Dl:List Cq->List SV->Bool
 |[],[]=>aC | .i _::r,.int .i64 _::z=>Dl r z | .b _::r,.bool _::z=>Dl r z |_,_=>ay
def Qi(A:Prim):List Cq->List Cq->Bool
 | .i x::xs,.i y::ys=>A.ite (A.eq x y) (Qi A xs ys) ay | .b x::xs,.b y::ys=>A.ite (A.beq x y) (Qi A xs ys) ay |_,_=>aC
def adk(gls:List (Nat×Sh))(g T:Nat):Bool:=match Ak gls g with
 |some (.er g' T')=>g'==g&&T'==T |_=>ay
def amN(gls:List (Nat×Sh))(op:BinOp):SV->SV->Option SV
 | .fn _ _,.Gy=>D7 op ay | .Gy,.Gy=>D7 op aC | .ptr _ _,.EZ=>D7 op ay | .GX _ _ _ _ _,.EZ=>D7 op ay | .val (.pointer (ak _)),.EZ=>D7 op ay | .EZ,.EZ=>D7 op aC | .C9 _ _,.DT=>D7 op ay | .sh (.C9 _ _),.DT=>D7 op ay | .sh (.er _ _),.DT=>D7 op ay | .DT,.DT=>D7 op aC | .sh (.er g T),.sh (.er g' T')=>bif g==g'&&T==T' then D7 op aC else bif adk gls g T&&adk gls g' T'&&T==T' && !(g==g') then D7 op ay else aK | .DT,.sh (.er _ _)=>D7 op ay | .C9 t _,.sh (.er _ T)=>bif t==T then aK else D7 op ay | .sh (.C9 t _),.sh (.er _ T)=>bif t==T then aK else D7 op ay |_,_=>aK
def FH:Ty->SV->Bool
 | .fn,.fn _ _=>aC | .fn,.Gy=>aC | .ptr _,.ptr _ _=>aC | .ptr _,.GX _ _ _ _ _=>aC | .ptr _,.val (.pointer (ak _))=>aC | .ptr _,.EZ=>aC | .iface,.C9 _ _=>aC | .iface,.sh (.C9 _ _)=>aC | .iface,.sh (.er _ _)=>aC | .iface,.DT=>aC |_,_=>ay
def isConst:Operand->Bool
 | .const _=>aC |_=>ay
def amO(A:Prim)(op:BinOp)(x y:SV):Option SV:=
 match x,y with
 | .bool a,.bool b=>match op with| .eql=>ak (.bool (a==b)) | .neq=>ak (.bool (a != b)) |_=>aK
 | .bool a,.test b=>eqB A op a b | .test a,.bool b=>eqB A op a b | .test a,.test b=>eqB A op a b |_,_=>aK
def VX:SV->Bool
 | .DT=>aC |_=>ay
def asq(VU:List Nat):SV->Bool
 | .sh (.er _ T)=>VU.contains T |_=>aC
def aj8(VU:List Nat)(gls:List (Nat×Sh))(op:BinOp)(ty:Ty)(lit:Bool)(x y:SV):Option SV:=
 bif asq VU x&&FH ty x&&FH ty y&&(lit || !(VX x&&VX y)) then amN gls op x y else aK
def amP(C:Ctx)(op:BinOp)(t:Nat)(lit:Bool)(x y:SV):Option SV:=
 let A:=C.A
 match x,y with
 | .int k a,.int l b=>bif k==l then orO ((aew op k a b).map (.int k)) ((cmpL op a b).map .bool) else aK | .int k a,.sym l b=>bif k==l then orO ((VW A op k a b).map (.sym k)) ((afB A op a b).map .test) else aK | .sym k a,.int l b=>bif k==l then orO ((VW A op k a b).map (.sym k)) ((afB A op a b).map .test) else aK | .sym k a,.sym l b=>bif k==l then orO ((VW A op k a b).map (.sym k)) ((afB A op a b).map .test) else aK | .str a,.str b=>match op with| .eql=>ak (.bool (a==b)) | .neq=>ak (.bool (a != b)) |_=>aK
 | .str a,.sh (.str b)=>eqS A op a b | .sh (.str a),.str b=>eqS A op a b | .sh (.str a),.sh (.str b)=>eqS A op a b | .agg a,.agg b=>match OE a,OE b,C.ty t with
  |some a,ak b,ak i=>bif C.eqs.contains t&&Dl a i.zero&&Dl b i.zero then match op with
   | .eql=>ak (.test (Qi A a b)) | .neq=>ak (.test (A.nt (Qi A a b))) |_=>aK
   else aK
  |_,_,_=>aK
 |x,y=>match C.ty t with
  |none=>aK |some i=>match i.ty with
   | .bool=>amO A op x y |ty=>aj8 C.VU C.gls op ty lit x y
def amQ(hp:List (Nat×SB)):SV->Option Nat
 | .gs id=>match Ak hp id with
  |some (.row _ _ _ n)=>ak n |some (.own _ _ n _)=>ak n |some (.fz _ n _)=>ak n |_=>aK
 | .sh (.sl _ n _)=>ak n |_=>aK
def XJ:Operand->Bool
 | .const (.slice aK 0 0)=>aC |_=>ay
def adl(C:Ctx)(c:Core)(op:BinOp)(t:Nat)(y:Operand)(x:SV):Option (Tree (SV×Core)):=
 match C.ty t with
 |some i=>match i.ty with
  | .slice _=>bif XJ y then
    match D7 op aC,D7 op ay with
    |some a,ak b=>match x with
     | .A8=>ak (.leaf (a,c)) |x=>match amQ c.hp x with
      |some n=>ak (.node (C.A.ZN n 0) (.both (.leaf (a,c)) (.leaf (b,c))) (.leaf (b,c))) |none=>aK
    |_,_=>aK
   else aK
  |_=>aK
 |none=>aK
def textOf:SV->Option (List UInt8)
 | .str l=>ak l | .sh (.str l)=>ak l |_=>aK
def VY(op:BinOp)(k:IntKind)(a b:Int):Int:=
 match op with
 | .and=>k.wrap (gG k.bits a&&&gG k.bits b).toNat | .or=>k.wrap (gG k.bits a|||gG k.bits b).toNat | .xor=>k.wrap (gG k.bits a^^^gG k.bits b).toNat | .andNot=>k.wrap (gG k.bits a&&&~~~ gG k.bits b).toNat | .shl=>k.wrap (a*2^(min b.toNat k.bits)) | .shr=>a.fdiv (2^(min b.toNat k.bits)) | .quo=>k.wrap (a.tdiv b) | .rem=>a.tmod b |_=>0
def numOf:SV->Option (IntKind×Int×Bool)
 | .int k n=>ak (k,n,aC) | .sym k n=>ak (k,n,ay) |_=>aK
def Nj(A:Prim)(op:BinOp)(k:IntKind)(a b:Int)(la lb:Bool)(c:Core):Tree (SV×Core):=
 .leaf (bif la&&lb then .int k (VY op k a b) else .sym k (A.bin op k a b),c)
def amR(C:Ctx)(c:Core)(op:BinOp)(x y:SV):Option (Tree (SV×Core)):=
 match op,numOf x,numOf y with
 | .shl,ak (k,a,la),ak (_,b,lb)=>ak (bif lb then bif decide (0<=b) then Nj C.A .shl k a b la lb c else .fail else .need (C.A.le 0 b) (Nj C.A .shl k a b la lb c)) | .shr,ak (k,a,la),ak (_,b,lb)=>ak (bif lb then bif decide (0<=b) then Nj C.A .shr k a b la lb c else .fail else .need (C.A.le 0 b) (Nj C.A .shr k a b la lb c)) | .quo,ak (k,a,la),ak (l,b,lb)=>bif k==l then ak (bif lb then bif b==0 then .fail else Nj C.A .quo k a b la lb c else .need (C.A.nt (C.A.eq b 0)) (Nj C.A .quo k a b la lb c)) else aK | .rem,ak (k,a,la),ak (l,b,lb)=>bif k==l then ak (bif lb then bif b==0 then .fail else Nj C.A .rem k a b la lb c else .need (C.A.nt (C.A.eq b 0)) (Nj C.A .rem k a b la lb c)) else aK | .and,ak (k,a,la),ak (l,b,lb)=>bif k==l then ak (Nj C.A .and k a b la lb c) else aK | .or,ak (k,a,la),ak (l,b,lb)=>bif k==l then ak (Nj C.A .or k a b la lb c) else aK | .xor,ak (k,a,la),ak (l,b,lb)=>bif k==l then ak (Nj C.A .xor k a b la lb c) else aK | .andNot,ak (k,a,la),ak (l,b,lb)=>bif k==l then ak (Nj C.A .andNot k a b la lb c) else aK |_,_,_=>aK
def aj9(C:Ctx)(c:Core)(op:BinOp)(x y:SV):Option (Tree (SV×Core)):=
 match op with
 | .add=>match textOf x,textOf y with
  |some a,ak b=>ak (.need (C.A.ZN (C.A.addN (C.A.len a) (C.A.len b)) 9223372036854775807) (.leaf (.sh (.str (C.A.app a b)),c))) |_,_=>aK
 |_=>aK
def aay(C:Ctx)(c:Core)(op:BinOp)(t:Nat)(x y:Operand)(lit:Bool):Tree (SV×Core):=
 match amR C c op (BI c.tm x) (BI c.tm y) with
 |some r=>r |none=>match aj9 C c op (BI c.tm x) (BI c.tm y) with
 |some r=>r |none=>match adl C c op t y (BI c.tm x) with
 |some r=>r |none=>match amP C op t lit (BI c.tm x) (BI c.tm y) with
  |some v=>.leaf (v,c) |none=>.fail
def notS(A:Prim):SV->Option SV
 | .bool b=>ak (.bool !b) | .test b=>ak (.test (A.nt b)) |_=>aK
def negS(A:Prim):SV->Option SV
 | .int k n=>ak (.int k (k.wrap (0 - n))) | .sym k n=>ak (.sym k (A.neg k n)) |_=>aK
def Z9:SV->Option Bool
 | .bool x=>ak x | .test x=>ak x |_=>aK
def aia(A:Prim)(c a b:SV):Option SV:=
 match c with
 | .bool aC=>ak a | .bool ay=>ak b | .test c=>match Z9 a,Z9 b with
  |some x,ak y=>ak (.test (A.ite c x y)) |_,_=>aK
 |_=>aK
def akb(A:Prim)(hp:List (Nat×SB)):SV->Option SV
 | .gs id=>match Ak hp id with
  |some (.row _ _ _ n)=>ak (.int .i64 n) |some (.own _ _ n _)=>ak (.sym .i64 (A.AZ n)) |some (.Hf _ st n _ more)=>ak (.sym .i64 (A.AZ (A.addN n (Nat.div more.length st)))) |some (.fz _ n _)=>ak (.sym .i64 (A.AZ n)) |some (.buf _ l)=>ak (.sym .i64 (A.AZ (A.len l))) |_=>aK
 | .vw _ n=>ak (.sym .i64 (A.AZ n)) | .sh (.sl _ n _)=>ak (.sym .i64 (A.AZ n)) | .A8=>ak (.int .i64 0) | .str l=>ak (.int .i64 l.length) | .sh (.str l)=>ak (.sym .i64 (A.AZ (A.len l))) |_=>aK
def Hu:SV->Option Int
 | .int _ n=>ak n | .sym _ n=>ak n |_=>aK
def ret(c:Core)(v:SV):Tree (SV×Core):=.leaf (v,c)
def alloc(c:Core)(b:SB)(v:SV):Tree (SV×Core):=
 bif fV c.nx c.lim then ret {c with hp:=hins c.hp c.nx b,nx:=c.nx+1} v else .fail
def Md(c:Core):Option SV->Tree (SV×Core)
 |some v=>.leaf (v,c) |none=>.fail
def UN(C:Ctx)(c:Core)(e:Nat):Tree (SV×Core):=
 match C.ty e with
 |some i=>alloc c (.box i.zero e) (.ptr c.nx 0) |none=>.fail
def UO(C:Ctx)(c:Core)(t:Nat)(parts:List (Nat×Operand)):Tree (SV×Core):=
 match C.ty t with
 |some i=>match i.ty with
  | .struct fs=>match Qh (fun j=>fs[j]?.map fun f=>(f.1,f.2.1)) (BI c.tm) i.zero parts with
   |some l=>ret c (.agg l) |none=>.fail
  |_=>.fail
 |none=>.fail
def Lu(C:Ctx)(c:Core)(t n:Nat)(parts:List (Nat×Operand)):Tree (SV×Core):=
 match C.ty t with
 |some i=>match i.ty with
  | .slice e=>match C.ty e with
   |some j=>bif iq (n*j.size) 16777216&&fV 0 j.size then
     match Qh (fun k=>ak (k*j.size,j.size)) (BI c.tm) (rep j.zero n) parts with
     |some l=>alloc c (.row l e j.size n) (.gs c.nx) |none=>.fail
    else .fail
   |none=>.fail
  |_=>.fail
 |none=>.fail
def aex(C:Ctx)(c:Core)(agg:Bool)(size:Nat):SV->Option SV
 | .ptr id off=>match Ak c.hp id with
  |some (.box cs _)=>(seg cs off size).bind (pack agg) |some (.row cs _ _ _)=>(seg cs off size).bind (pack agg) |some (.Rw l)=>(seg (l.map Sh.Js) off size).bind (pack agg) |_=>aK
 | .gp id st i off=>match Ak c.hp id with
  |some (.own _ st' _ g)=>bif st==st' then (seg ((g i).map Sh.Js) off size).bind (pack agg) else aK |some (.fz st' _ g)=>bif st==st' then (seg ((g i).map Sh.Js) off size).bind (pack agg) else aK |_=>aK
 | .GX _ _ g i off=>(seg ((g i).map Sh.Js) off size).bind (pack agg) | .glob g=>bif agg then aK else (Ak C.gls g).bind fun s=>match s with
  | .AQ _=>aK |s=>ak s.Js
 |_=>aK
def XK(C:Ctx)(c:Core)(t:Nat)(x:SV):Tree (SV×Core):=
 match C.ty t with
 |some i=>Md c (aex C c i.ty.isAgg i.size x) |none=>.fail
def UQ(C:Ctx)(c:Core)(t:Nat)(x v:SV):Tree (SV×Core):=
 match C.ty t with
 |some i=>bif v.cells.length==i.size&&FP v.cells then
   match x with
   | .ptr id off=>match Ak c.hp id with
    |some (.box cs e)=>bif iq (off+i.size) cs.length then ret {c with hp:=hset c.hp id (.box (setAt cs off v.cells) e),tc:=id::c.tc} .any else .fail
    |some (.row cs e st n)=>bif iq (off+i.size) cs.length then ret {c with hp:=hset c.hp id (.row (setAt cs off v.cells) e st n),tc:=id::c.tc} .any else .fail
    |_=>.fail
   | .gp id st j off=>match Ak c.hp id with
    |some (.own e st' n g)=>bif st==st'&&iq (off+i.size) st then match Iw c.hp v.cells with
      |some l=>ret {c with hp:=hset c.hp id (.own e st n (C.A.upd g j off l)),tc:=id::c.tc} .any
      |none=>.fail
     else .fail
    |_=>.fail
   |_=>.fail
  else .fail
 |none=>.fail
def aaz(c:Core):SV->Tree (SV×Core)
 | .ptr i o=>ret c (.ptr i o) | .gp i st j o=>ret c (.gp i st j o) | .GX st n g i o=>ret c (.GX st n g i o) | .fn f l=>ret c (.fn f l) |_=>.fail
def Nk(C:Ctx)(c:Core)(t f:Nat)(x:SV):Tree (SV×Core):=
 match C.ty t with
 |some i=>match i.ty with
  | .struct fs=>match fs[f]? with
   |some (off,size,_)=>bif fV 0 size then match x with
    | .ptr id o=>ret c (.ptr id (o+off)) | .gp id st j o=>ret c (.gp id st j (o+off)) | .GX st n g j o=>ret c (.GX st n g j (o+off)) |_=>.fail
    else .fail
   |none=>.fail
  |_=>.fail
 |none=>.fail
def UR(C:Ctx)(c:Core)(t f:Nat)(x:SV):Tree (SV×Core):=
 match C.ty t with
 |some i=>match i.ty,x with
  | .struct fs,.agg l=>match fs[f]? with
   |some (off,size,agg)=>Md c ((seg l off size).bind (pack agg)) |none=>.fail
  |_,_=>.fail
 |none=>.fail
def aib(A:Prim)(n:Int)(f:Nat->Tree (SV×Core))(m:Nat):Nat->Tree (SV×Core)
 |0=>.fail |k+1=>.node (A.eq n (ofNat (m - (k+1)))) (f (m - (k+1))) (aib A n f m k)
def akc(A:Prim)(n:Int):SV->Nat
 | .int _ k=>k.toNat |_=>A.toN n
def Nl(C:Ctx)(c:Core)(t:Nat)(x i:SV):Tree (SV×Core):=
 match C.ty t with
 |some ti=>match ti.ty with
  | .slice e=>match C.ty e with
   |some te=>match x,Hu i with
    | .gs id,ak n=>match Ak c.hp id with
     |some (.row _ _ st m)=>match i with
      | .int _ n=>bif decide (0<=n)&&decide (n<m)&&st==te.size then ret c (.ptr id (n.toNat*st)) else .fail |_=>.fail
     |some (.own _ st m _)=>bif st==te.size then .need (C.A.inB n m) (ret c (.gp id st (akc C.A n i) 0)) else .fail |some (.fz st m g)=>bif st==te.size then .need (C.A.inB n m) (ret c (.GX st m g (akc C.A n i) 0)) else .fail |_=>.fail
    | .sh (.sl st m g),ak n=>bif st==te.size then .need (C.A.inB n m) (ret c (.GX st m g (akc C.A n i) 0)) else .fail |_,_=>.fail
   |none=>.fail
  | .arr m e=>match C.ty e with
   |some te=>match x,i with
    | .glob g,.int _ n=>match Ak C.gls g with
     |some (.AQ l)=>bif decide (0<=n)&&decide (n<m)&&l.length==m*te.size then ret c (.GX te.size m (Bh (chunks te.size m l)) n.toNat 0) else .fail |_=>.fail
    | .glob g,.sym _ n=>match Ak C.gls g with
     |some (.AQ l)=>bif l.length==m*te.size then .need (C.A.inB n m) (aib C.A n (fun j=>ret c (.GX te.size m (Bh (chunks te.size m l)) j 0)) m m) else .fail |_=>.fail
    |_,_=>.fail
   |none=>.fail
  |_=>.fail
 |none=>.fail
def Qj(c:Core)(x:SV)(i:Nat):Tree (SV×Core):=
 match x with
 | .AQ l=>Md c l[i]? |_=>.fail
def OG(A:Prim):SV->Option Nat
 | .int _ k=>ak k.toNat | .sym _ n=>ak (A.toN n) |_=>aK
def akd(hp:List (Nat×SB))(st:Nat):SV->Option (Nat×Nat)
 | .gs id=>match Ak hp id with
  |some (.own _ st' n _)=>bif st==st' then ak (id,n) else aK |_=>aK
 |_=>aK
def UU(C:Ctx)(c:Core)(t:Nat)(x:SV)(lo hi:Option SV):Tree (SV×Core):=
 match C.ty t with
 |some ti=>match ti.ty with
  | .slice e=>match C.ty e with
   |some te=>
    match akd c.hp te.size x,lo,hi with
    |some (id,n),aK,ak h=>match Hu h,OG C.A h with
     |some hi,ak h=>.need (C.A.upTo hi n) (ret c (.vw id h)) |_,_=>.fail
    |_,_,_=>
    match (match x with| .gs id=>freeze c.hp [id] |_=>ak c.hp) with
    |none=>.fail |some hp=>match D6 hp x with
     |some (.sl st n g)=>bif st==te.size then
       match lo,hi with
       |none,aK=>ret {c with hp} (.sh (.sl st n g))
       |none,ak h=>match Hu h,OG C.A h with
        |some hi,ak h=>.need (C.A.upTo hi n) (ret {c with hp} (.sh (.sl st h g)))
        |_,_=>.fail
       |some l,aK=>match Hu l,OG C.A l with
        |some li,ak l=>.need (C.A.upTo li n) (ret {c with hp} (.sh (.sl st (C.A.JK n l) fun j=>g (C.A.addN l j))))
        |_,_=>.fail
       |some l,ak h=>match Hu l,OG C.A l,Hu h,OG C.A h with
        |some li,ak l,ak hi,ak h=>.need (C.A.upTo hi n) (.need (C.A.upTo li h) (ret {c with hp} (.sh (.sl st (C.A.JK h l) fun j=>g (C.A.addN l j)))))
        |_,_,_,_=>.fail
      else .fail
     |_=>.fail
   |none=>.fail
  |_=>.fail
 |none=>.fail
def isZero:SV->Bool
 | .int _ n=>n==0 |_=>ay
def amS(k:SV)(e st:Nat):SB:=
 match k with
 | .int _ _=>.row [] e st 0 |_=>.own e st 0 fun _=>[]
def Np(C:Ctx)(c:Core)(t:Nat)(l k:SV)(same:Bool):Tree (SV×Core):=
 match C.ty t with
 |some ti=>match ti.ty with
  | .slice e=>match C.ty e with
   |some te=>match Hu k,OG C.A k with
    |some ki,ak kn=>
     bif isZero l then .need (C.A.le 0 ki) (.need (C.A.room kn te.bytes) (alloc c (amS k e te.size) (.gs c.nx)))
     else bif same&&FP te.zero&&fV 0 te.size then match Iw [] te.zero with
      |some z=>.need (C.A.le 0 ki) (.need (C.A.room kn te.bytes) (alloc c (.own e te.size kn fun _=>z) (.gs c.nx))) |none=>.fail
     else .fail
    |_,_=>.fail
   |none=>.fail
  |_=>.fail
 |none=>.fail
def xOf(hp:List (Nat×SB))(e st:Nat):SV->Option (Nat×(Nat->List Sh)×List SV)
 | .gs id=>match Ak hp id with
  |some (.own e' st' n g)=>bif e==e'&&st==st' then ak (n,g,[]) else aK |some (.Hf e' st' n g more)=>bif e==e'&&st==st' then ak (n,g,more) else aK |_=>aK
 |_=>aK
def rowOf(hp:List (Nat×SB))(st:Nat):SV->Option (List SV×Nat)
 | .A8=>ak ([],0) | .gs id=>match Ak hp id with
  |some (.row cells _ st' n)=>bif st==st' then ak (cells,n) else aK |_=>aK
 |_=>aK
def Nq(hp:List (Nat×SB))(st:Nat):SV->Option (Nat×(Nat->List Sh))
 | .A8=>ak (0,fun _=>[]) | .gs id=>match Ak hp id with
  |some (.row cells _ st' n)=>bif st==st'&&FP cells then (Iw hp cells).map fun l=>(n,Bh (chunks st n l)) else aK |some (.own _ st' n g)=>bif st==st' then ak (n,g) else aK |some (.fz st' n g)=>bif st==st' then ak (n,g) else aK |_=>aK
 | .sh (.sl st' n g)=>bif st==st' then ak (n,g) else bif st'==0&&n==0 then ak (0,fun _=>[]) else aK | .vw id n=>match Ak hp id with
  |some (.own _ st' _ g)=>bif st==st' then ak (n,g) else aK |_=>aK
 |_=>aK
def Qk:SV->Option Nat
 | .gs id=>ak id |_=>aK
def Nr(hp:List (Nat×SB))(e:Nat):SV->Bool
 | .A8=>aC | .gs id=>match Ak hp id with
  |some (.row _ e' _ _)=>e==e' |some (.own e' _ _ _)=>e==e' |some (.Hf e' _ _ _ _)=>e==e' |some (.buf e' _)=>e==e' |_=>ay
 |_=>ay
def Oc(x y:SV):Bool:=
 match Qk x,Qk y with
 |some i,ak j=>i==j |_,_=>ay
def CW(c:Core)(s:SV):Core:=
 match Qk s with
 |some id=>{c with hp:=hdel c.hp id,tc:=id::c.tc}
 |none=>c
def aaA:List SV->Option (List UInt8)
 |[]=>ak [] | .int .u8 n::r=>bif decide (0<=n)&&decide (n<256) then (aaA r).map fun l=>UInt8.ofNat n.toNat::l else aK |_=>aK
def RG(hp:List (Nat×SB))(e:Nat):SV->Option (List UInt8)
 | .A8=>ak [] | .gs id=>match Ak hp id with
  |some (.buf e' l)=>bif e==e' then ak l else aK |some (.row cells e' st n)=>bif e==e'&&st==1&&n==cells.length then aaA cells else aK |_=>aK
 |_=>aK
def JM(C:Ctx)(e:Nat):Bool:=
 match C.ty e with
 |some te=>match te.ty,te.zero with
  | .int .u8,[.int .u8 n]=>te.size==1&&te.bytes==1&&n==0 |_,_=>ay
 |none=>ay
def Ql(C:Ctx)(c:Core)(t u:Nat)(s x:SV):Tree (SV×Core):=
 match C.ty t,C.ty u with
 |some ti,ak ui=>match ti.ty,ui.ty with
  | .slice e,.str=>match RG c.hp e s,textOf x with
   |some l,ak m=>bif JM C e&&Nr c.hp e s then
     .need (C.A.room (C.A.addN (C.A.len l) (C.A.len m)) 1) (alloc (CW c s) (.buf e (C.A.app l m)) (.gs c.nx))
    else .fail
   |_,_=>.fail
  |_,_=>.fail
 |_,_=>.fail
def Qm(C:Ctx)(c:Core)(t:Nat)(s x:SV):Option (Tree (SV×Core)):=
 match s with
 | .gs id=>match Ak c.hp id with
  |some (.buf e l)=>match C.ty t,RG c.hp e x with
   |some ti,ak m=>match ti.ty with
    | .slice e'=>bif e==e'&&JM C e && !Oc s x then
      ak (.need (C.A.room (C.A.addN (C.A.len l) (C.A.len m)) 1) (alloc (CW c s) (.buf e (C.A.app l m)) (.gs c.nx)))
     else aK
    |_=>aK
   |_,_=>aK
  |_=>aK
 |_=>aK
def XL(C:Ctx)(c:Core)(t u:Nat)(x:SV):Tree (SV×Core):=
 match C.ty t,C.ty u with
 |some ti,ak ui=>match ti.ty,ui.ty with
  | .int _,.int k=>match x with
   | .int _ n=>ret c (.int k (k.wrap n)) | .sym _ n=>ret c (.sym k (C.A.conv k n)) |_=>.fail
  | .str,.slice e=>match textOf x with
   |some l=>bif JM C e then .need (C.A.room (C.A.len l) 1) (alloc c (.buf e l) (.gs c.nx)) else .fail |none=>.fail
  | .slice e,.str=>match RG c.hp e x with
   |some l=>bif JM C e then ret c (.sh (.str l)) else .fail |none=>.fail
  |_,_=>.fail
 |_,_=>.fail
def RH(C:Ctx)(c:Core)(t:Nat)(s x:SV):Tree (SV×Core):=
 match C.ty t with
 |some ti=>match ti.ty with
  | .slice e=>match C.ty e with
   |some te=>
    bif Nr c.hp e s && !Oc s x&&fV 0 te.size then
     match rowOf c.hp te.size s,rowOf c.hp te.size x with
     |some (a,n),ak (b,m)=>
      bif FP b&&iq ((n+m)*te.bytes) 140737488355328&&iq (n+m) 1073741824 then alloc (CW c s) (.row (a++b) e te.size (n+m)) (.gs c.nx) else .fail
     |_,_=>match Nq c.hp te.size s,Nq c.hp te.size x with
      |some (n,g),ak (m,h)=>.need (C.A.room (C.A.addN n m) te.bytes) (alloc (CW c s) (.own e te.size (C.A.addN n m) (C.A.snoc g n h)) (.gs c.nx)) |_,_=>match xOf c.hp e te.size s,rowOf c.hp te.size x with
       |some (n,g,more),ak (b,_)=>bif FP b then .need (C.A.room (C.A.addN n (Nat.div (more++b).length te.size)) te.bytes) (alloc (CW c s) (.Hf e te.size n g (more++b)) (.gs c.nx)) else .fail |_,_=>.fail
    else .fail
   |none=>.fail
  |_=>.fail
 |none=>.fail
def I7:SV->Option (IntKind×Int×Bool)
 | .int k n=>ak (k,n,aC) | .sym k n=>ak (k,n,ay) |_=>aK
def RI(kk:IntKind)(k:Int):List (SV×SV)->Option (Option SV)
 |[]=>ak aK |(.int j m,v)::r=>bif j==kk then bif m==k then ak (ak v) else RI kk k r else aK |_=>aK
def VZ(A:Prim)(kk:IntKind)(k:Int)(z:SV)(f:SV->Bool->Tree (SV×Core)):List (SV×SV)->Tree (SV×Core)
 |[]=>f z ay |(.int j m,v)::r=>bif j==kk then .node (A.eq k m) (f v aC) (VZ A kk k z f r) else .fail |_=>.fail
def V3(k:IntKind)(n:Int)(v:SV):List (SV×SV)->Option (List (SV×SV))
 |[]=>ak [(.int k n,v)] |(.int j m,u)::r=>bif j==k then bif m==n then ak ((.int k n,v)::r) else (V3 k n v r).map fun r=>(.int j m,u)::r else aK |_=>aK
def afD(l:List Int):List (Int×Bool×SV):=l.map fun n=>(n,ay,.any)
def Qn(C:Ctx)(c:Core)(t:Nat):Tree (SV×Core):=
 match C.amL t with
 |some (k,l)=>alloc c (.fm k (fun _=>aK) (afD l) [] aK) (.mp c.nx) |none=>match C.aev t with
  |some vt=>alloc c (.pm vt (fun _=>aK) []) (.mp c.nx) |none=>alloc c (.map []) (.mp c.nx)
def findF(A:Prim)(k:Int)(f:Bool->SV->Tree (SV×Core)):List (Int×Bool×SV)->Tree (SV×Core)
 |[]=>.fail |[(j,p,v)]=>.need (A.eq k j) (f p v) |(j,p,v)::r=>.node (A.eq k j) (f p v) (findF A k f r)
def intOf:SV->Option Int
 | .int .i64 n=>ak n | .sym .i64 n=>ak n | .sh (.i .i64 n)=>ak n |_=>aK
def strOf:SV->Option (List UInt8)
 | .str l=>ak l | .sh (.str l)=>ak l |_=>aK
def aac:SV->Option (Int×List UInt8)
 | .agg [a,b]=>match intOf a,strOf b with
  |some n,ak l=>ak (n,l) |_,_=>aK
 | .sh (.agg [.i .i64 n,.str l])=>ak (n,l) |_=>aK
def SV.adn:SV->VT->Bool
 | .int .i64 _,.int=>aC | .sym .i64 _,.int=>aC | .bool _,.bool=>aC | .test _,.bool=>aC |_,_=>ay
def amT(A:Prim)(vt:VT)(o:Option Value):SV:=match vt with
 | .int=>.sym .i64 (A.aso o) | .bool=>.test (A.HY o)
def aie(A:Prim)(vt:VT)(M:Int×List UInt8->Option Value)(k:Int×List UInt8)(f:Bool->SV->Tree (SV×Core)):List ((Int×List UInt8)×Bool×SV)->Tree (SV×Core)
 |[]=>.node (A.isS (M k)) (f aC (amT A vt (M k))) (f ay .any) |(j,p,v)::r=>.node (A.kp k.1 k.2 j.1 j.2) (f p v) (aie A vt M k f r)
def I8(c:Core)(ok:Bool)(v:SV)(b:Bool):Tree (SV×Core):=ret c (bif ok then .AQ [v,.bool b] else v)
def RJ(C:Ctx)(c:Core)(t:Nat)(m k:SV)(ok:Bool):Tree (SV×Core):=
 match C.ty t with
 |some ti=>match ti.ty with
  | .map kt e=>match C.ty kt,C.ty e with
   |some kti,ak te=>match kti.ty,pack te.ty.isAgg te.zero with
    | .struct _,ak z=>bif C.pks.contains kt then
      match m with
      | .mp id=>match Ak c.hp id with
       |some (.pm vt M us)=>match aac k with
        |some n=>aie C.A vt M n (fun p v=>bif p then I8 c ok v aC else I8 c ok z ay) us |none=>.fail
       |_=>.fail
      |_=>.fail
     else .fail
    | .int kk,ak z=>
     match m with
     | .FY=>match I7 k with
      |some (j,_,_)=>bif j==kk then I8 c ok z ay else .fail |none=>.fail
     | .mp id=>match Ak c.hp id with
      |some (.map es)=>match k with
       | .int j n=>bif j==kk then match RI kk n es with
        |some (ak v)=>I8 c ok v aC |some aK=>I8 c ok z ay |none=>.fail
        else .fail
       | .sym j n=>bif j==kk then VZ C.A kk n z (I8 c ok) es else .fail |_=>.fail
      |some (.fm fk _ fs us _)=>match I7 k with
       |some (j,n,_)=>bif j==kk&&fk==kk then findF C.A n (fun p v=>bif p then I8 c ok v aC else I8 c ok z ay) (us++fs) else .fail |none=>.fail
      |_=>.fail
     |_=>.fail
    |_,_=>.fail
   |_,_=>.fail
  |_=>.fail
 |none=>.fail
def Oe(C:Ctx)(c:Core)(t:Nat)(m k v:SV):Tree (SV×Core):=
 match C.ty t with
 |some ti=>match ti.ty with
  | .map kt _=>match C.ty kt with
   |some kti=>match kti.ty,m,k with
    | .int kk,.mp id,.int k n=>match Ak c.hp id with
     |some (.map es)=>bif kk==k then match V3 k n v es with
      |some es=>ret {c with hp:=hset c.hp id (.map es),tc:=id::c.tc} .any
      |none=>.fail
      else .fail
     |_=>.fail
    | .struct _,.mp id,k=>match Ak c.hp id with
     |some (.pm vt M us)=>match aac k with
      |some n=>bif C.pks.contains kt&&v.one&&v.adn vt then ret {c with hp:=hset c.hp id (.pm vt M ((n,aC,v)::us)),tc:=id::c.tc} .any else .fail
      |none=>.fail
     |_=>.fail
    |_,_,_=>.fail
   |none=>.fail
  |_=>.fail
 |none=>.fail
def OH(C:Ctx)(c:Core)(t:Nat)(m k:SV):Tree (SV×Core):=
 match C.ty t with
 |some ti=>match ti.ty with
  | .map kt e=>match C.ty kt,C.ty e with
   |some kti,ak te=>match kti.ty,pack te.ty.isAgg te.zero,m,I7 k with
    | .int kk,ak z,.mp id,ak (j,n,_)=>match Ak c.hp id with
     |some (.fm fk M fs us _)=>bif j==kk&&fk==kk&&z.one&&fV c.nx c.lim then
       findF C.A n (fun p v=>ret {c with hp:=hset c.hp id (.fm fk M fs ((n,aC,bif p then v else z)::us) (ak (c.nx,n))),nx:=c.nx+1,tc:=id::c.tc} (.AQ [bif p then v else z,.ev c.nx])) (us++fs)
      else .fail
     |_=>.fail
    |_,_,_,_=>.fail
   |_,_=>.fail
  |_=>.fail
 |none=>.fail
def LG(c:Core)(m s v:SV):Tree (SV×Core):=
 match m,s with
 | .mp id,.ev s=>match Ak c.hp id with
  |some (.fm fk M fs us (ak (s',n)))=>bif s==s'&&v.one then ret {c with hp:=hset c.hp id (.fm fk M fs ((n,aC,v)::us) (ak (s',n))),tc:=id::c.tc} .any else .fail
  |_=>.fail
 |_,_=>.fail
def RN(C:Ctx)(c:Core)(t:Nat)(m k:SV):Tree (SV×Core):=
 match C.ty t with
 |some ti=>match ti.ty with
  | .map kt _=>match C.ty kt with
   |some kti=>match kti.ty,m,I7 k with
    | .int kk,.mp id,ak (j,n,_)=>match Ak c.hp id with
     |some (.fm fk M fs us _)=>bif j==kk&&fk==kk then ret {c with hp:=hset c.hp id (.fm fk M fs ((n,ay,.any)::us) aK),tc:=id::c.tc} .any else .fail
     |_=>.fail
    |_,_,_=>.fail
   |none=>.fail
  |_=>.fail
 |none=>.fail
def spread(c:Core)(F:List Sh->Tree Sh)(args:List SV):Tree (SV×Core):=
 match freeze c.hp (JL args) with
 |none=>.fail |some hp=>match Iw hp args with
  |none=>.fail |some Bv=>(F Bv).bind fun r=>bif iq (Dc r c.nx).2.2 c.lim then ret {c with hp:=Dx hp (Dc r c.nx).2.1,nx:=(Dc r c.nx).2.2} (Dc r c.nx).1 else .fail
mutual
def H6:Sh->Bool
 | .i _ _=>aC | .b _=>aC | .str _=>aC | .v _=>aC | .agg l=>Pq l | .AQ l=>Pq l |_=>ay
def Pq:List Sh->Bool
 |[]=>aC |x::r=>H6 x&&Pq r
end
def V4(c:Core)(F:List Sh->Tree Sh)(args:List SV):Tree (SV×Core):=
 match freeze c.hp (JL args) with
 |none=>.fail |some hp=>match Iw hp args with
  |none=>.fail |some Bv=>(F Bv).bind fun r=>bif H6 r then ret c (Dc r c.nx).1 else .fail
def maxS(A:Prim)(mx:Bool)(x y:SV):Option SV:=
 match I7 x,I7 y with
 |some (k,a,la),ak (l,b,lb)=>bif k==l then
   ak (bif la&&lb then .int k (bif mx then (bif decide (a<b) then b else a) else (bif decide (b<a) then b else a)) else .sym k (bif mx then A.max a b else A.min a b))
  else aK
 |_,_=>aK
def Pv:Ty->SV->Bool
 | .str,.str _=>aC | .str,.sh (.str _)=>aC | .slice _,.gs _=>aC | .slice _,.sh (.sl _ _ _)=>aC | .slice _,.A8=>aC | .slice _,.vw _ _=>aC |_,_=>ay
def XM:SV->Option Int
 | .int .i64 n=>ak n | .sym .i64 n=>ak n |_=>aK
def V5(C:Ctx)(c:Core)(e:Nat):List SV->Tree (SV×Core)
 |[s,i,.gs id']=>match C.ty e with
  |some te=>match Nq c.hp te.size s,Ak c.hp id' with
   |some (n,g),ak (.row cells e2 st2 m)=>
    bif Nr c.hp e s&&e==e2&&st2==te.size&&m==1 && !Oc s (.gs id')&&fV 0 te.size&&FP cells then
     match Iw c.hp cells,XM i,OG C.A i with
     |some l,ak iv,ak k=>.need (C.A.upTo iv n) (.need (C.A.room (C.A.addN n 1) te.bytes) (alloc (CW c s) (.own e te.size (C.A.addN n 1) (C.A.ins g k l)) (.gs c.nx))) |_,_,_=>.fail
    else .fail
   |_,_=>.fail
  |none=>.fail
 |_=>.fail
def TP(C:Ctx)(c:Core)(e:Nat):List SV->Tree (SV×Core)
 |[.A8,i]=>match C.ty e,XM i,OG C.A i with
  |some te,ak iv,ak k=>.need (C.A.le 0 iv) (.need (C.A.room k te.bytes) (alloc c (.own e te.size 0 fun _=>[]) (.gs c.nx))) |_,_,_=>.fail
 |_=>.fail
def TQ(C:Ctx)(call:Nat->List SV->Core->Tree (SV×Core))(c:Core)(k:Call):Tree (SV×Core):=
 let ev:=BI c.tm
 match k.callee with
 | .builtin b=>match b,k.args.toList,k.argTypes.toList with
  | .len,[x],[t]=>match C.ty t with
   |some i=>bif Pv i.ty (ev x) then Md c (akb C.A c.hp (ev x)) else .fail |none=>.fail
  | .delete,[m,k],t::_=>RN C c t (ev m) (ev k) | .append,[s,x],[t,u]=>bif t==u then match Qm C c t (ev s) (ev x) with
    |some r=>r |none=>RH C c t (ev s) (ev x)
   else Ql C c t u (ev s) (ev x)
  | .max,[x,y],_=>Md c (maxS C.A aC (ev x) (ev y)) | .min,[x,y],_=>Md c (maxS C.A ay (ev x) (ev y)) |_,_,_=>.fail
 | .value f=>match ev f with
  | .fn g cs=>
   let args:=k.args.toList.map ev++cs
   match C.ins g with
   |some e=>V5 C c e args |none=>match C.grow g with
   |some e=>TP C c e args |none=>match C.spec g with
   |some F=>bif C.lend g then V4 c F args else spread c F args |none=>call g args c
  |_=>.fail
 |_=>.fail
def Qo(C:Ctx)(call:Nat->List SV->Core->Tree (SV×Core))(c:Core)(o:Oper):Tree (SV×Core):=
 let ev:=BI c.tm
 match o.op with
 | .move x=>ret c (ev x) | .assign x=>ret c (ev x) | .pick x a b=>Md c (aia C.A (ev x) (ev a) (ev b)) | .alloc e=>UN C c e | .box e x=>bif (ev x).ZO then alloc c (.box (ev x).cells e) (.ptr c.nx 0) else .fail | .build t parts=>UO C c t parts.toList | .buildSlice t n parts=>Lu C c t n parts.toList | .load t x=>XK C c t (ev x) | .store t x v=>UQ C c t (ev x) (ev v) | .nilCheck x=>aaz c (ev x) | .binOp op t x y _=>aay C c op t x y (isConst x||isConst y) | .unOp .not _ x=>Md c (notS C.A (ev x)) | .unOp .neg _ x=>Md c (negS C.A (ev x)) | .fieldAddr t x f=>Nk C c t f (ev x) | .field t x f=>UR C c t f (ev x) | .indexAddr t x i=>Nl C c t (ev x) (ev i) | .extract x i=>Qj c (ev x) i | .makeFunc (.func f) fs cs=>bif fs.size==0 then ret c (.fn f (cs.toList.map ev)) else .fail | .makeInterface t x=>match C.ty t with
  |some i=>match i.ty with
   | .iface=>.fail | .other=>.fail |_=>ret c (.C9 t (ev x))
  |none=>.fail
 | .makeMap t aK=>Qn C c t | .makeSlice t l k=>Np C c t (ev l) (ev k) (match l,k with| .tmp i,.tmp j=>i==j|_,_=>ay)
 | .slice t x lo hi aK=>UU C c t (ev x) (lo.map ev) (hi.map ev) | .lookup t m k ok=>RJ C c t (ev m) (ev k) ok | .insert t m k v=>Oe C c t (ev m) (ev k) (ev v) | .mapUpdate t m k v=>Oe C c t (ev m) (ev k) (ev v) | .mapEntry t m k=>OH C c t (ev m) (ev k) | .entryStore _ m s v=>LG c (ev m) (ev s) (ev v) | .call k=>TQ C call c k | .convert t u x=>XL C c t u (ev x) |_=>.fail
mutual
def SV.hard:SV->SV
 | .sym k n=>.int k n | .test b=>.bool b | .agg l=>.agg (aey l) | .AQ l=>.AQ (aey l) |x=>x
def aey:List SV->List SV
 |[]=>[] |x::r=>x.hard::aey r
end
def exec(C:Ctx)(call:Nat->List SV->Core->Tree (SV×Core))(c:Core)(o:Oper):Tree (SV×Core):=
 bif C.lits then (Qo C call c o).bind fun p=>.leaf (p.1.hard,p.2) else Qo C call c o
mutual
def refs:SV->List Nat
 | .gs id=>[id] | .ptr id _=>[id] | .gp id _ _ _=>[id] | .mp id=>[id] | .agg l=>OI l | .AQ l=>OI l | .fn _ l=>OI l | .C9 _ x=>refs x |_=>[]
def OI:List SV->List Nat
 |[]=>[] |x::r=>refs x++OI r
end
def amU:List (SV×SV)->List Nat
 |[]=>[] |(a,b)::r=>refs a++refs b++amU r
def aif:List (Int×Bool×SV)->List Nat
 |[]=>[] |(_,_,b)::r=>refs b++aif r
def amV:List ((Int×List UInt8)×Bool×SV)->List Nat
 |[]=>[] |(_,_,b)::r=>refs b++amV r
def amW:SB->List Nat
 | .box l _=>OI l | .row l _ _ _=>OI l | .map es=>amU es | .Hf _ _ _ _ l=>OI l | .fm _ _ fs us _=>aif fs++aif us | .pm _ _ us=>amV us |_=>[]
def reach(hp:List (Nat×SB)):Nat->List Nat->List Nat->List Nat
 |0,_,seen=>seen |_,[],seen=>seen |n+1,i::r,seen=>bif seen.contains i then reach hp n r seen else match Ak hp i with
  |some b=>reach hp n (amW b++r) (i::seen) |none=>reach hp n r (i::seen)
def MI(hp:List (Nat×SB)):List Nat->List Nat
 |[]=>[] |i::r=>match Ak hp i with
  |some b=>amW b++MI hp r |none=>MI hp r
def dropKey(p:Nat->Bool):List (Nat×SB)->List (Nat×SB)
 |[]=>[] |(i,b)::r=>bif p i then dropKey p r else (i,b)::dropKey p r
def gc(nx lim:Nat)(v:SV)(c:Core):List (Nat×SB):=
 let live:=reach c.hp 4000 (refs v++MI c.hp c.tc) []
 dropKey (fun i=>iq nx i&&fV i lim && !live.contains i) c.hp
def Q9(tm:List SV)(dst:Option Nat)(v:SV):List SV:=
 match dst with
 |some d=>tm.set d v |none=>tm
def Core.put(c:Core)(dst:Option Nat)(v:SV):Core:={c with tm:=Q9 c.tm dst v}
def opAt(l:List Oper)(i:Nat):Option Oper:=l[i]?
inductive Want where
 |yes|no|ask (slot:Nat) (b want:Bool) |lost
def Og(ops:List Oper)(tm:List SV)(o:Oper):Want:=
 match o.guard with
 |none=>.yes |some (j,b)=>match (opAt ops j).bind (·.dst) with
  |some d=>match tm.getD d .any with
   | .bool c=>bif c==b then .yes else .no | .test c=>.ask d c b | .AQ _=>.no |_=>.lost
  |none=>.lost
def skV(ops:List Oper)(i:Nat):SV:=
 bif ops.any (fun o=>match o.guard with|some (j,_)=>fC j i|none=>ay) then .AQ [] else .any
def afE(C:Ctx)(call:Nat->List SV->Core->Tree (SV×Core))(c:Core)(o:Oper):Tree Core:=
 (exec C call c o).bind fun p=>.leaf (p.2.put o.dst p.1)
def aad(C:Ctx)(call:Nat->List SV->Core->Tree (SV×Core))(ops:List Oper)(c:Core)(i:Nat):Tree Core:=
 match opAt ops i with
 |none=>.leaf c |some o=>match Og ops c.tm o with
  | .yes=>afE C call c o | .no=>.leaf (c.put o.dst (skV ops i)) | .ask d t b=>.node t
    (let c':=c.put (ak d) (.bool aC);bif b then afE C call c' o else .leaf (c'.put o.dst (skV ops i)))
    (let c':=c.put (ak d) (.bool ay);bif b then .leaf (c'.put o.dst (skV ops i)) else afE C call c' o)
  | .lost=>.fail
def Dn:Op->Bool
 | .move _| .assign _| .pick .. | .load .. | .nilCheck _| .binOp .. | .unOp .. | .fieldAddr .. | .field .. | .indexAddr .. | .extract .. | .makeFunc .. | .makeInterface .. | .build .. | .lookup ..=>aC | .call {callee:=.builtin .len,..} | .call {callee:=.builtin .max,..} | .call {callee:=.builtin .min,..}=>aC |_=>ay
def MJ(hp:List (Nat×SB))(unl:List Nat):List (Nat×SB):=
 match hp with
 |[]=>[] |(j,x)::l=>bif unl.contains j then MJ l unl else (j,x)::MJ l unl
def Ko:SV->Bool
 | .sh (.er _ _)=>aC |_=>ay
def KT(tm:List SV):Op->Bool
 | .load .. | .lookup ..=>ay | .binOp _ _ x y _=>!(Ko (BI tm x)&&Ko (BI tm y)) |o=>Dn o
def Px(o:Oper):List Nat:=(o.after.toList.filter (jK .any)).map (·.on)
def Py(all:List Bool):List Oper->Nat->List Bool->List Nat
 |o::r,i,b::l=>bif !b&&(Px o).all (fun j=>all.getD j ay) then i::Py all r (i+1) l else Py all r (i+1) l |_,_,_=>[]
def aeA(ops:Array Oper)(listed:Array Bool):List Nat:=Py listed.toList ops.toList 0 listed.toList
def V6(ops:Array Oper)(oi:Oper)(i:Nat):List Oper->Nat->List Bool->Bool
 |o::r,j,b::l=>(fC j i||b||(Px o).contains i||oi.apart ops o)&&V6 ops oi i r (j+1) l |_,_,_=>aC
def aeB(ops:Array Oper)(listed:Array Bool)(i:Nat):Bool:=
 match opAt ops.toList i with
 |none=>ay |some oi=>V6 ops oi i ops.toList 0 listed.toList
theorem aii(a b:Nat):@rH Nat VR a b=@rH Nat instBEqOfDecidableEq a b:=by
 by_cases h:a=b
 ·subst h
  rw[@beq_self_eq_true Nat VR,@beq_self_eq_true Nat instBEqOfDecidableEq]
 ·have h1:@rH Nat VR a b=ay:=by
   cases hb:@rH Nat VR a b with
   |false=>rfl |true=>exact (h (@eq_of_beq Nat VR ah8 a b hb)).elim
  have h2:@rH Nat instBEqOfDecidableEq a b=ay:=decide_eq_false h;rw[h1,h2]
theorem YR{l:List Nat}{p q:Nat->Bool}(h:∀j,j∈l->p j=q j):l.all p=l.all q:=by
 induction l with
 |nil=>rfl |cons x r ih=>rw[lH,lH,h x (List.mem_cons_self ..),ih fun j hj=>h j (List.mem_cons_of_mem _ hj)]
theorem YS(all:List Bool):∀(ops:List Oper) (k:Nat) (l:List Bool),(∀i,l.getD i aC=all.getD (k+i) aC)->
  Py all ops k l=(lu k ops.length).filter fun i=>!all.getD i aC&&((ops[i - k]?).map (·.after.all fun e=>!Region.binds .any e||all.getD e.on ay)).getD ay
 |[],k,l,_=>by cases l<;>rfl |o::r,k,[],h=>by
  have h2:∀i,all.getD (k+i) aC=aC:=fun i=>by rw[<-h i];simp
  simp only[Py];symm
  rw[List.filter_eq_nil_iff];intro i hi;have:=lC.1 hi;have e:=h2 (i - k);rw[show k+(i - k)=i by omega] at e;simp only[aX] at e;simp[e]
 |o::r,k,b::l,h=>by
  have h0:=h 0;simp only[sO,jC] at h0;have ih:=YS all r (k+1) l (fun i=>by have:=h (i+1);simp only[sS] at this;rw[this];congr 1;omega);have he:(Px o).all (fun j=>all.getD j ay)=o.after.all fun e=>!Region.binds .any e||all.getD e.on ay:=by
   rw[<-Array.all_toList];unfold Px;generalize o.after.toList=es;induction es with
   |nil=>rfl |cons e es ih=>
    simp only[oI,lH];cases jK .any e
    ·simp
    ·simp only[if_true,jr,lH,Bool.not_true,Bool.false_or]
     rw[ih]
  have ht:(lu (k+1) r.length).filter (fun i=>!all.getD i aC&&((r[i - (k+1)]?).map (·.after.all fun e=>!Region.binds .any e||all.getD e.on ay)).getD ay) =
    (lu (k+1) r.length).filter (fun i=>!all.getD i aC&&(((o::r)[i - k]?).map (·.after.all fun e=>!Region.binds .any e||all.getD e.on ay)).getD ay):=by
   refine uz fun i hi=>?_
   have:=lC.1 hi;rw[show i - k=(i - (k+1))+1 by omega,jR]
  simp only[Py,iU,uV,oI,ih,ht,he,h0,qV,jS,Option.map_some,Option.getD_some];cases (!all.getD k aC&&o.after.all fun e=>!Region.binds .any e||all.getD e.on ay)<;>rfl
theorem ado{listed:Array Bool}(i:Nat)(d:Bool):listed.getD i d=listed.toList.getD i d:=by
 rw[iQ,aX,dX]
theorem aij(ops:Array Oper)(listed:Array Bool):aeA ops listed=kS .any ops listed:=by
 unfold aeA kS;rw[YS listed.toList ops.toList 0 listed.toList (fun i=>by rw[gu]),bV,rU];refine uz fun i _=>?_
 simp only[ado,uD,dX]
theorem aaC(ops:Array Oper)(oi:Oper)(i:Nat)(all:List Bool):∀(r:List Oper) (k:Nat) (l:List Bool),(∀j,l.getD j aC=all.getD (k+j) aC)->
  V6 ops oi i r k l=(lu k r.length).all fun j=>j==i||all.getD j aC||match r[j - k]? with
   |some oj=>oj.after.any (fun e=>jK .any e&&e.on==i)||oi.apart ops oj |none=>aC
 |[],k,l,_=>by cases l<;>rfl |o::r,k,[],h=>by
  have h2:∀i,all.getD (k+i) aC=aC:=fun i=>by rw[<-h i];simp
  simp only[V6];symm
  rw[List.all_eq_true];intro j hj;have:=lC.1 hj;have e:=h2 (j - k);rw[show k+(j - k)=j by omega] at e;simp only[aX] at e;simp[e]
 |o::r,k,b::l,h=>by
  have h0:=h 0;simp only[sO,jC] at h0;have ih:=aaC ops oi i all r (k+1) l (fun i=>by have:=h (i+1);simp only[sS] at this;rw[this];congr 1;omega);have he:(Px o).contains i=o.after.any fun e=>jK .any e&&e.on==i:=by
   rw[<-Array.any_toList];unfold Px;generalize o.after.toList=es;induction es with
   |nil=>rfl |cons e es ih=>
    simp only[oI,List.any_cons];cases jK .any e
    ·simpa using ih
    ·simp only[if_true,jr,List.contains_cons,Bool.true_and]
     rw[ih];congr 1;cases h1:(e.on==i)<;>cases h2:(i==e.on)<;>simp_all
  have ht:(lu (k+1) r.length).all (fun j=>j==i||all.getD j aC||match r[j - (k+1)]? with
     |some oj=>oj.after.any (fun e=>jK .any e&&e.on==i)||oi.apart ops oj |none=>aC) =
    (lu (k+1) r.length).all (fun j=>j==i||all.getD j aC||match (o::r)[j - k]? with
     |some oj=>oj.after.any (fun e=>jK .any e&&e.on==i)||oi.apart ops oj |none=>aC):=by
   refine YR fun j hj=>?_
   have:=lC.1 hj;rw[show j - k=(j - (k+1))+1 by omega,jR]
  have hb:fC k i=(k==i):=rfl;simp only[V6,iU,uV,lH];rw[ih,ht,he,h0,hb];simp only[qV,jS,Bool.or_assoc]
theorem adp(ops:Array Oper)(listed:Array Bool)(i:Nat):aeB ops listed i=lg .any ops listed i:=by
 have hop:opAt ops.toList i=ops[i]?:=by simp[opAt]
 unfold aeB lg;rw[hop];cases ops[i]? with
 |none=>rfl |some oi=>
  simp only;rw[aaC ops oi i listed.toList ops.toList 0 listed.toList (fun i=>by rw[gu]),bV,rU];refine YR fun j _=>?_
  simp only[ado,uD,dX];simp only[aii];rfl
inductive Quiet where
 |take (i:Nat) (needs:List Bool) (v v0:SV)
 |ask (slot:Nat) (b:Bool)
 |no
def aeC:Nat->List SV->Core->Tree (SV×Core):=fun _ _ _=>.fail
def aeD:Option (List Bool×SV)->Option (List Bool×SV)
 |some (_,.any)=>aK |r=>r
def Eb:Tree (SV×Core)->List Bool->Option (List Bool×SV)
 | .leaf p,bs=>ak (bs,p.1) | .need b t,bs=>Eb t (b::bs) |_,_=>aK
def TR(C:Ctx)(BH:Array Oper)(lock:List (Nat×SB))(listed:Array Bool)(Ik:List SV)(c:Core)(i:Nat):Quiet:=
 match opAt BH.toList i with
 |none=>.no |some o=>match Og BH.toList c.tm o with
  | .ask d t _=>.ask d t | .no=>bif aeB BH listed i then .take i [] (skV BH.toList i) (skV BH.toList i) else .no | .yes=>bif Dn o.op&&aeB BH listed i then
    match aeD (Eb (exec C aeC {c with tm:=Ik,hp:=lock} o) []) with
    |some (bs,v)=>.take i bs v v |none=>bif KT c.tm o.op then match Eb (exec C aeC c o) [] with
     |some (bs,v)=>.take i bs v .any |none=>.no
     else .no
   else .no
  | .lost=>.no
def V7(C:Ctx)(BH:Array Oper)(lock:List (Nat×SB))(listed:Array Bool)(Ik:List SV)(c:Core):List Nat->Quiet
 |[]=>.no |i::r=>match TR C BH lock listed Ik c i with
  | .no=>V7 C BH lock listed Ik c r |q=>q
def needs{α:Type}(t:Tree α):List Bool->Tree α
 |[]=>t |b::r=>.need b (needs t r)
def allOf{α:Type}(f:Nat->Tree α):List Nat->Tree α
 |[]=>.fail |[i]=>f i |i::r=>.both (f i) (allOf f r)
def disjoint(l:List Nat)(hp:List (Nat×SB)):Bool:=l.all fun i=>(Ak hp i).isNone
def JO(c:Core)(n:Nat):Nat:=Nat.min 1048576 ((c.lim - c.nx) / (n+1))
def explore(C:Ctx)(call:Nat->List SV->Core->Tree (SV×Core))(base step:Nat)(BH:Array Oper)(lock:List (Nat×SB)):
  Nat->Array Bool->List SV->Core->Tree Core
 |0,_,_,_=>.fail |n+1,listed,Ik,c=>
  match aeA BH listed with
  |[]=>.leaf c |rs=>match V7 C BH lock listed Ik c rs with
   | .take i bs v v0=>let d:=(opAt BH.toList i).bind (·.dst)
    needs (explore C call base step BH lock n (listed.setIfInBounds i aC) (Q9 Ik d v0) (c.put d v)) bs
   | .ask d t=>.node t (explore C call base step BH lock n listed (Ik.set d (.bool aC)) (c.put (ak d) (.bool aC))) (explore C call base step BH lock n listed (Ik.set d (.bool ay)) (c.put (ak d) (.bool ay))) | .no=>allOf (fun i=>(aad C call BH.toList {c with tc:=[],nx:=base+step*i,lim:=base+step*(i+1)} i).bind fun c'=>
     bif disjoint c'.tc lock then explore C call base step BH lock n (listed.setIfInBounds i aC) (Q9 Ik ((opAt BH.toList i).bind (·.dst)) .any) {c' with tc:=c'.tc++c.tc,nx:=c.nx,lim:=c.lim} else .fail) rs
def E5(a b:Option (List BK)):Option (List BK):=
 match a,b with
 |some x,ak y=>ak (x++y) |_,_=>aK
def Dh(c:Bool)(a:Option (List BK)):Option (List BK):=bif c then a else aK
def amX:Sh->Sh->Option (List BK)
 | .er g t,.er h u=>Dh (g==h&&t==u) (ak []) |s,s'=>ak [.sh s s']
mutual
def YT:SV->SV->Option (List BK)
 | .any,.any=>ak [] | .int k n,.int l m=>Dh (k==l&&n==m) (ak []) | .sym k n,.sym l m=>Dh (k==l) (ak [.int n m]) | .bool a,.bool b=>Dh (a==b) (ak []) | .test a,.test b=>ak [.bool a b] | .str a,.str b=>Dh (a==b) (ak []) | .val v,.val u=>ak [.val v u] | .ptr a b,.ptr c d=>Dh (a==c&&b==d) (ak []) | .gs a,.gs b=>Dh (a==b) (ak []) | .gp a st i o,.gp a' st' i' o'=>Dh (a==a'&&st==st'&&o==o') (ak [.nat i i']) | .GX st n g i o,.GX st' n' g' i' o'=>Dh (st==st'&&o==o') (ak [.nat n n',.Mc g g',.nat i i']) | .EZ,.EZ=>ak [] | .A8,.A8=>ak [] | .Gy,.Gy=>ak [] | .DT,.DT=>ak [] | .FY,.FY=>ak [] | .fn f l,.fn g m=>Dh (f==g) (LH l m) | .agg l,.agg m=>LH l m | .AQ l,.AQ m=>LH l m | .C9 t x,.C9 u y=>Dh (t==u) (YT x y) | .mp a,.mp b=>Dh (a==b) (ak []) | .glob a,.glob b=>Dh (a==b) (ak []) | .ev a,.ev b=>Dh (a==b) (ak []) | .sh s,.sh u=>amX s u |_,_=>aK
def LH:List SV->List SV->Option (List BK)
 |[],[]=>ak [] |x::l,y::m=>E5 (YT x y) (LH l m) |_,_=>aK
end
def XO:List (SV×SV)->List (SV×SV)->Option (List BK)
 |[],[]=>ak [] |(a,b)::l,(c,d)::m=>E5 (YT a c) (E5 (YT b d) (XO l m)) |_,_=>aK
def aaD:List (Int×Bool×SV)->List (Int×Bool×SV)->Option (List BK)
 |[],[]=>ak [] |(a,p,b)::l,(c,q,d)::m=>Dh (p==q) (E5 (ak [.int a c]) (E5 (YT b d) (aaD l m))) |_,_=>aK
def adq:List ((Int×List UInt8)×Bool×SV)->List ((Int×List UInt8)×Bool×SV)->Option (List BK)
 |[],[]=>ak [] |((a,s),p,b)::l,((c,t),q,d)::m=>Dh (p==q) (E5 (ak [.int a c,.str s t]) (E5 (YT b d) (adq l m))) |_,_=>aK
def aik:Option (Nat×Int)->Option (Nat×Int)->Option (List BK)
 |none,aK=>ak [] |some (a,n),ak (b,m)=>Dh (a==b) (ak [.int n m]) |_,_=>aK
def amY:SB->SB->Option (List BK)
 | .box l e,.box m f=>Dh (e==f) (LH l m) | .row l e s n,.row m f t k=>Dh (e==f&&s==t&&n==k) (LH l m) | .own e s n g,.own f t m h=>Dh (e==f&&s==t) (ak [.nat n m,.Mc g h]) | .fz s n g,.fz t m h=>Dh (s==t) (ak [.nat n m,.Mc g h]) | .map l,.map m=>XO l m | .Rw l,.Rw m=>ak [.sh (.pt l) (.pt m)] | .Hf e s n g x,.Hf f t m h y=>Dh (e==f&&s==t) (E5 (ak [.nat n m,.Mc g h]) (LH x y)) | .buf e l,.buf f m=>Dh (e==f) (ak [.str l m]) | .fm k M fs us tg,.fm l N gs vs th=>Dh (k==l) (E5 (ak [.mp M N]) (E5 (aaD fs gs) (E5 (aaD us vs) (aik tg th)))) | .pm vt M us,.pm wt N vs=>Dh (vt==wt) (E5 (ak [.mg M N]) (adq us vs)) |_,_=>aK
def adr:List (Nat×SB)->List (Nat×SB)->Option (List BK)
 |[],[]=>ak [] |(i,a)::l,(j,b)::m=>Dh (i==j) (E5 (amY a b) (adr l m)) |_,_=>aK
def aeE(a b:Core):Option (List BK):=Dh (a.nx==b.nx&&a.lim==b.lim&&a.tc==b.tc) (E5 (LH a.tm b.tm) (adr a.hp b.hp))
def afF(i:Nat):List Nat->List Nat
 |[]=>[i] |j::l=>bif i==j then j::l else bif fV i j then i::j::l else j::afF i l
def RP:List Nat->List Nat
 |[]=>[] |i::l=>afF i (RP l)
inductive Ob where
 |b (x:Bool)
 |e (l:List BK)
def strip{α:Type}:Tree α->Option (List Ob×α)
 | .leaf a=>ak ([],a) | .need b t=>(strip t).map fun p=>(.b b::p.1,p.2) | .must l t=>(strip t).map fun p=>(.e l::p.1,p.2) |_=>aK
def wrap{α:Type}(t:Tree α):List Ob->Tree α
 |[]=>t | .b x::r=>.need x (wrap t r) | .e l::r=>.must l (wrap t r)
def XP{α:Type}(l:List BK)(t:Tree α):Tree α:=
 match l with
 |[]=>t |l=>.must l t
def aae(t f:Tree Core):Tree Core:=
 match strip t,strip f with
 |some (o,a),ak (q,b)=>match aeE a b with
  |some l=>wrap (XP l (.leaf a)) (o++q) |none=>.both t f
 |_,_=>.both t f
def merge:Tree Core->Tree Core
 | .both t f=>aae (merge t) (merge f) | .node b t f=>.node b (merge t) (merge f) | .need b t=>.need b (merge t) | .must l t=>.must l (merge t) |t=>t
def aaf:Nat->List SV->List SV
 |_,[]=>[] |m,x::l=>(bif fC (m % 2) 1 then x else .any)::aaf (m / 2) l
def Ns(C:Ctx)(g:Nat)(tm:List SV):List SV:=
 match C.live.get g with
 |some m=>aaf m tm |none=>tm
def TS:SV->List Nat
 | .ptr id _=>[id] | .gp id _ _ _=>[id] | .gs id=>[id] | .mp id=>[id] |_=>[]
def touches(c:Core):Op->List Nat
 | .store _ x _=>TS (BI c.tm x) | .insert _ x _ _=>TS (BI c.tm x) | .mapUpdate _ x _ _=>TS (BI c.tm x) | .mapEntry _ x _=>TS (BI c.tm x) | .entryStore _ x _ _=>TS (BI c.tm x) | .call k=>match k.callee with
  | .value f=>reach c.hp 4000 (refs (BI c.tm f)++OI (k.args.toList.map (BI c.tm))) [] | .builtin .append=>OI (k.args.toList.map (BI c.tm)) | .builtin .delete=>OI (k.args.toList.map (BI c.tm)) |_=>[]
 | .slice _ x _ _ _=>TS (BI c.tm x) |_=>[]
def XQ(C:Ctx):List Oper->Core->List Nat->List Nat
 |[],_,acc=>acc |o::r,c,acc=>XQ C r (c.put o.dst (bif Dn o.op then match Eb (exec C aeC c o) [] with
   |some (_,v)=>v |none=>.any
  else .any)) (touches c o.op++acc)
def drawn(C:Ctx)(call:Nat->List SV->Core->Tree (SV×Core))(g:Nat)(BH:Array Oper)(c:Core):Tree Core:=
 let lock:=MJ c.hp (XQ C BH.toList c [])
 bif iq (c.nx+JO c BH.size*BH.size) c.lim&&Region.noSelect BH then
  merge ((explore C call c.nx (JO c BH.size) BH lock (2*BH.size+1) (Array.replicate BH.size ay) c.tm {c with nx:=0,lim:=0}).bind fun c'=>.leaf {tm:=Ns C g c'.tm,hp:=c'.hp,nx:=c.nx+JO c BH.size*BH.size,lim:=c.lim,tc:=RP c'.tc})
 else .fail
inductive It where
 |code (p:List Nat)
 |inBlock (id:Nat)
 |reg (p:List Nat) (l:List Nat)
 |XR
inductive Out where
 |done (v:SV) (c:Core)
 |stop (fn:Nat) (todo:List It) (c:Core)
def child:Code->Nat->Code
 | .seq a _,0=>a | .seq _ b,_=>b | .cond _ a _,0=>a | .cond _ _ b,_=>b | .block _ b,_=>b | .loop b,_=>b | .rangeFunc _ _ a _,0=>a | .rangeFunc _ _ _ b,_=>b |_,_=>.skip
def Ba(c:Code):List Nat->Code
 |[]=>c |i::p=>child (Ba c p) i
def Gg(id:Nat):List It->Option (List It)
 | .inBlock j::k=>bif j==id then ak k else Gg id k |_::k=>Gg id k |[]=>aK
def aaE(C:Ctx)(c:Core):List ResultVar->Option (List SV)
 |[]=>ak [] | .tmp t::r=>match c.tm[t]?,aaE C c r with
  |some v,ak l=>ak (v::l) |_,_=>aK
 | .cell a t::r=>match C.ty t,aaE C c r with
  |some i,ak l=>(aex C c i.ty.isAgg i.size (c.tm.getD a .any)).map fun v=>v::l |_,_=>aK
def result(C:Ctx)(fn:Func)(c:Core):Tree Out:=
 match aaE C c fn.results.toList with
 |some [v]=>.leaf (.done v c) |some l=>.leaf (.done (.AQ l) c) |none=>.fail
def Az(fn:Func):Code:=match fn.body with|some b=>b|none=>.skip
def alk(c:Core):Out->Tree (SV×Core)
 | .done v c'=>.leaf (v,{tm:=c.tm,hp:=gc c.nx c.lim v c',nx:=c'.nx,lim:=c'.lim,tc:=c'.tc}) | .stop _ _ _=>.fail
def MR(C:Ctx)(run:Nat->List It->Core->Tree Out)(g:Nat)(args:List SV)(c:Core):Tree (SV×Core):=
 match C.fns.get g with
 |none=>.fail |some fn=>bif iq args.length fn.ntmps&&fn.body.isSome then
   (run g [.code []] {tm:=args++dU (fn.ntmps - args.length) .any,hp:=c.hp,nx:=c.nx,lim:=c.lim,tc:=c.tc}).bind (alk c)
  else .fail
def V8:Operand->Option Nat
 | .tmp t=>ak t |_=>aK
inductive Sig where
 |go (td:List It) (c:Core)
 |done (v:SV) (c:Core)
 |halt (td:List It) (c:Core)
def aeF:Out->Tree Sig
 | .done v c=>.leaf (.done v c) | .stop _ td c=>.leaf (.halt td c)
def RQ(C:Ctx)(call:Nat->List SV->Core->Tree (SV×Core))(top:Bool)(g:Nat)(fn:Func)(td:List It)(c:Core):Tree Sig:=
 match td with
 |[]=>(result C fn c).bind aeF | .inBlock _::k=>.leaf (.go k c) | .XR::_=>.fail | .reg _ []::k=>.leaf (.go k {c with tm:=Ns C g c.tm})
 | .reg p (i::r)::k=>match Ba (Az fn) p with
  | .region _ ops _=>(aad C call ops.toList c i).bind fun c=>.leaf (.go (.reg p r::k) c) |_=>.fail
 | .code p::k=>match Ba (Az fn) p with
  | .skip=>.leaf (.go k c) | .ret=>(result C fn c).bind aeF | .seq _ _=>.leaf (.go (.code (0::p)::.code (1::p)::k) c) | .block id _=>.leaf (.go (.code (0::p)::.inBlock id::k) c) | .loop _=>bif C.MQ g p then .leaf (.halt td c) else .leaf (.go (.code (0::p)::.code p::k) c) | .exit id=>match Gg id k with
   |some k=>.leaf (.go k c) |none=>.fail
  | .cond x _ _=>match BI c.tm x with
   | .bool aC=>.leaf (.go (.code (0::p)::k) c) | .bool ay=>.leaf (.go (.code (1::p)::k) c) | .test b=>let d:=V8 x
    .node b (.leaf (.go (.code (0::p)::k) (c.put d (.bool aC)))) (.leaf (.go (.code (1::p)::k) (c.put d (.bool ay))))
   |_=>.fail
  | .region _ ops dr=>bif dr then
    let t:=drawn C call g ops c
    bif top && !t.lone then t.bind fun c=>.leaf (.halt k c) else t.bind fun c=>.leaf (.go k c)
   else .leaf (.go (.reg p (aZ ops.size)::k) c)
  |_=>.fail
def run(C:Ctx):Nat->Bool->Nat->List It->Core->Tree Out
 |0,_,g,td,c=>.leaf (.stop g td c) |n+1,top,g,td,c=>
  match C.fns.get g with
  |none=>.fail |some fn=>(RQ C (MR C (run C n ay)) top g fn td c).bind fun s=>match s with
   | .go td c=>run C n top g td c | .done v c=>.leaf (.done v c) | .halt td c=>.leaf (.stop g td c)
open Go.RowKit (Below)
abbrev Mem:=Nat->Option Obj
def Mem.le(H H':Mem):Prop:=∀b o,H b=ak o->H' b=ak o
def Mem.on(H:Mem)(w:World):Prop:=∀b o,H b=ak o->w.heap[b]?=ak o
def hcell(H:Mem)(b off:Nat):Option Value:=
 match H b with
 |some (.cells c _ _)=>c[off]? |_=>aK
theorem Jt{H H':Mem}(h:H.le H'){b off:Nat}{v:Value}(hc:hcell H b off=ak v):hcell H' b off=ak v:=by
 unfold hcell at *;cases hb:H b with
 |none=>simp[hb] at hc |some o=>rw[h b o hb];rw[hb] at hc;exact hc
theorem MS{H:Mem}{w:World}(h:H.on w){b off:Nat}{v:Value}(hc:hcell H b off=ak v):w.cell? ⟨b,off,aK⟩=ak v:=by
 unfold hcell at hc;cases hb:H b with
 |none=>simp[hb] at hc |some o=>
  rw[hb] at hc;have:=h b o hb;cases o<;>simp at hc
  simp[oJ,this,hc]
inductive Rep(H:Mem):Sh->Value->Prop
 |i (k:IntKind) (n:Int):Rep H (.i k n) (.int k n)
 |b (x:Bool):Rep H (.b x) (.bool x)
 |str (l:List UInt8):Rep H (.str l) (.string ⟨l.toArray⟩)
 |v (x:Value) (h:x.oneCell'=aC):Rep H (.v x) x
 |sl0 (st:Nat) (g:Nat->List Sh) (A:Option Addr) (cap:Nat):cap<=maxLen->Rep H (.sl st 0 g) (.slice A 0 cap)
 |sl (st n:Nat) (g:Nat->List Sh) (b off cap:Nat) (c:Nat->Nat->Value):n<=cap->cap<=maxLen->(∀(i:Nat),i<n->(g i).length=st)->
   (∀(i j:Nat),i<n->j<st->hcell H b (off+i*st+j)=ak (c i j))->(∀(i j:Nat),i<n->j<st->(c i j).oneCell'=aC)->
   (∀(i j:Nat) (s:Sh),i<n->(g i)[j]?=ak s->Rep H s (c i j))->Rep H (.sl st n g) (.slice (ak ⟨b,off,aK⟩) n cap)
 |agg (l:List Sh) (vs:Array Value):vs.size=l.length->(∀(j:Nat) (s:Sh) (v:Value),l[j]?=ak s->vs[j]?=ak v->Rep H s v)->Rep H (.agg l) (.agg vs)
 |AQ (l:List Sh) (vs:Array Value):vs.size=l.length->(∀(j:Nat) (s:Sh) (v:Value),l[j]?=ak s->vs[j]?=ak v->Rep H s v)->Rep H (.AQ l) (.tuple vs)
 |C9 (t:Nat) (x:Sh) (u:Value):Rep H x u->Rep H (.C9 t x) (.iface t u)
 |fn (f:Nat) (l:List Sh) (vs:Array Value):vs.size=l.length->(∀(j:Nat) (s:Sh) (v:Value),l[j]?=ak s->vs[j]?=ak v->Rep H s v)->Rep H (.fn f l) (.func (.func f) #[] vs)
 |er (g T:Nat) (b:Addr) (cs:Array Value) (e:Nat):hcell H g 0=ak (.iface T (.pointer (ak b)))->H b.block=ak (.cells cs e (0,0))->
   Rep H (.er g T) (.iface T (.pointer (ak b)))
 |pt (l:List Sh) (b off:Nat) (c:Nat->Value):(∀(j:Nat),j<l.length->hcell H b (off+j)=ak (c j))->(∀(j:Nat),j<l.length->(c j).oneCell'=aC)->(∀(j:Nat) (s:Sh),l[j]?=ak s->Rep H s (c j))->
   Rep H (.pt l) (.pointer (ak ⟨b,off,aK⟩))
theorem Rep.le{H H':Mem}(h:H.le H'){s:Sh}{v:Value}(r:Rep H s v):Rep H' s v:=by
 induction r with
 |i k n=>exact .i k n |b x=>exact .b x |str l=>exact .str l |v x hx=>exact .v x hx |sl0 st g A cap hc=>exact .sl0 st g A cap hc |sl st n g b off cap c h1 h2 h3 h4 h5 _ ih=>exact .sl st n g b off cap c h1 h2 h3 (fun i j hi hj=>Jt h (h4 i j hi hj)) h5 ih |agg l vs hs _ ih=>exact .agg l vs hs ih |AQ l vs hs _ ih=>exact .AQ l vs hs ih |C9 t x u _ ih=>exact .C9 t x u ih |fn f l vs hs _ ih=>exact .fn f l vs hs ih |er g T b cs e h1 h2=>exact .er g T b cs e (Jt h h1) (h _ _ h2) |pt l b off c h1 h2 _ ih=>exact .pt l b off c (fun j hj=>Jt h (h1 j hj)) h2 ih
def DX(H:Mem):List Sh->List Value->Prop
 |[],[]=>True |s::l,v::vs=>Rep H s v/\DX H l vs |_,_=>False
theorem DX.le{H H':Mem}(h:H.le H'):∀{l:List Sh} {vs:List Value},DX H l vs->DX H' l vs
 |[],[],_=>trivial |_::_,_::_,⟨a,b⟩=>⟨a.le h,DX.le h b⟩ |[],_::_,h=>h.elim |_::_,[],h=>h.elim
theorem DX.length{H:Mem}:∀{l:List Sh} {vs:List Value},DX H l vs->vs.length=l.length
 |[],[],_=>rfl |_::_,_::_,⟨_,b⟩=>by simp[DX.length b] |[],_::_,h=>h.elim |_::_,[],h=>h.elim
theorem DX.at_{H:Mem}:∀{l:List Sh} {vs:List Value},DX H l vs->∀{j:Nat} {s:Sh} {v:Value},l[j]?=ak s->vs[j]?=ak v->Rep H s v
 |_::_,_::_,⟨a,_⟩,0,_,_,h1,h2=>by simp at h1 h2;subst h1;subst h2;exact a |_::_,_::_,⟨_,b⟩,j+1,_,_,h1,h2=>DX.at_ b (by simpa using h1) (by simpa using h2) |[],[],_,_,_,_,h1,_=>by simp at h1 |[],_::_,h,_,_,_,_,_=>h.elim |_::_,[],h,_,_,_,_,_=>h.elim
theorem DX.OJ{H:Mem}:∀{l:List Sh} {vs:List Value},vs.length=l.length->(∀(j:Nat) (s:Sh) (v:Value),l[j]?=ak s->vs[j]?=ak v->Rep H s v)->DX H l vs
 |[],[],_,_=>trivial |_::_,_::_,hl,h=>⟨h 0 _ _ rfl rfl,DX.OJ (by simpa using hl) fun j s v h1 h2=>h (j+1) s v (by simpa using h1) (by simpa using h2)⟩ |[],_::_,h,_=>by simp at h |_::_,[],h,_=>by simp at h
def Ci(H:Mem)(st n:Nat)(g:Nat->List Sh)(xs:List Value):Prop:=
 xs.length=n*st/\(∀i,i<n->(g i).length=st)/\(∀u∈xs,u.oneCell'=aC)/\
 ∀(i j:Nat) (s:Sh) (v:Value),i<n->(g i)[j]?=ak s->xs[i*st+j]?=ak v->Rep H s v
theorem Ci.le{H H':Mem}(h:H.le H'){st n:Nat}{g:Nat->List Sh}{xs:List Value}(r:Ci H st n g xs):Ci H' st n g xs:=
 ⟨r.1,r.2.1,r.2.2.1,fun i j s v hi h1 h2=>(r.2.2.2 i j s v hi h1 h2).le h⟩
abbrev Env:=Nat->Option Value
def Env.le(E E':Env):Prop:=∀i v,E i=ak v->E' i=ak v
def AL:Value->Option Nat
 | .pointer (ak ⟨b,0,aK⟩)=>ak b | .slice (ak ⟨b,0,aK⟩) _ _=>ak b | .map (ak b)=>ak b |_=>aK
def lenV:Value->Nat
 | .slice _ n _=>n |_=>0
mutual
def Den(H:Mem)(E:Env):SV->Value->Prop
 | .any,_=>True | .val v,u=>u=v/\v.oneCell'=aC | .int k n,u=>u=.int k n | .sym k n,u=>u=.int k n | .bool b,u=>u=.bool b | .test b,u=>u=.bool b | .str l,u=>u=.string ⟨l.toArray⟩ | .ptr id off,u=>∃b,(E id).bind AL=ak b/\u=.pointer (ak ⟨b,off,aK⟩) | .gs id,u=>E id=ak u/\∃A n c,u=.slice A n c | .gp id st i off,u=>∃b v,E id=ak v/\AL v=ak b/\i<lenV v/\u=.pointer (ak ⟨b,i*st+off,aK⟩) | .EZ,u=>u=.pointer aK | .A8,u=>u=.slice aK 0 0 | .Gy,u=>u=.nilFunc | .DT,u=>u=.nilIface | .FY,u=>u=.map aK | .fn f l,u=>∃vs:Array Value,u=.func (.func f) #[] vs/\AA H E l vs.toList | .agg l,u=>∃vs:Array Value,u=.agg vs/\AA H E l vs.toList | .AQ l,u=>∃vs:Array Value,u=.tuple vs/\AA H E l vs.toList | .C9 t x,u=>∃v,u=.iface t v/\Den H E x v | .mp id,u=>∃b,E id=ak (.map (ak b))/\u=.map (ak b) | .sh s,u=>Rep H s u | .GX st n g i off,u=>∃(b o:Nat) (c:Nat->Value),u=.pointer (ak ⟨b,o+off,aK⟩)/\i<n/\(g i).length=st/\
   (∀j,j<st->hcell H b (o+j)=ak (c j)/\(c j).oneCell'=aC)/\∀(j:Nat) (s:Sh),(g i)[j]?=ak s->Rep H s (c j)
 | .glob g,u=>u=.pointer (ak ⟨g,0,aK⟩) | .ev id,u=>E id=ak u | .vw id n,u=>∃A m c,E id=ak (.slice A m c)/\n<=m/\u=.slice A n c
def AA(H:Mem)(E:Env):List SV->List Value->Prop
 |[],[]=>True |s::l,v::vs=>Den H E s v/\AA H E l vs |_,_=>False
end
section
variable{H H':Mem}{E E':Env}
mutual
theorem Den.le(hH:H.le H')(hE:E.le E'):∀{s:SV} {v:Value},Den H E s v->Den H' E' s v
 | .any,_,_=>trivial | .val _,_,h=>h | .int _ _,_,h=>h | .sym _ _,_,h=>h | .bool _,_,h=>h | .test _,_,h=>h | .str _,_,h=>h | .ptr id off,u,⟨b,h1,h2⟩=>⟨b,by
   cases he:E id with
   |none=>simp[he] at h1 |some v=>rw[hE _ _ he];simpa[he] using h1,h2⟩
 | .gs id,u,⟨h,h'⟩=>⟨hE _ _ h,h'⟩ | .gp id st i off,u,⟨b,v,h1,h2⟩=>⟨b,v,hE _ _ h1,h2⟩ | .EZ,_,h=>h | .A8,_,h=>h | .Gy,_,h=>h | .DT,_,h=>h | .FY,_,h=>h | .fn _ _,_,⟨vs,h1,h2⟩=>⟨vs,h1,AA.le hH hE h2⟩ | .agg _,_,⟨vs,h1,h2⟩=>⟨vs,h1,AA.le hH hE h2⟩ | .AQ _,_,⟨vs,h1,h2⟩=>⟨vs,h1,AA.le hH hE h2⟩ | .C9 _ _,_,⟨v,h1,h2⟩=>⟨v,h1,Den.le hH hE h2⟩ | .mp id,_,⟨b,h1,h2⟩=>⟨b,hE _ _ h1,h2⟩ | .sh _,_,h=>Rep.le hH h | .GX _ _ _ _ _,_,⟨b,o,c,h1,h2,h3,h4,h5⟩=>⟨b,o,c,h1,h2,h3,fun j hj=>⟨Jt hH (h4 j hj).1,(h4 j hj).2⟩,fun j s hs=>(h5 j s hs).le hH⟩ | .glob _,_,h=>h | .ev _,_,h=>hE _ _ h | .vw _ _,_,⟨A,m,c,h1,h2⟩=>⟨A,m,c,hE _ _ h1,h2⟩
theorem AA.le(hH:H.le H')(hE:E.le E'):∀{l:List SV} {vs:List Value},AA H E l vs->AA H' E' l vs
 |[],[],_=>trivial |_::_,_::_,⟨a,b⟩=>⟨Den.le hH hE a,AA.le hH hE b⟩ |[],_::_,h=>h.elim |_::_,[],h=>h.elim
end
theorem AA.length:∀{l:List SV} {vs:List Value},AA H E l vs->vs.length=l.length
 |[],[],_=>rfl |_::_,_::_,⟨_,b⟩=>by simp[AA.length b] |[],_::_,h=>h.elim |_::_,[],h=>h.elim
theorem AA.at_:∀{l:List SV} {vs:List Value},AA H E l vs->∀{j:Nat} {s:SV} {v:Value},l[j]?=ak s->vs[j]?=ak v->Den H E s v
 |_::_,_::_,⟨a,_⟩,0,_,_,h1,h2=>by simp at h1 h2;subst h1;subst h2;exact a |_::_,_::_,⟨_,b⟩,j+1,_,_,h1,h2=>AA.at_ b (by simpa using h1) (by simpa using h2) |[],[],_,_,_,_,h1,_=>by simp at h1 |[],_::_,h,_,_,_,_,_=>h.elim |_::_,[],h,_,_,_,_,_=>h.elim
theorem AA.get:∀{l:List SV} {vs:List Value},AA H E l vs->∀{j:Nat} {s:SV},l[j]?=ak s->∃v,vs[j]?=ak v/\Den H E s v:=by
 intro l vs h j s hs;have hj:j<l.length:=(aV.1 hs).1;have hj':j<vs.length:=by rw[h.length];exact hj
 exact ⟨vs[j],aS hj',h.at_ hs (aS hj')⟩
theorem AA.append:∀{l l':List SV} {vs vs':List Value},AA H E l vs->AA H E l' vs'->AA H E (l++l') (vs++vs')
 |[],_,[],_,_,h'=>h' |_::_,_,_::_,_,⟨a,b⟩,h'=>⟨a,AA.append b h'⟩ |[],_,_::_,_,h,_=>h.elim |_::_,_,[],_,h,_=>h.elim
theorem AA.drop:∀{l:List SV} {vs:List Value},AA H E l vs->∀n,AA H E (l.drop n) (vs.drop n)
 |_,_,h,0=>h |[],[],_,_+1=>trivial |_::_,_::_,⟨_,b⟩,n+1=>AA.drop b n |[],_::_,h,_+1=>h.elim |_::_,[],h,_+1=>h.elim
theorem AA.take:∀{l:List SV} {vs:List Value},AA H E l vs->∀n,AA H E (l.take n) (vs.take n)
 |_,_,_,0=>by simp[AA] |[],[],_,_+1=>trivial |_::_,_::_,⟨a,b⟩,n+1=>⟨a,AA.take b n⟩ |[],_::_,h,_+1=>h.elim |_::_,[],h,_+1=>h.elim
theorem AA.set:∀{l:List SV} {vs:List Value},AA H E l vs->∀(n:Nat) {s:SV} {v:Value},Den H E s v->AA H E (l.set n s) (vs.set n v)
 |[],[],_,_,_,_,_=>trivial |_::_,_::_,⟨_,b⟩,0,_,_,h=>⟨h,b⟩ |_::_,_::_,⟨a,b⟩,n+1,_,_,h=>⟨a,AA.set b n h⟩ |[],_::_,h,_,_,_,_=>h.elim |_::_,[],h,_,_,_,_=>h.elim
theorem AA.any:∀(n:Nat) (vs:List Value),vs.length=n->AA H E (dU n .any) vs
 |0,[],_=>trivial |n+1,_::vs,h=>⟨trivial,AA.any n vs (by simpa using h)⟩ |0,_::_,h=>by simp at h |_+1,[],h=>by simp at h
end
structure Kx where
 w0:World
 own:Nat->Prop
 H0:Mem
def Mine(K:Kx)(H:Mem)(b:Nat):Prop:=H b=aK/\(K.w0.heap.size<=b\/K.own b)
def Oh(H:Mem)(E:Env):List (SV×SV)->List MapEntry->Prop
 |[],[]=>True |(k,v)::l,m::ms=>Den H E k m.key/\Den H E v m.val/\Oh H E l ms |_,_=>False
def Gz(H:Mem)(E:Env):List (Int×Bool×SV)->List (Int×Option Value)->Prop
 |[],[]=>True |(k,p,sv)::l,(n,o)::r=>n=k/\(match p,o with|true,ak v=>Den H E sv v/\v.oneCell'=aC|false,aK=>True|_,_=>False)/\Gz H E l r
 |_,_=>False
def Ur(M:Int->Option Value):List (Int×Option Value)->Int->Option Value
 |[]=>M |(n,o)::r=>fun k=>if k=n then o else Ur M r k
abbrev DY:=Int×List UInt8
def Dt(n:DY):Value:=.agg #[.int .i64 n.1,.string ⟨n.2.toArray⟩]
def V9(H:Mem)(E:Env):List (DY×Bool×SV)->List (DY×Option Value)->Prop
 |[],[]=>True |(k,p,sv)::l,(n,o)::r=>n=k/\(match p,o with|true,ak v=>Den H E sv v/\v.oneCell'=aC|false,aK=>True|_,_=>False)/\V9 H E l r
 |_,_=>False
def RS(M:DY->Option Value):List (DY×Option Value)->DY->Option Value
 |[]=>M |(n,o)::r=>fun k=>if k=n then o else RS M r k
def amZ:VT->Value->Prop
 | .int,v=>∃n,v=.int .i64 n | .bool,v=>∃b,v=.bool b
def ake(vt:VT)(M:DY->Option Value):Prop:=∀k v,M k=ak v->amZ vt v
def am0(vt:VT)(us:List (DY×Bool×SV)):Prop:=∀u∈us,u.2.1=aC->u.2.2.adn vt=aC
structure YU(ms:List MapEntry)(N:DY->Option Value):Prop where
 key:∀m∈ms,∃n,m.key=Dt n
 ZP:∀m∈ms,∀n,m.key=Dt n->N n=ak m.val
 ex:∀n v,N n=ak v->∃m∈ms,m.key=Dt n
 one:∀(i j:Nat) (m m':MapEntry),ms[i]?=ak m->ms[j]?=ak m'->m.key=m'.key->i=j
def IW(k:IntKind)(n:Int):List MapEntry->Option Value
 |[]=>aK |m::r=>match Instr.sameNow (.int k) (.int k n) m.key with
  |some aC=>ak m.val |_=>IW k n r
structure FI(k:IntKind)(ms:List MapEntry)(clk:Nat)(N:Int->Option Value):Prop where
 key:∀m∈ms,∃n,m.key=.int k n
 at_:∀n,IW k n ms=N n
 one:∀(i j:Nat) (m m':MapEntry),ms[i]?=ak m->ms[j]?=ak m'->m.key=m'.key->i=j
 born:∀(i j:Nat) (m m':MapEntry),ms[i]?=ak m->ms[j]?=ak m'->m.born=m'.born->i=j
 lt:∀m∈ms,m.born<clk
def aeG(E:Env)(k:IntKind)(ms:List MapEntry):Option (Nat×Int)->Prop
 |none=>True |some (s,n)=>∃m∈ms,m.key=.int k n/\E s=ak (.int .i64 m.born)
def bytesV(l:List UInt8):List Value:=l.map fun b=>.int .u8 b.toNat
def GY(w:World)(e:TypeId)(v:Value)(l:List UInt8):Prop:=
 (v=.slice aK 0 0/\l=[])\/∃g cap cur fz,v=.slice (ak ⟨g,0,aK⟩) l.length cap/\w.heap[g]?=ak (.cells cur e fz)/\(fz.2<=l.length\/cap<=fz.1)/\l.length<=cap/\cap<=maxLen/\cur.size=cap/\cur.toList.take l.length=bytesV l
def GI(K:Kx)(H:Mem)(E:Env)(w:World)(id:Nat):SB->Prop
 | .box cells elem=>∃b cs,E id=ak (.pointer (ak ⟨b,0,aK⟩))/\w.heap[b]?=ak (.cells cs elem (0,0))/\AA H E cells cs.toList/\Mine K H b | .row cells elem st n=>∃v xs,E id=ak v/\w.ownsRow 0 elem st v n xs/\AA H E cells xs/\∀b,AL v=ak b->Mine K H b | .own elem st n g=>∃v xs,E id=ak v/\w.ownsRow 0 elem st v n xs/\Ci H st n g xs/\∀b,AL v=ak b->Mine K H b | .fz st n g=>∃v,E id=ak v/\Rep H (.sl st n g) v | .map es=>∃b ms clk,E id=ak (.map (ak b))/\w.heap[b]?=ak (.map ms clk)/\Oh H E es ms.toList/\Mine K H b | .Rw l=>∃v,E id=ak v/\Rep H (.pt l) v | .Hf elem st n g more=>∃v xs ys,E id=ak v/\w.ownsRow 0 elem st v (n+more.length / st) (xs++ys)/\Ci H st n g xs/\AA H E more ys/\more.length % st=0/\FP more=aC/\∀b,AL v=ak b->Mine K H b | .fm k M fs us tag=>∃b ms clk fv uv,E id=ak (.map (ak b))/\w.heap[b]?=ak (.map ms clk)/\Gz H E fs fv/\Gz H E us uv/\(∀n o,(n,o)∈fv->M n=o)/\FI k ms.toList clk (Ur M uv)/\aeG E k ms.toList tag/\Mine K H b | .pm vt M us=>∃b ms clk uv,E id=ak (.map (ak b))/\w.heap[b]?=ak (.map ms clk)/\V9 H E us uv/\ake vt M/\am0 vt us/\YU ms.toList (RS M uv)/\Mine K H b | .buf e l=>∃v,E id=ak v/\GY w e v l/\∀b,AL v=ak b->Mine K H b
def Bd(E:Env)(id:Nat):SB->Option Nat
 | .fz _ _ _=>aK | .Rw _=>aK |_=>(E id).bind AL
structure AO(K:Kx)(H:Mem)(E:Env)(w:World)(hp:List (Nat×SB)):Prop where
 ent:∀id sb,Ak hp id=ak sb->GI K H E w id sb
 Gq:∀id id' sb sb' b,Ak hp id=ak sb->Ak hp id'=ak sb'->Bd E id sb=ak b->Bd E id' sb'=ak b->id=id'
structure Eh(K:Kx)(H:Mem)(w:World):Prop where
 os:w.os=K.w0.os
 tape:w.tape=K.w0.tape
 output:w.output=K.w0.output
 size:K.w0.heap.size<=w.heap.size
 kept:∀b,b<K.w0.heap.size->¬K.own b->w.heap[b]?=K.w0.heap[b]?
 on:H.on w
 le:K.H0.le H
 fresh:∀b,H b≠aK->K.H0 b≠aK\/K.w0.heap.size<=b\/K.own b
open Go.RowKit (Below)
def Ai:Prim where
 add k x y:=k.wrap (x+y)
 sub k x y:=k.wrap (x - y)
 mul k x y:=k.wrap (x*y)
 neg k x:=k.wrap (0 - x)
 lt x y:=decide (x<y)
 le x y:=decide (x<=y)
 eq x y:=x==y
 max x y:=if y>x then y else x
 min x y:=if y<x then y else x
 inB i n:=decide (0<=i/\i<n)
 upTo i n:=decide (0<=i/\i<=n)
 toN i:=i.toNat
 AZ n:=n
 addN i j:=i+j
 JK i j:=i - j
 ZN i j:=decide (i<=j)
 room n b:=decide (n*b<=140737488355328/\n<=maxLen)
 len l:=l.length
 nt b:=!b
 ite c x y:=bif c then x else y
 beq x y:=x==y
 seq x y:=x==y
 app x y:=x++y
 snoc g n h i:=if i<n then g i else h (i - n)
 upd g i off l j:=if j=i then (g j).take off++l++(g j).drop (off+l.length) else g j
 bin op k a b:=VY op k a b
 conv k a:=k.wrap a
 ins g i l j:=if j<i then g j else if j=i then l else g (j - 1)
 kp a l b m:=decide (a=b/\l=m)
 isS o:=o.isSome
 aso o:=match o with|some (.int .i64 n)=>n|_=>0
 HY o:=match o with|some (.bool b)=>b|_=>ay
def E0:Env:=fun _=>aK
def M0:Mem:=fun _=>aK
def ads(P:Program)(fields:Array Field)(fs:List (Nat×Nat×Bool)):Prop:=
 fields.size=fs.length/\∀(j:Nat) (f:Field),fields[j]?=ak f->∃inf:TypeInfo,P.info? f.type=ak inf/\
  fs[j]?=ak (f.offset,inf.size,match P.underlying f.type with|some (.struct _) |some (.array _ _)=>aC|_=>ay)/\(P.underlying f.type).isSome=aC
def aeH(P:Program)(t:Nat):Ty->Prop
 | .int k=>P.underlying t=ak (.int k) | .bool=>P.underlying t=ak .bool | .str=>P.underlying t=ak .string | .ptr e=>P.underlying t=ak (.pointer e) | .fn=>∃ps rs b,P.underlying t=ak (.func ps rs b) | .iface=>∃ms,P.underlying t=ak (.interface ms) | .map k e=>P.underlying t=ak (.map k e) | .slice e=>P.underlying t=ak (.slice e) | .struct fs=>∃fields,P.underlying t=ak (.struct fields)/\ads P fields fs | .arr n e=>P.underlying t=ak (.array n e) | .other=>False
structure Oi(P:Program)(t:Nat)(i:J9):Prop where
 desc:aeH P t i.ty
 info:∃(inf:TypeInfo) (z:Value),P.info? t=ak inf/\inf.size=i.size/\inf.bytes=i.bytes/\inf.zero=ak z/\AA M0 E0 i.zero z.cells.toList/\z.cells.size=i.size/\
  (i.ty.isAgg=aC->∃cs,z=.agg cs)/\(i.ty.isAgg=ay->i.size=1/\z.oneCell'=aC)
def Gh(H:Mem)(g:Nat)(s:Sh):Prop:=
 match s with
 | .AQ l=>(∃cs e f,H g=ak (.cells cs e f)/\cs.size=l.length)/\∃c:Nat->Value,(∀(j:Nat),j<l.length->hcell H g j=ak (c j)/\(c j).oneCell'=aC)/\∀(j:Nat) (s:Sh),l[j]?=ak s->Rep H s (c j) |s=>∃v,hcell H g 0=ak v/\Rep H s v/\v.oneCell'=aC
structure Dj(gls:List (Nat×Sh))(H:Mem):Prop where
 at_:∀g s,Ak gls g=ak s->Gh H g s
 apart:∀g g' T T',Ak gls g=ak (.er g T)->Ak gls g'=ak (.er g' T')->g≠g'->hcell H g 0≠hcell H g' 0
theorem Dj.le{gls:List (Nat×Sh)}{H H':Mem}(h:Dj gls H)(hH:H.le H'):Dj gls H' where
 at_ g s hg:=by
  have:=h.at_ g s hg;cases s with
  |AQ l=>obtain ⟨⟨cs,e,f,q1,q2⟩,c,h1,h2⟩:=this;exact ⟨⟨cs,e,f,hH _ _ q1,q2⟩,c,fun j hj=>⟨Jt hH (h1 j hj).1,(h1 j hj).2⟩,fun j s hs=>(h2 j s hs).le hH⟩ |_=>obtain ⟨v,h1,h2,h3⟩:=this;exact ⟨v,Jt hH h1,h2.le hH,h3⟩
 apart g g' T T' h1 h2 hne:=by
  have a1:Gh H g (.er g T):=h.at_ g _ h1;have a2:Gh H g' (.er g' T'):=h.at_ g' _ h2;obtain ⟨v1,b1,_⟩:=a1;obtain ⟨v2,b2,_⟩:=a2;have:=h.apart g g' T T' h1 h2 hne;rw[b1,b2] at this;rw[Jt hH b1,Jt hH b2];exact this
section
variable{P:Program}{C:Ctx}{K:Kx}{H:Mem}{E:Env}{w:World}
theorem ail{t:Nat}{i:J9}(h:Oi P t i)(w:World):(isAgg t).run P w=.ok i.ty.isAgg w:=by
 have hd:=h.desc;unfold isAgg;cases hi:i.ty<;>rw[hi] at hd<;>simp only[aeH] at hd
 case struct fs=>obtain ⟨f,hf,_⟩:=hd;simp[run_underlying hf,Ty.isAgg]
 case fn=>obtain ⟨_,_,_,hd⟩:=hd;simp[run_underlying hd,Ty.isAgg]
 case iface=>obtain ⟨_,hd⟩:=hd;simp[run_underlying hd,Ty.isAgg]
 all_goals simp[run_underlying hd,Ty.isAgg]
theorem Ju{t:Nat}{i:J9}(h:Oi P t i)(w:World):(sizeOf t).run P w=.ok i.size w:=by
 obtain ⟨inf,z,h1,h2,_⟩:=h.info;simp[sizeOf,typeInfo,h1,h2]
theorem alm{t:Nat}{i:J9}(h:Oi P t i)(w:World):∃z:Value,(zeroValue t).run P w=.ok z w/\AA M0 E0 i.zero z.cells.toList/\z.cells.size=i.size:=by
 obtain ⟨inf,z,h1,_,_,h4,h5,h6,_⟩:=h.info;exact ⟨z,by simp[zeroValue,typeInfo,h1,h4],h5,h6⟩
theorem ain(v:Value):Den H E (.ofValue v) v:=by
 unfold SV.ofValue;split<;>first|exact ⟨rfl,rfl⟩ |simp[Den]
theorem BA{tm:List SV}{a:Act}(hd:AA H E tm a.tmps.toList)(x:Operand):Den H E (BI tm x) (a.eval x):=by
 cases x with
 |tmp t=>
  simp only[BI,Act.eval];by_cases ht:t<tm.length
  ·have h1:tm[t]?=ak tm[t]:=aS ht
   obtain ⟨v,hv,h2⟩:=hd.get h1;have:a.tmps.getD t undef=v:=by
    rw[dX] at hv;simp[iQ,hv]
   rw[this,aX,h1];exact h2
  ·rw[aX,List.getElem?_eq_none (Nat.le_of_not_lt ht)]
   trivial
 |const v=>exact ain v |global g=>exact rfl |func f=>exact ⟨#[],rfl,trivial⟩
theorem afH{x:Value}(h:x.oneCell'=aC):Den H E (SV.lit x) x:=by
 unfold SV.lit;split
 ·rfl
 ·rfl
 ·rfl
 ·exact ⟨rfl,h⟩
mutual
theorem UW:∀{s:Sh} {v:Value},Rep H s v->Den H E (XI s) v
 | .i _ _,_,h=>by cases h;rfl | .b _,_,h=>by cases h;rfl | .v _,_,h=>by cases h with|v _ h1=>exact afH h1
 | .str _,_,h=>h | .sl _ _ _,_,h=>h | .C9 _ _,_,h=>h | .er _ _,_,h=>h | .fn _ l,_,h=>by
  cases h with
  |fn _ _ vs h1 h2=>exact ⟨vs,rfl,Jv (DX.OJ (by simpa using h1) fun j s v e1 e2=>h2 j s v e1 (by simpa using e2))⟩
 | .pt l,_,h=>by
  cases h with
  |pt _ b off c h1 h2 h3=>exact ⟨b,off,c,rfl,Nat.zero_lt_one,rfl,fun j hj=>⟨h1 j hj,h2 j hj⟩,h3⟩
 | .os _ _ _ _,_,h=>by cases h | .agg l,_,h=>by
  cases h with
  |agg _ vs h1 h2=>exact ⟨vs,rfl,Jv (DX.OJ (by simpa using h1) fun j s v e1 e2=>h2 j s v e1 (by simpa using e2))⟩
 | .AQ l,_,h=>by
  cases h with
  |AQ _ vs h1 h2=>exact ⟨vs,rfl,Jv (DX.OJ (by simpa using h1) fun j s v e1 e2=>h2 j s v e1 (by simpa using e2))⟩
theorem Jv:∀{l:List Sh} {vs:List Value},DX H l vs->AA H E (Q8 l) vs
 |[],[],_=>trivial |_::_,_::_,⟨h1,h2⟩=>⟨UW h1,Jv h2⟩ |[],_::_,h=>h.elim |_::_,[],h=>h.elim
end
theorem XT{s:Sh}{v:Value}(h:Rep H s v)(h1:v.oneCell'=aC):Den H E s.Js v:=by
 cases h;case v hx=>
  simp only[Sh.Js];unfold SV.lit;split
  ·rfl
  ·rfl
  ·rfl
  ·exact ⟨rfl,hx⟩
 all_goals simp[Sh.Js,Den]
 case sl0 st g A cap hc=>exact .sl0 st g A cap hc
 case sl st n g b off cap c a1 a2 a3 a4 a5 a6=>exact .sl st n g b off cap c a1 a2 a3 a4 a5 a6
 case str l=>exact .str l
 case agg l vs _ _=>simp[ku] at h1
 case AQ l vs _ _=>simp[ku] at h1
 case C9 t x u hu=>exact .C9 t x u hu
 case fn f l vs hs hv=>exact Jv (DX.OJ (by simpa using hs) fun j s v e1 e2=>hv j s v e1 (by simpa using e2))
 case er g T b cs e a1 a2=>exact .er g T b cs e a1 a2
 case pt l b off c a1 a2 a3=>exact ⟨b,off,⟨rfl,rfl⟩,c,fun j hj=>⟨a1 j hj,a2 j hj⟩,a3⟩
def UY(H:Mem)(E:Env)(hp:List (Nat×SB))(w w':World):Prop:=
 ∀b,(H b≠aK\/∃id sb,Ak hp id=ak sb/\Bd E id sb=ak b)->w'.heap[b]?=w.heap[b]?
theorem UY.refl(H:Mem)(E:Env)(hp:List (Nat×SB))(w:World):UY H E hp w w:=fun _ _=>rfl
theorem Kv{l:List SV}{off n:Nat}{r:List SV}(h:seg l off n=ak r):off+n<=l.length/\r=(l.drop off).take n:=by
 unfold seg at h;cases hb:iq (off+n) l.length<;>simp[hb] at h
 exact ⟨gq hb,h.symm⟩
theorem Nu{agg:Bool}{l:List SV}{v:SV}(h:pack agg l=ak v):(agg=aC/\v=.agg l)\/(agg=ay/\l=[v]):=by
 unfold pack at h;cases agg
 ·right
  simp only[cond_false] at h;split at h<;>simp at h
  subst h;exact ⟨rfl,rfl⟩
 ·left;simp at h;exact ⟨rfl,h.symm⟩
theorem adt{t:Nat}{i:J9}(ht:Oi P t i){a:Addr}{cs:List Value}(hl:cs.length=i.size)(hc:∀j v,cs[j]?=ak v->w.cell? (a.add j)=ak v):
  (loadVar t a).run P w=.ok (if i.ty.isAgg then .agg cs.toArray else cs.headD undef) w:=by
 unfold loadVar;simp only[gK,ail ht,gy];cases hi:i.ty.isAgg
 ·obtain ⟨_,_,_,_,_,_,_,_,_,h1⟩:=ht.info
  have h1:=(h1 hi).1;rw[h1] at hl;match cs,hl with
  |[c],_=>
   have:=hc 0 c rfl;simp[wP] at this;simp[run_load,this]
 ·have:=run_loadCells_list (P:=P) (w:=w) a cs hc
  rw[hl] at this;simp[Ju ht,this]
def Nv(agg:Bool)(cs:List Value):Value:=if agg then .agg cs.toArray else cs.headD undef
theorem Kw{agg:Bool}{l:List SV}{sv:SV}{cs:List Value}(h:pack agg l=ak sv)(hd:AA H E l cs):Den H E sv (Nv agg cs):=by
 rcases Nu h with ⟨rfl,rfl⟩ |⟨rfl,rfl⟩
 ·exact ⟨cs.toArray,by simp[Nv],hd⟩
 ·match cs,hd with
  |[c],⟨hc,_⟩=>exact hc
theorem Jw{hp:List (Nat×SB)}{w':World}(ha:UY H E hp w w'){id b:Nat}{sb:SB}(hl:Ak hp id=ak sb)(hb:Bd E id sb=ak b):
  w'.heap[b]?=w.heap[b]?:=ha b (.inr ⟨id,sb,hl,hb⟩)
theorem Wh{elem st n:Nat}{v:Value}{xs:List Value}(h:w.ownsRow 0 elem st v n xs){j:Nat}{u:Value}(hu:xs[j]?=ak u):
  ∃b cur,AL v=ak b/\w.heap[b]?=ak (.cells cur elem (0,0))/\cur.toList[j]?=ak u:=by
 obtain ⟨hl,h⟩:=h;rcases h with ⟨rfl,rfl⟩ |⟨g,cap,cur,rfl,_,hg,_,_,hs,ht⟩
 ·have:xs=[]:=List.eq_nil_of_length_eq_zero (by simpa using hl)
  subst this;simp at hu
 ·refine ⟨g,cur,rfl,hg,?_⟩
  rw[<-ht,bY] at hu;split at hu
  ·exact hu
  ·cases hu
theorem acU{st n:Nat}{g:Nat->List Sh}{xs:List Value}(h:Ci H st n g xs){i:Nat}(hi:i<n):
  AA H E ((g i).map Sh.Js) ((xs.drop (i*st)).take st):=by
 obtain ⟨h1,h2,h3,h4⟩:=h;have hg:=h2 i hi;have hlen:i*st+st<=xs.length:=by
  rw[h1];calc i*st+st=(i+1)*st:=by rw[Nat.add_mul,Nat.one_mul]
   _<=n*st:=Nat.mul_le_mul_right _ hi
 have key:∀(l:List Sh) (vs:List Value),vs.length=l.length->(∀(j:Nat) (s:Sh) (v:Value),l[j]?=ak s->vs[j]?=ak v->Rep H s v/\v.oneCell'=aC)->AA H E (l.map Sh.Js) vs:=by
  intro l;induction l with
  |nil=>intro vs hl _;match vs,hl with|[],_=>trivial
  |cons s l ih=>
   intro vs hl h;match vs,hl with
   |v::vs,hl=>
    have h0:=h 0 s v rfl rfl;exact ⟨XT h0.1 h0.2,ih vs (by simpa using hl) fun j s' v' e1 e2=>h (j+1) s' v' (by simpa using e1) (by simpa using e2)⟩
 refine key _ _ (by simp[cu,dS];omega) fun j s v e1 e2=>?_
 have hj:j<st:=by rw[<-hg];exact (aV.1 e1).1
 rw[bY,if_pos hj,eP] at e2;exact ⟨h4 i j s v hi e1 e2,h3 v (List.mem_of_getElem? e2)⟩
theorem range_map_get{st k:Nat}{c:Nat->Value}{v:Value}(h:((aZ st).map c)[k]?=ak v):k<st/\c k=v:=by
 have hk:k<st:=by simpa using (aV.1 h).1
 refine ⟨hk,?_⟩;simpa[List.getElem?_range hk] using h
theorem UZ{l:List Sh}{st:Nat}{c:Nat->Value}(hl:l.length=st)(hr:∀(j:Nat) (s:Sh),l[j]?=ak s->Rep H s (c j))(h1:∀j,j<st->(c j).oneCell'=aC):
  AA H E (l.map Sh.Js) ((aZ st).map c):=by
 have key:∀(l:List Sh) (c:Nat->Value),(∀(j:Nat) (s:Sh),l[j]?=ak s->Rep H s (c j)/\(c j).oneCell'=aC)->AA H E (l.map Sh.Js) ((aZ l.length).map c):=by
  intro l;induction l with
  |nil=>intro c _;trivial |cons s l ih=>
   intro c h;rw[iU,List.range_succ_eq_map,jr,jr,List.map_map];exact ⟨XT (h 0 s rfl).1 (h 0 s rfl).2,ih (c ∘ Nat.succ) fun j s' e=>h (j+1) s' (by simpa using e)⟩
 rw[<-hl];exact key l c fun j s e=>⟨hr j s e,h1 j (by rw[<-hl];exact (aV.1 e).1)⟩
theorem YV{c:Core}{agg:Bool}{size:Nat}{x sv:SV}{u:Value}(hx:Den H E x u)(hh:AO K H E w c.hp)(hg:Dj C.gls H)(hsz:agg=ay->size=1)
  (h:aex C c agg size x=ak sv):∃(a:Addr) (cs:List Value),u=.pointer (ak a)/\cs.length=size/\Den H E sv (Nv agg cs)/\
   ∀w',UY H E c.hp w w'->H.on w'->∀(j:Nat) (v:Value),cs[j]?=ak v->w'.cell? (a.add j)=ak v:=by
 unfold aex at h;split at h
 ·
  rename_i id off;obtain ⟨b,hb,rfl⟩:=hx;split at h
  ·rename_i cells elem hl
   obtain ⟨b',cs,he,hw,hd,_⟩:=hh.ent _ _ hl;simp only[he,eU,AL,kX] at hb;subst hb;cases hs:seg cells off size with
   |none=>simp[hs] at h |some r=>
    simp only[hs,eU] at h;obtain ⟨hle,rfl⟩:=Kv hs;have hdl:=hd.length;refine ⟨_,(cs.toList.drop off).take size,rfl,by simp[cu,dS];simp at hdl;omega,Kw h ((hd.drop off).take size),?_⟩;intro w' ha _ j v hv;rw[bY] at hv;split at hv
    ·rw[eP,dX] at hv
     have hk:=Jw ha hl (b:=b') (by simp[Bd,he,AL]);simp[oJ,eY,hk,hw,hv]
    ·cases hv
  ·rename_i cells elem st n hl
   obtain ⟨v',xs,he,ho,hd,_⟩:=hh.ent _ _ hl;cases hs:seg cells off size with
   |none=>simp[hs] at h |some r=>
    simp only[hs,eU] at h;obtain ⟨hle,rfl⟩:=Kv hs;have hdl:=hd.length;refine ⟨_,(xs.drop off).take size,rfl,by simp[cu,dS];omega,Kw h ((hd.drop off).take size),?_⟩;intro w' ha _ j v hv;rw[bY] at hv;split at hv
    ·rw[eP] at hv
     obtain ⟨b',cur,hb',hw,hu⟩:=Wh ho hv;simp only[he,eU,hb',kX] at hb;subst hb;have hk:=Jw ha hl (b:=b') (by simp[Bd,he,hb']);rw[dX] at hu;simp[oJ,eY,hk,hw,hu]
    ·cases hv
  ·rename_i l hl
   obtain ⟨v',he,hr⟩:=hh.ent _ _ hl;cases hr with
   |pt _ b2 off2 c2 h1 h2 h3=>
    have h02:b2=b/\off2=0:=by
     rw[he] at hb;simp only[eU] at hb;unfold AL at hb;split at hb<;>simp_all
    obtain ⟨rfl,rfl⟩:=h02;cases hs:seg (l.map Sh.Js) off size with
    |none=>simp[hs] at h |some r=>
     simp only[hs,eU] at h;obtain ⟨hle,rfl⟩:=Kv hs;rw[dP] at hle;have hd:AA H E (l.map Sh.Js) ((aZ l.length).map c2):=UZ rfl h3 h2;refine ⟨_,(((aZ l.length).map c2).drop off).take size,rfl,by simp[cu,dS];omega,Kw h ((hd.drop off).take size),?_⟩;intro w' _ hon j v hv;rw[bY] at hv;split at hv
     ·rw[eP] at hv
      obtain ⟨hk,rfl⟩:=range_map_get hv;have:=MS hon (h1 (off+j) hk);simpa[eY] using this
     ·cases hv
  ·cases h
 ·
  rename_i id st i off;obtain ⟨b,v',he,hb,hi,rfl⟩:=hx;split at h
  ·rename_i elem st' n g hl
   obtain ⟨v'',xs,he',ho,hr,_⟩:=hh.ent _ _ hl;rw[he] at he';cases he';have hn:lenV v'=n:=by
    rcases ho.2 with ⟨rfl,rfl⟩ |⟨_,_,_,rfl,_⟩<;>rfl
   rw[hn] at hi;cases hst:(st==st')<;>simp only[hst,cond_true,cond_false] at h
   ·cases h
   obtain rfl:st=st':=by simpa using hst
   cases hs:seg ((g i).map Sh.Js) off size with
   |none=>simp[hs] at h |some r=>
    simp only[hs,eU] at h;obtain ⟨hle,rfl⟩:=Kv hs;have hd:=acU (E:=E) hr hi;have hdl:=hd.length;refine ⟨_,(((xs.drop (i*st)).take st).drop off).take size,rfl,by rw[cu,dS];omega,Kw h ((hd.drop off).take size),?_⟩;intro w' ha _ j v hv;rw[bY] at hv;split at hv
    ·rw[eP,bY] at hv
     split at hv
     ·rw[eP] at hv
      obtain ⟨b',cur,hb',hw,hu⟩:=Wh ho hv;rw[hb] at hb';cases hb';have hk:=Jw ha hl (b:=b) (by simp[Bd,he,hb]);rw[dX] at hu;simp[oJ,eY,hk,hw];rw[<-hu];congr 1;omega
     ·cases hv
    ·cases hv
  ·rename_i st' n g hl
   obtain ⟨v'',he',hr⟩:=hh.ent _ _ hl;rw[he] at he';cases he';cases hst:(st==st')<;>simp only[hst,cond_true,cond_false] at h
   ·cases h
   obtain rfl:st=st':=by simpa using hst
   cases hr with
   |sl0 _ _ A cap hc=>simp[lenV] at hi |sl _ _ _ b2 off2 cap c h1 h2 h3 h4 h5 h6=>
    simp only[lenV] at hi;have h02:b2=b/\off2=0:=by
     unfold AL at hb;split at hb<;>simp_all
    obtain ⟨rfl,rfl⟩:=h02;cases hs:seg ((g i).map Sh.Js) off size with
    |none=>simp[hs] at h |some r=>
     simp only[hs,eU] at h;obtain ⟨hle,rfl⟩:=Kv hs;rw[dP,h3 i hi] at hle;have hd:AA H E ((g i).map Sh.Js) ((aZ st).map (c i)):=UZ (h3 i hi) (fun j s hs=>h6 i j s hi hs) (fun j hj=>h5 i j hi hj);refine ⟨_,(((aZ st).map (c i)).drop off).take size,rfl,by simp[cu,dS];omega,Kw h ((hd.drop off).take size),?_⟩;intro w' _ hon j v hv;rw[bY] at hv;split at hv
     ·rw[eP] at hv
      obtain ⟨hk,rfl⟩:=range_map_get hv;have:=MS hon (h4 i (off+j) hi hk);simpa[eY,kC] using this
     ·cases hv
  ·cases h
 ·
  rename_i st n g i off;obtain ⟨b,o,c,rfl,hi,hgl,hc,hr⟩:=hx;cases hs:seg ((g i).map Sh.Js) off size with
  |none=>simp[hs] at h |some r=>
   simp only[hs,eU] at h;obtain ⟨hle,rfl⟩:=Kv hs;rw[dP,hgl] at hle;have hd:AA H E ((g i).map Sh.Js) ((aZ st).map c):=UZ hgl hr (fun j hj=>(hc j hj).2);refine ⟨_,(((aZ st).map c).drop off).take size,rfl,by simp[cu,dS];omega,Kw h ((hd.drop off).take size),?_⟩;intro w' _ hon j v hv;rw[bY] at hv;split at hv
   ·rw[eP] at hv
    obtain ⟨hk,rfl⟩:=range_map_get hv;have:=MS hon (hc (off+j) hk).1;simpa[eY,kC] using this
   ·cases hv
 ·rename_i g
  obtain rfl:u=_:=hx;cases agg<;>simp only[cond_true,cond_false] at h
  ·cases hl:Ak C.gls g with
   |none=>simp[hl] at h |some s=>
    have hgl:=hg.at_ g s hl;have h:s.Js=sv/\∃v,hcell H g 0=ak v/\Rep H s v/\v.oneCell'=aC:=by
     cases s<;>simp[hl] at h<;>exact ⟨h,hgl⟩
    obtain ⟨rfl,v,h1,h2,h3⟩:=h;refine ⟨_,[v],rfl,(hsz rfl).symm,XT h2 h3,?_⟩;intro w' _ hon j v' hv;match j,hv with
    |0,hv=>
     simp at hv;subst hv;simpa[wP] using MS hon h1
  ·cases h
 ·cases h
end
structure RU(P:Program)(t:Nat):Prop where
 und:∃fs,P.underlying t=ak (.struct fs)
 chk:∀(em:Bool) (n:DY) (w:World),(Instr.checkKey em 10000 t (Dt n)).run P w=.ok () w
 eq:∀(n m:DY) (w:World),(Op.equal t (Dt n) (Dt m)).run P w=.ok (decide (n=m)) w
structure BG(P:Program)(C:Ctx):Prop where
 ty:∀t i,C.tys.get t=ak i->Oi P t i
 fn:∀g fn,C.fns.get g=ak fn->P.funcs[g]?=ak fn
 A:C.A=Ai
 mixed:P.follows .mixedOrders=aC
 eqs:∀t i,C.eqs.contains t=aC->C.tys.get t=ak i->∀(xs ys:List Cq) (w:World),Dl xs i.zero=aC->Dl ys i.zero=aC->∀x y:Operand,
  (do eqGuard .eql t x y (.agg (xs.map Cq.v).toArray) (.agg (ys.map Cq.v).toArray);binOp .eql t (.agg (xs.map Cq.v).toArray) (.agg (ys.map Cq.v).toArray):Sem Value).run P w=.ok (.bool (decide (xs=ys))) w/\
  (do eqGuard .neq t x y (.agg (xs.map Cq.v).toArray) (.agg (ys.map Cq.v).toArray);binOp .neq t (.agg (xs.map Cq.v).toArray) (.agg (ys.map Cq.v).toArray):Sem Value).run P w=.ok (.bool (!decide (xs=ys))) w
 VU:∀T,C.VU.contains T=aC->∃inf e ie,P.info? T=ak inf/\inf.comparable=aC/\P.underlying T=ak (.pointer e)/\P.info? e=ak ie/\ie.size≠0
 pks:∀t,C.pks.contains t=aC->RU P t
section
variable{P:Program}{C:Ctx}{K:Kx}{H:Mem}{E:Env}{w:World}
def Wi(P:Program)(H:Mem)(E:Env)(w:World)(c:Core)(a:Act)(o:Oper)(φ:SV×Core->Prop):Prop:=
 ∃(p:SV×Core) (v:Value),φ p/\p.2=c/\Den H E p.1 v/\∀w',UY H E c.hp w w'->H.on w'->(execOp a.eval o).run P w'=.ok (.value v) w'
def QP(P:Program)(H:Mem)(E:Env)(c:Core)(a:Act)(o:Oper)(φ:SV×Core->Prop):Prop:=
 ∃(p:SV×Core) (v:Value),φ p/\p.2=c/\Den H E p.1 v/\∀w',(execOp a.eval o).run P w'=.ok (.value v) w'
theorem QP.q{c:Core}{a:Act}{o:Oper}{φ:SV×Core->Prop}(h:QP P H E c a o φ):Wi P H E w c a o φ:=
 let ⟨p,v,h1,h2,h3,h4⟩:=h;⟨p,v,h1,h2,h3,fun w' _ _=>h4 w'⟩
theorem IJ{c:Core}{x:Option SV}{φ:SV×Core->Prop}(h:(Md c x).All φ):∃v,x=ak v/\φ (v,c):=by
 cases x with
 |none=>exact h.elim |some v=>exact ⟨v,rfl,h⟩
theorem aag{c:Core}{a:Act}{o:Oper}{x:Operand}{φ:SV×Core->Prop}(ho:o.op=.move x\/o.op=.assign x)(hd:AA H E c.tm a.tmps.toList)
  (h:(ret c (BI c.tm x)).All φ):QP P H E c a o φ:=by
 refine ⟨_,a.eval x,h,rfl,BA hd x,fun w'=>?_⟩;rcases ho with ho|ho<;>simp[execOp,ho]
theorem Wj{x:SV}{b:Bool}{u:Value}(h:Z9 x=ak b)(hd:Den H E x u):u=.bool b:=by
 cases x<;>simp[Z9] at h
 all_goals (subst h;exact hd)
theorem akf{c:Core}{a:Act}{o:Oper}{x y z:Operand}{φ:SV×Core->Prop}(hA:C.A=Ai)(ho:o.op=.pick x y z)(hd:AA H E c.tm a.tmps.toList)
  (h:(Md c (aia C.A (BI c.tm x) (BI c.tm y) (BI c.tm z))).All φ):QP P H E c a o φ:=by
 obtain ⟨v,hv,hφ⟩:=IJ h;have dx:=BA (H:=H) (E:=E) hd x;have dy:=BA (H:=H) (E:=E) hd y;have dz:=BA (H:=H) (E:=E) hd z;unfold aia at hv;split at hv
 ·rename_i hx
  rw[hx] at dx;cases hv;refine ⟨_,a.eval y,hφ,rfl,dy,fun w'=>?_⟩;simp only[Den] at dx;simp[execOp,ho,dx,asBool]
 ·rename_i hx
  rw[hx] at dx;cases hv;refine ⟨_,a.eval z,hφ,rfl,dz,fun w'=>?_⟩;simp only[Den] at dx;simp[execOp,ho,dx,asBool]
 ·rename_i b hx
  rw[hx] at dx;simp only[Den] at dx;split at hv
  ·rename_i p q hp hq
   cases hv;have ep:=Wj hp dy;have eq:=Wj hq dz;refine ⟨_,.bool (bif b then p else q),hφ,rfl,?_,fun w'=>?_⟩
   ·rw[hA];rfl
   ·cases b<;>simp[execOp,ho,dx,asBool,ep,eq]
  ·cases hv
 ·cases hv
theorem am1{c:Core}{a:Act}{o:Oper}{t:Nat}{x:Operand}{φ:SV×Core->Prop}(hA:C.A=Ai)(ho:o.op=.unOp .not t x)(hd:AA H E c.tm a.tmps.toList)
  (h:(Md c (notS C.A (BI c.tm x))).All φ):QP P H E c a o φ:=by
 obtain ⟨v,hv,hφ⟩:=IJ h;have dx:=BA (H:=H) (E:=E) hd x;unfold notS at hv;split at hv<;>cases hv
 all_goals
  rename_i b hx;rw[hx] at dx;simp only[Den] at dx;refine ⟨_,.bool (!b),hφ,rfl,?_,fun w'=>by simp[execOp,ho,dx,Op.unary]⟩
 ·rfl
 ·rw[hA];rfl
theorem am2{c:Core}{a:Act}{o:Oper}{t:Nat}{x:Operand}{φ:SV×Core->Prop}(hA:C.A=Ai)(ho:o.op=.unOp .neg t x)(hd:AA H E c.tm a.tmps.toList)
  (h:(Md c (negS C.A (BI c.tm x))).All φ):QP P H E c a o φ:=by
 obtain ⟨v,hv,hφ⟩:=IJ h;have dx:=BA (H:=H) (E:=E) hd x;unfold negS at hv;split at hv<;>cases hv
 all_goals
  rename_i k n hx;rw[hx] at dx;simp only[Den] at dx;refine ⟨_,.int k (k.wrap (0 - n)),hφ,rfl,?_,fun w'=>by simp[execOp,ho,dx,Op.unary,Op.intArith]⟩
 ·rfl
 ·rw[hA];rfl
theorem aaF{c:Core}{a:Act}{o:Oper}{x:Operand}{i:Nat}{φ:SV×Core->Prop}(ho:o.op=.extract x i)(hd:AA H E c.tm a.tmps.toList)
  (h:(Qj c (BI c.tm x) i).All φ):QP P H E c a o φ:=by
 have dx:=BA (H:=H) (E:=E) hd x;unfold Qj at h;split at h
 ·rename_i l hx
  obtain ⟨v,hv,hφ⟩:=IJ h;rw[hx] at dx;obtain ⟨vs,he,hl⟩:=dx;obtain ⟨u,hu,hdu⟩:=hl.get hv;refine ⟨_,u,hφ,rfl,hdu,fun w'=>?_⟩;rw[dX] at hu;simp[execOp,ho,he,Instr.extract,hu]
 ·exact h.elim
theorem YW{c:Core}{a:Act}{o:Oper}{f:Nat}{fs cs:Array Operand}{φ:SV×Core->Prop}(ho:o.op=.makeFunc (.func f) fs cs)(hd:AA H E c.tm a.tmps.toList)
  (h:(bif fs.size==0 then ret c (.fn f (cs.toList.map (BI c.tm))) else .fail).All φ):QP P H E c a o φ:=by
 cases hf:(fs.size==0)<;>simp only[hf,cond_true,cond_false] at h
 ·exact h.elim
 have hf:fs=#[]:=by simpa using hf
 subst hf;have key:∀l:List Operand,AA H E (l.map (BI c.tm)) (l.map a.eval):=by
  intro l;induction l with
  |nil=>trivial |cons x l ih=>exact ⟨BA hd x,ih⟩
 refine ⟨_,.func (.func f) #[] (cs.map a.eval),h,rfl,⟨cs.map a.eval,rfl,by simpa using key cs.toList⟩,fun w'=>?_⟩;simp[execOp,ho,Instr.makeFunc]
theorem am3{c:Core}{a:Act}{o:Oper}{x:Operand}{φ:SV×Core->Prop}(ho:o.op=.nilCheck x)(hd:AA H E c.tm a.tmps.toList)
  (h:(aaz c (BI c.tm x)).All φ):QP P H E c a o φ:=by
 have dx:=BA (H:=H) (E:=E) hd x;unfold aaz at h;split at h
 ·rename_i i off hx
  rw[hx] at dx;have dx':=dx;obtain ⟨b,_,he⟩:=dx;exact ⟨_,a.eval x,h,rfl,dx',fun w'=>by simp[execOp,ho,he]⟩
 ·rename_i i st j off hx
  rw[hx] at dx;have dx':=dx;obtain ⟨b,_,_,_,_,he⟩:=dx;exact ⟨_,a.eval x,h,rfl,dx',fun w'=>by simp[execOp,ho,he]⟩
 ·rename_i st n g i off hx
  rw[hx] at dx;have dx':=dx;obtain ⟨b,_,_,he,_⟩:=dx;exact ⟨_,a.eval x,h,rfl,dx',fun w'=>by simp[execOp,ho,he]⟩
 ·rename_i f l hx
  rw[hx] at dx;have dx':=dx;obtain ⟨vs,he,_⟩:=dx;exact ⟨_,a.eval x,h,rfl,dx',fun w'=>by simp[execOp,ho,he]⟩
 ·exact h.elim
theorem aq4{c:Core}{a:Act}{o:Oper}{t:Nat}{x:Operand}{φ:SV×Core->Prop}(hC:BG P C)(ho:o.op=.load t x)(hd:AA H E c.tm a.tmps.toList)
  (hh:AO K H E w c.hp) (hg:Dj C.gls H) (h:(XK C c t (BI c.tm x)).All φ):Wi P H E w c a o φ:=by
 have dx:=BA (H:=H) (E:=E) hd x;unfold XK at h;split at h
 ·rename_i i hi
  have ht:=hC.ty _ _ hi;obtain ⟨sv,hs,hφ⟩:=IJ h;obtain ⟨ad,cs,he,hl,hden,hc⟩:=YV dx hh hg (fun e=>by obtain ⟨_,_,_,_,_,_,_,_,_,h1⟩:=ht.info;exact (h1 e).1) hs;refine ⟨_,_,hφ,rfl,hden,fun w' ha hon=>?_⟩;have:=adt (w:=w') ht hl (hc w' ha hon);simp[execOp,ho,Instr.loadAt,he,mJ,this,Nv]
 ·exact h.elim
theorem aaG{fields:Array Field}{fs:List (Nat×Nat×Bool)}(hf:ads P fields fs){j off size:Nat}{agg:Bool}(h:fs[j]?=ak (off,size,agg)):
  ∃(f:Field) (inf:TypeInfo),fields[j]?=ak f/\f.offset=off/\P.info? f.type=ak inf/\inf.size=size/\(P.underlying f.type).isSome=aC/\
   (match P.underlying f.type with|some (.struct _) |some (.array _ _)=>aC|_=>ay)=agg:=by
 obtain ⟨h1,h2⟩:=hf;have hj:j<fields.size:=by rw[h1];exact (aV.1 h).1
 have hfj:fields[j]?=ak fields[j]:=Array.getElem?_eq_getElem hj;obtain ⟨inf,hi,he,hs⟩:=h2 j _ hfj;rw[h] at he;simp only[kX,Prod.mk.injEq] at he;exact ⟨_,inf,hfj,he.1.symm,hi,he.2.1.symm,hs,he.2.2.symm⟩
theorem Fj{n m:Nat}(h:fV n m=aC):n<m:=gq h
theorem ZQ{f:Field}{inf:TypeInfo}(hi:P.info? f.type=ak inf)(hs:0<inf.size)(a:Addr)(w:World):(fieldPlace a f).run P w=.ok (a.add f.offset) w:=by
 unfold fieldPlace;simp[sizeOf,typeInfo,hi,Nat.ne_of_gt hs]
theorem Wn{c:Core}{a:Act}{o:Oper}{t f:Nat}{x:Operand}{φ:SV×Core->Prop}(hC:BG P C)(ho:o.op=.fieldAddr t x f)(hd:AA H E c.tm a.tmps.toList)
  (h:(Nk C c t f (BI c.tm x)).All φ):QP P H E c a o φ:=by
 have dx:=BA (H:=H) (E:=E) hd x;unfold Nk at h;split at h
 ·rename_i i hi
  have ht:=(hC.ty _ _ hi).desc;split at h
  ·rename_i fs hty
   rw[hty] at ht;obtain ⟨fields,hu,hf⟩:=ht;split at h
   ·rename_i off size agg hfs
    cases hb:fV 0 size<;>simp only[hb,cond_true,cond_false] at h
    ·exact h.elim
    obtain ⟨fd,inf,h1,rfl,h2,h3,_⟩:=aaG hf hfs;have hp:=fun (ad:Addr) (w':World)=>ZQ (P:=P) h2 (by rw[h3];exact Fj hb) ad w';split at h
    ·rename_i id off2 hx
     rw[hx] at dx;obtain ⟨b,h4,he⟩:=dx;refine ⟨_,.pointer (ak ⟨b,off2+fd.offset,aK⟩),h,rfl,⟨b,h4,rfl⟩,fun w'=>?_⟩;simp[execOp,ho,qw,run_underlying hu,h1,he,mJ,hp,eY]
    ·rename_i id st j off2 hx
     rw[hx] at dx;obtain ⟨b,v,h4,h5,h6,he⟩:=dx;refine ⟨_,.pointer (ak ⟨b,j*st+off2+fd.offset,aK⟩),h,rfl,⟨b,v,h4,h5,h6,by rw[kC]⟩,fun w'=>?_⟩;simp[execOp,ho,qw,run_underlying hu,h1,he,mJ,hp,eY]
    ·rename_i st n g j off2 hx
     rw[hx] at dx;obtain ⟨b,o2,cc,he,h4⟩:=dx;refine ⟨_,.pointer (ak ⟨b,o2+off2+fd.offset,aK⟩),h,rfl,⟨b,o2,cc,by rw[kC],h4⟩,fun w'=>?_⟩;simp[execOp,ho,qw,run_underlying hu,h1,he,mJ,hp,eY]
    ·exact h.elim
   ·exact h.elim
  ·exact h.elim
 ·exact h.elim
theorem aln{ty:Nat}{inf:TypeInfo}{agg:Bool}(hi:P.info? ty=ak inf)(hs:(P.underlying ty).isSome=aC)
  (ha:(match P.underlying ty with|some (.struct _) |some (.array _ _)=>aC|_=>ay)=agg) {cs:List Value} {off:Nat} (hl:off+inf.size<=cs.length) (h1:agg=ay->inf.size=1) (w:World) :
  (part ty cs.toArray off).run P w=.ok (Nv agg ((cs.drop off).take inf.size)) w:=by
 cases hu:P.underlying ty with
 |none=>simp[hu] at hs |some d=>
  rw[hu] at ha;have hag:(isAgg ty).run P w=.ok agg w:=by
   unfold isAgg;simp only[gK,run_underlying hu,gy];cases d<;>simp_all
  unfold part;simp only[gK,hag,gy];cases agg
  ·have h1:=h1 rfl
   have hlt:off<cs.length:=by omega
   rw[h1];have:(cs.drop off).take 1=[cs[off]]:=by rw[List.drop_eq_getElem_cons hlt];rfl
   simp[this,Nv,hlt]
  ·simp[sizeOf,typeInfo,hi,Nv,List.extract_eq_take_drop]
theorem afI{c:Core}{a:Act}{o:Oper}{t f:Nat}{x:Operand}{φ:SV×Core->Prop}(hC:BG P C)(ho:o.op=.field t x f)(hd:AA H E c.tm a.tmps.toList)
  (h:(UR C c t f (BI c.tm x)).All φ):QP P H E c a o φ:=by
 have dx:=BA (H:=H) (E:=E) hd x;unfold UR at h;split at h
 ·rename_i i hi
  have ht:=(hC.ty _ _ hi).desc;split at h
  ·rename_i fs l hty hx
   rw[hty] at ht;obtain ⟨fields,hu,hf⟩:=ht;rw[hx] at dx;obtain ⟨vs,he,hl⟩:=dx;split at h
   ·rename_i off size agg hfs
    obtain ⟨sv,hs,hφ⟩:=IJ h;obtain ⟨fd,inf,h1,rfl,h2,h3,h4,h5⟩:=aaG hf hfs;subst h3;cases hsg:seg l fd.offset inf.size with
    |none=>simp[hsg] at hs |some r=>
     simp only[hsg,eU] at hs;obtain ⟨hle,rfl⟩:=Kv hsg;have hlen:=hl.length;refine ⟨_,Nv agg ((vs.toList.drop fd.offset).take inf.size),hφ,rfl,Kw hs ((hl.drop _).take _),fun w'=>?_⟩;have hp:=aln (P:=P) h2 h4 h5 (cs:=vs.toList) (off:=fd.offset) (by rw[hlen];exact hle) (fun e=>by
      subst e;rcases Nu hs with ⟨e,_⟩ |⟨_,e⟩
      ·cases e
      ·have:=congrArg List.length e
       simp[cu,dS] at this;omega) w'
     simp[execOp,ho,Instr.field,run_underlying hu,h1,he,asAgg] at hp ⊢;simp[hp]
   ·exact h.elim
  ·exact h.elim
 ·exact h.elim
end
end Go.Sx
