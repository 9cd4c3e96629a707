/- Own work. -/
import Derived.Test.YtemojddccikgkaaGreatDoorB06
import Derived.Test.YtemojddccikgkaaGreatDoorProg
import Derived.Shelf.Strings.Builder1
import Derived.Shelf.Strings.Builder2
import Derived.Shelf.Strings.OnBuilder
import Derived.Shelf.Strconv.Itoa0
import Derived.Shelf.Strconv.Itoa1
import Derived.Shelf.LaysM
import Derived.Shelf.Strconv.Itoa2
import Derived.Shelf.Strconv.Itoa3
import Derived.Ground.Names2Prog
import Derived.Lib.ItoaLen
import Derived.Shelf.Spec.SlicesInsert
import Derived.Lib.AppendZerosOnto
import Derived.Laws.NewBlocks
open Int (ofNat)
open Array renaming getElem?_eq_some_iff->aI
open Bool renaming false->ag,true->ah,and_eq_true->ak
open Classical renaming propDecidable->ay
open Go.Act renaming eval->iI,put->jK
open Go.Addr renaming add_lit->bx
open Go.Builtin renaming copy_->c9,firstCells->cQ,zeroCells->cV
open Go.Extern.SlicesOverlaps renaming overlaps->iH
open Go.Instr renaming checkKey->cC
open Go.IntKind renaming i64->az,wrap_i64->cN
open Go.Lib renaming TabIs->j9,pow10Tab->ia,joinTail->eA,wpList_append_run->eJ
open Go.Proofs.Lays renaming n156->lC
open Go.Proofs.LaysM renaming n171->kL
open Go.Proofs.Tryz renaming f62->cG,f63->kj,f64->kl,f75->gw,f79->hZ,f84->km,f86->ko,f96->il,f99->kq,f100->jB,f101->jC,prog->ai,func76->lX,func118->kZ,func104->k8,func103->k9,func102->lc,func120->lg,func119->lh,func149->ew,func161->lj,func179->lm,func176->ln,func178->lq,func185->lr,func181->ls,func180->lu,func184->lw,func183->lx,func188->ly,func187->lz,func186->lA,func189->lB,underlying0->jF,isAgg0->lY,sizeOf0->lD,zeroValue0->j4,underlying3->fP,isAgg3->lZ,sizeOf3->lE,zeroValue3->j5,underlying4->jG,isAgg4->l4,sizeOf4->lF,zeroValue4->j6,underlying9->eC,isAgg9->l5,sizeOf9->lG,zeroValue9->j7,underlying20->jm,isAgg20->lH,sizeOf20->kJ,zeroValue20->jH,underlying215->iU,isAgg215->kK,sizeOf215->kr,zeroValue215->jn,underlying5->jI,isAgg5->l6,sizeOf5->lI,zeroValue5->j8,underlying160->cx,ntmps149->ff
open Go.RowKit.Below renaming refl->l7
open Go.Shelf renaming Ren->jE
open Go.Sx.oM renaming sh->aw,int->ac,nat->am,get->ax,ok->kN
open Go.Sx.pI renaming at_->aH,ret->ar
open Go.Sx.It renaming code->aA,inBlock->aM
open Go.Sx.Sh renaming i->av,sl->aj,os->bS,er->aX,v->fQ,agg->aN,mX->aL,b->co,str->bA
open Go.Sx.Tree renaming need->al,leaf->ap,node->aq,fail->dN
open Go.Value renaming nilIface->bd
open Go.World renaming shape?->kO,frozen?->ks
open Int renaming ofNat->ab,negSucc->bW,toNat_natCast->bm
open List renaming nil_append->dM,mem_append->aU,mem_map->bK,range->aD,map_congr_left->dU,ext_getElem->jD,mem_range->bI,replicate->bf,all_eq_true->bh,length_append->aY,length_cons->cJ,take_succ_eq_append_getElem->fC,take_length->jJ,getElem?_take->bU,mem_of_mem_drop->dw,append_assoc->cA
open List.cons renaming injEq->gQ
open Nat renaming le_refl->aV,le_succ->j3,sub_self->dh,mul_le_mul_right->ba,beq->bJ,add_mul->gP,one_mul->gF,min->gx,zero_le->cM
open Option renaming some->ae,none->ao,isSome_iff_exists->bG
open Option.some renaming injEq->dP,inj->aS
namespace Go.Tb
open Go Go.Sx
abbrev L{α:Type}(k:Nat)(v:α):BT α:=.node .nil k v .nil
abbrev N{α:Type}(l:BT α)(k:Nat)(v:α)(r:BT α):BT α:=.node l k v r
abbrev z:SV:=.int .i64 0
abbrev tF:BQ:=⟨.fn,1,8,[.xX]⟩
abbrev tS(n:Nat):BQ:=⟨.slice n,1,24,[.nS]⟩
abbrev tP(n:Nat):BQ:=⟨.ptr n,1,8,[.uN]⟩
end Go.Tb
namespace Go.Proofs
section
open Go Go.Sx Go.Tb
def Tryz.tys:BT BQ:=(N (N (N (N (N (N (N (L 1 tF) 2 ⟨.int .i64,1,8,[z]⟩ (L 3 ⟨.int .i64,1,8,[z]⟩)) 4 ⟨.bool,1,1,[.bool ag]⟩ (N (L 5 ⟨.int .u8,1,1,[.int .u8 0]⟩) 7 ⟨.struct [(0,1,ag),(1,1,ag),(2,1,ag),(3,1,ag)],4,24,[z,z,.bool ag,.int .u8 0]⟩ (L 9 ⟨.str,1,16,[.str []]⟩))) 12 ⟨.int .u64,1,8,[.int .u64 0]⟩ (N (N (L 13 ⟨.struct [(0,1,ag),(1,1,ag)],2,24,[.str [],.int .u64 0]⟩) 15 (tP 290) (L 16 (tP 293))) 17 (tP 300) (N (L 18 ⟨.struct [(0,1,ag)],1,8,[.uN]⟩) 20 ⟨.iface,1,16,[.sS]⟩ (L 21 ⟨.int .i32,1,4,[.int .i32 0]⟩)))) 22 (tS 73) (N (N (N (L 23 (tS 53)) 24 ⟨.struct [(0,1,ag),(1,1,ag)],2,48,[.nS,.nS]⟩ (L 25 ⟨.struct [(0,1,ag),(1,1,ag)],2,48,[.nS,.nS]⟩)) 26 tF (N (L 27 tF) 28 (tS 106) (L 29 (tS 3)))) 30 (tS 100) (N (N (L 31 ⟨.struct [(0,1,ag),(1,1,ag),(2,1,ag),(3,1,ag),(4,1,ag)],5,104,[z,.nS,.nS,.nS,.nS]⟩) 32 ⟨.struct [(0,1,ag),(1,1,ag),(2,1,ag),(3,1,ag),(4,1,ag)],5,104,[z,.nS,.nS,.nS,.nS]⟩ (L 33 ⟨.struct [(0,1,ag),(1,1,ag)],2,32,[z,.nS]⟩)) 34 ⟨.struct [(0,1,ag),(1,1,ag)],2,32,[z,.nS]⟩ (N (L 36 tF) 38 tF (L 39 ⟨.struct [(0,1,ag),(1,1,ag)],2,32,[z,.nS]⟩))))) 40 ⟨.struct [(0,1,ag),(1,1,ag)],2,32,[z,.nS]⟩ (N (N (N (N (L 41 (tP 3)) 42 (tS 58) (L 43 ⟨.struct [(0,1,ag),(1,1,ag),(2,1,ag)],3,40,[.bool ag,.nS,z]⟩)) 44 ⟨.struct [(0,1,ag),(1,1,ag),(2,1,ag)],3,40,[.bool ag,.nS,z]⟩ (N (L 45 ⟨.iface,1,16,[.sS]⟩) 46 ⟨.iface,1,16,[.sS]⟩ (L 48 tF))) 49 tF (N (N (L 50 tF) 51 tF (L 52 ⟨.struct [(0,1,ag),(1,1,ag),(2,1,ag),(3,1,ag),(4,1,ag),(5,1,ag),(6,1,ag),(7,1,ag)],8,64,[z,z,z,z,z,z,z,z]⟩)) 53 ⟨.struct [(0,1,ag),(1,1,ag),(2,1,ag),(3,1,ag),(4,1,ag),(5,1,ag),(6,1,ag),(7,1,ag)],8,64,[z,z,z,z,z,z,z,z]⟩ (N (L 55 tF) 56 tF (L 57 ⟨.struct [(0,1,ag),(1,1,ag)],2,16,[z,.bool ag]⟩)))) 58 ⟨.struct [(0,1,ag),(1,1,ag)],2,16,[z,.bool ag]⟩ (N (N (N (L 60 tF) 61 tF (L 63 tF)) 65 tF (N (L 66 tF) 67 tF (L 69 tF))) 70 tF (N (N (L 71 tF) 72 ⟨.struct [(0,1,ag),(1,1,ag)],2,16,[z,z]⟩ (L 73 ⟨.struct [(0,1,ag),(1,1,ag)],2,16,[z,z]⟩)) 74 (tP 83) (N (L 76 tF) 77 (tS 162) (L 78 ⟨.struct [(0,1,ag)],1,24,[.nS]⟩)))))) 79 ⟨.struct [(0,1,ag)],1,24,[.nS]⟩ (N (N (N (N (N (L 80 ⟨.struct [(0,1,ah)],1,24,[.nS]⟩) 81 ⟨.struct [(0,1,ah)],1,24,[.nS]⟩ (L 82 ⟨.struct [(0,1,ag),(1,1,ag),(2,1,ag),(3,1,ah)],4,80,[z,.nS,.nS,.nS]⟩)) 83 ⟨.struct [(0,1,ag),(1,1,ag),(2,1,ag),(3,1,ah)],4,80,[z,.nS,.nS,.nS]⟩ (N (L 84 ⟨.struct [(0,1,ag),(1,1,ah)],2,32,[z,.nS]⟩) 85 ⟨.struct [(0,1,ag),(1,1,ah)],2,32,[z,.nS]⟩ (L 86 (tS 89)))) 87 tF (N (N (L 88 ⟨.struct [(0,2,ah),(2,2,ah)],4,48,[z,.bool ag,z,.nS]⟩) 89 ⟨.struct [(0,2,ah),(2,2,ah)],4,48,[z,.bool ag,z,.nS]⟩ (L 90 (tP 92))) 91 ⟨.struct [(0,1,ag),(1,1,ag)],2,24,[z,.sS]⟩ (N (L 92 ⟨.struct [(0,1,ag),(1,1,ag)],2,24,[z,.sS]⟩) 93 tF (L 94 tF)))) 95 ⟨.struct [(0,1,ag),(1,1,ag),(2,1,ag),(3,1,ag)],4,80,[.nS,.nS,.nS,z]⟩ (N (N (N (L 96 ⟨.struct [(0,1,ag),(1,1,ag),(2,1,ag),(3,1,ag)],4,80,[.nS,.nS,.nS,z]⟩) 97 tF (L 98 tF)) 99 ⟨.struct [(0,1,ag),(1,1,ag),(2,1,ag),(3,1,ag)],4,64,[z,z,.nS,.nS]⟩ (N (L 100 ⟨.struct [(0,1,ag),(1,1,ag),(2,1,ag),(3,1,ag)],4,64,[z,z,.nS,.nS]⟩) 102 tF (L 103 tF))) 104 (tS 143) (N (N (L 105 ⟨.struct [(0,1,ag),(1,1,ag),(2,1,ag),(3,1,ag),(4,1,ag),(5,1,ag),(6,1,ag)],7,72,[z,z,z,z,z,z,.nS]⟩) 106 ⟨.struct [(0,1,ag),(1,1,ag),(2,1,ag),(3,1,ag),(4,1,ag),(5,1,ag),(6,1,ag)],7,72,[z,z,z,z,z,z,.nS]⟩ (L 107 ⟨.int .u64,1,8,[.int .u64 0]⟩)) 108 tF (N (L 109 tF) 111 (tP 150) (L 112 tF))))) 113 ⟨.struct [(0,1,ag),(1,1,ag)],2,24,[z,.str []]⟩ (N (N (N (N (L 114 ⟨.struct [(0,1,ag),(1,1,ag)],2,24,[z,.str []]⟩) 115 (tS 85) (L 116 ⟨.struct [(0,1,ag),(1,1,ag)],2,32,[.nS,z]⟩)) 117 ⟨.struct [(0,1,ag),(1,1,ag)],2,32,[.nS,z]⟩ (N (L 119 tF) 120 tF (L 121 tF))) 122 tF (N (N (L 124 tF) 125 tF (L 126 ⟨.map 114 4,1,8,[.wS]⟩)) 127 tF (N (L 128 tF) 130 tF (L 132 tF)))) 134 tF (N (N (N (L 135 tF) 136 tF (L 137 tF)) 138 tF (N (L 139 (tP 96)) 140 tF (L 141 tF))) 142 ⟨.struct [(0,1,ag),(1,1,ag),(2,1,ag),(3,1,ag),(4,1,ag),(5,1,ag),(6,1,ag),(7,1,ag)],8,64,[z,z,z,z,z,z,z,z]⟩ (N (N (L 143 ⟨.struct [(0,1,ag),(1,1,ag),(2,1,ag),(3,1,ag),(4,1,ag),(5,1,ag),(6,1,ag),(7,1,ag)],8,64,[z,z,z,z,z,z,z,z]⟩) 145 tF (L 146 tF)) 147 ⟨.map 114 3,1,8,[.wS]⟩ (N (L 148 (tS 114)) 149 ⟨.struct [(0,1,ag),(1,1,ag),(2,1,ag)],3,40,[z,.wS,.nS]⟩ .nil)))))) 150 ⟨.struct [(0,1,ag),(1,1,ag),(2,1,ag)],3,40,[z,.wS,.nS]⟩ (N (N (N (N (N (N (L 151 tF) 152 tF (L 153 (tP 117))) 154 ⟨.struct [],0,0,[]⟩ (N (L 155 (tP 185)) 157 tF (L 158 tF))) 159 tF (N (N (L 160 (tS 212)) 161 ⟨.struct [(0,1,ag),(1,1,ag),(2,1,ag),(3,1,ag)],4,64,[z,z,.nS,.nS]⟩ (L 162 ⟨.struct [(0,1,ag),(1,1,ag),(2,1,ag),(3,1,ag)],4,64,[z,z,.nS,.nS]⟩)) 164 tF (N (L 165 tF) 167 tF (L 168 tF)))) 169 tF (N (N (N (L 170 tF) 171 tF (L 173 tF)) 175 (tS 9) (N (L 176 tF) 177 tF (L 178 tF))) 179 tF (N (N (L 180 tF) 181 tF (L 182 (tS 186))) 183 ⟨.map 3 186,1,8,[.wS]⟩ (N (L 184 ⟨.struct [(0,1,ag),(1,1,ag),(2,1,ag),(3,1,ag),(4,1,ag)],5,72,[.nS,z,.nS,.wS,.wS]⟩) 185 ⟨.struct [(0,1,ag),(1,1,ag),(2,1,ag),(3,1,ag),(4,1,ag)],5,72,[.nS,z,.nS,.wS,.wS]⟩ (L 186 (tP 188)))))) 187 ⟨.struct [(0,7,ah),(7,1,ag)],8,80,[z,z,z,z,z,z,.nS,z]⟩ (N (N (N (N (L 188 ⟨.struct [(0,7,ah),(7,1,ag)],8,80,[z,z,z,z,z,z,.nS,z]⟩) 189 tF (L 190 tF)) 191 tF (N (L 192 tF) 194 tF (L 196 tF))) 197 tF (N (N (L 198 tF) 199 tF (L 200 tF)) 201 tF (N (L 202 tF) 203 tF (L 204 tF)))) 205 tF (N (N (N (L 206 tF) 207 tF (L 208 tF)) 209 tF (N (L 210 tF) 211 ⟨.struct [(0,1,ag),(1,1,ag)],2,16,[z,z]⟩ (L 212 ⟨.struct [(0,1,ag),(1,1,ag)],2,16,[z,z]⟩))) 213 tF (N (N (L 214 (tP 217)) 215 (tS 5) (L 216 ⟨.struct [(0,1,ag),(1,1,ag)],2,32,[.uN,.nS]⟩)) 217 ⟨.struct [(0,1,ag),(1,1,ag)],2,32,[.uN,.nS]⟩ (N (L 218 tF) 220 tF (L 221 tF)))))) 223 tF (N (N (N (N (N (L 224 ⟨.struct [(0,1,ag),(1,1,ag)],2,32,[.nS,.xX]⟩) 225 ⟨.struct [(0,1,ag),(1,1,ag)],2,32,[.nS,.xX]⟩ (L 226 ⟨.map 3 225,1,8,[.wS]⟩)) 227 tF (N (L 228 tF) 229 ⟨.map 3 228,1,8,[.wS]⟩ (L 230 tF))) 231 tF (N (N (L 232 ⟨.struct [(0,1,ag),(1,1,ag),(2,1,ag),(3,1,ag)],4,32,[.xX,z,z,z]⟩) 233 ⟨.struct [(0,1,ag),(1,1,ag),(2,1,ag),(3,1,ag)],4,32,[.xX,z,z,z]⟩ (L 235 (tP 53))) 236 tF (N (L 238 tF) 239 tF (L 240 ⟨.map 3 239,1,8,[.wS]⟩)))) 241 tF (N (N (N (L 242 tF) 243 tF (L 245 tF)) 246 (tP 5) (N (L 247 tF) 248 (tP 143) (L 249 tF))) 250 (tS 233) (N (N (L 251 tF) 252 tF (L 253 tF)) 254 tF (N (L 256 tF) 257 tF (L 258 tF))))) 259 ⟨.arr 4 9,4,64,[.str [],.str [],.str [],.str []]⟩ (N (N (N (N (L 260 ⟨.arr 7 9,7,112,[.str [],.str [],.str [],.str [],.str [],.str [],.str []]⟩) 261 ⟨.arr 9 9,9,144,[.str [],.str [],.str [],.str [],.str [],.str [],.str [],.str [],.str []]⟩ (L 262 ⟨.arr 3 9,3,48,[.str [],.str [],.str []]⟩)) 264 tF (N (L 265 tF) 266 tF (L 267 tF))) 268 tF (N (N (L 269 tF) 270 (tS 160) (L 271 tF)) 272 tF (N (L 274 ⟨.int .u64,1,8,[.int .u64 0]⟩) 275 tF (L 276 tF)))) 278 tF (N (N (N (L 279 tF) 280 tF (L 282 ⟨.int .u32,1,4,[.int .u32 0]⟩)) 284 tF (N (L 285 tF) 288 (tP 302) (L 289 ⟨.struct [(0,1,ag),(1,1,ag),(2,1,ag),(3,1,ag)],4,40,[.uN,.uN,.uN,.str []]⟩))) 291 ⟨.arr 0 16,0,0,[]⟩ (N (N (L 292 ⟨.struct [(0,0,ah)],0,0,[]⟩) 296 tF (L 299 ⟨.struct [(0,1,ag),(1,1,ag),(2,1,ag),(3,1,ag),(4,1,ag),(5,1,ag),(6,1,ag),(7,1,ag),(8,1,ag),(9,1,ag),(10,1,ag)],11,48,[.int .u64 0,.int .u64 0,.int .u32 0,.int .u8 0,.int .u8 0,.int .u8 0,.int .u8 0,.xX,.uN,.int .i32 0,.int .i32 0]⟩)) 301 ⟨.struct [(0,1,ag)],1,16,[.str []]⟩ (N (L 302 ⟨.struct [(0,1,ag)],1,16,[.str []]⟩) 303 tF .nil)))))))
noncomputable def Tryz.fns:BT Func:=(N (N (N (N (N (N (N (L 3 Tryz.f3) 4 Tryz.f4 .nil) 5 Tryz.f5 (N (L 6 Tryz.f6) 7 Tryz.f7 .nil)) 8 Tryz.f8 (N (N (L 9 Tryz.f9) 10 Tryz.f10 .nil) 11 Tryz.f11 (N (L 12 Tryz.f12) 13 Tryz.f13 .nil))) 14 Tryz.f14 (N (N (N (L 15 Tryz.f15) 16 Tryz.f16 .nil) 17 Tryz.f17 (N (L 18 Tryz.f18) 19 Tryz.f19 .nil)) 20 Tryz.f20 (N (N (L 21 Tryz.f21) 22 Tryz.f22 .nil) 23 Tryz.f23 (N (L 24 Tryz.f24) 25 Tryz.f25 .nil)))) 26 Tryz.f26 (N (N (N (N (L 27 Tryz.f27) 28 Tryz.f28 .nil) 29 Tryz.f29 (N (L 30 Tryz.f30) 31 Tryz.f31 .nil)) 32 Tryz.f32 (N (N (L 33 Tryz.f33) 34 Tryz.f34 .nil) 35 Tryz.f35 (N (L 36 Tryz.f36) 37 Tryz.f37 .nil))) 38 Tryz.f38 (N (N (N (L 39 Tryz.f39) 40 Tryz.f40 .nil) 41 Tryz.f41 (N (L 42 Tryz.f42) 43 Tryz.f43 .nil)) 44 Tryz.f44 (N (N (L 45 Tryz.f45) 46 Tryz.f46 .nil) 47 Tryz.f47 (L 48 Tryz.f48))))) 49 Tryz.f49 (N (N (N (N (N (L 50 Tryz.f50) 51 Tryz.f51 .nil) 52 Tryz.f52 (N (L 53 Tryz.f53) 54 Tryz.f54 .nil)) 55 Tryz.f55 (N (N (L 56 Tryz.f56) 57 Tryz.f57 .nil) 58 Tryz.f58 (N (L 59 Tryz.f59) 60 Tryz.f60 .nil))) 61 Tryz.f61 (N (N (N (L 62 cG) 63 kj .nil) 64 kl (N (L 65 Tryz.f65) 66 Tryz.f66 .nil)) 67 Tryz.f67 (N (N (L 68 Tryz.f68) 69 Tryz.f69 .nil) 70 Tryz.f70 (L 71 Tryz.f71)))) 72 Tryz.f72 (N (N (N (N (L 73 Tryz.f73) 74 Tryz.f74 .nil) 75 gw (N (L 76 Tryz.f76) 77 Tryz.f77 .nil)) 78 Tryz.f78 (N (N (L 79 hZ) 80 Tryz.f80 .nil) 81 Tryz.f81 (N (L 82 Tryz.f82) 83 Tryz.f83 .nil))) 84 km (N (N (N (L 85 Tryz.f85) 86 ko .nil) 87 Tryz.f87 (N (L 88 Tryz.f88) 89 Tryz.f89 .nil)) 90 Tryz.f90 (N (N (L 91 Tryz.f91) 92 Tryz.f92 .nil) 93 Tryz.f93 (L 94 Tryz.f94)))))) 95 Tryz.f95 (N (N (N (N (N (N (L 96 il) 97 Tryz.f97 .nil) 98 Tryz.f98 (N (L 99 kq) 100 jB .nil)) 101 jC (N (N (L 102 Tryz.f102) 103 Tryz.f103 .nil) 104 Tryz.f104 (N (L 105 Tryz.f105) 106 Tryz.f106 .nil))) 107 Tryz.f107 (N (N (N (L 108 Tryz.f108) 109 Tryz.f109 .nil) 110 Tryz.f110 (N (L 111 Tryz.f111) 112 Tryz.f112 .nil)) 113 Tryz.f113 (N (N (L 114 Tryz.f114) 115 Tryz.f115 .nil) 116 Tryz.f116 (L 117 Tryz.f117)))) 118 Tryz.f118 (N (N (N (N (L 119 Tryz.f119) 120 Tryz.f120 .nil) 121 Tryz.f121 (N (L 122 Tryz.f122) 123 Tryz.f123 .nil)) 124 Tryz.f124 (N (N (L 125 Tryz.f125) 126 Tryz.f126 .nil) 127 Tryz.f127 (N (L 128 Tryz.f128) 129 Tryz.f129 .nil))) 130 Tryz.f130 (N (N (N (L 131 Tryz.f131) 132 Tryz.f132 .nil) 133 Tryz.f133 (N (L 134 Tryz.f134) 135 Tryz.f135 .nil)) 136 Tryz.f136 (N (N (L 137 Tryz.f137) 138 Tryz.f138 .nil) 139 Tryz.f139 (L 140 Tryz.f140))))) 141 Tryz.f141 (N (N (N (N (N (L 142 Tryz.f142) 143 Tryz.f143 .nil) 144 Tryz.f144 (N (L 145 Tryz.f145) 146 Tryz.f146 .nil)) 147 Tryz.f147 (N (N (L 148 Tryz.f148) 149 Tryz.f149 .nil) 150 Tryz.f150 (N (L 151 Tryz.f151) 152 Tryz.f152 .nil))) 153 Tryz.f153 (N (N (N (L 154 Tryz.f154) 155 Tryz.f155 .nil) 156 Tryz.f156 (N (L 157 Tryz.f157) 158 Tryz.f158 .nil)) 159 Tryz.f159 (N (N (L 160 Tryz.f160) 161 Tryz.f161 .nil) 164 Tryz.f164 (L 165 Tryz.f165)))) 166 Tryz.f166 (N (N (N (N (L 167 Tryz.f167) 168 Tryz.f168 .nil) 169 Tryz.f169 (N (L 170 Tryz.f170) 171 Tryz.f171 .nil)) 172 Tryz.f172 (N (N (L 174 Tryz.f174) 175 Tryz.f175 .nil) 176 Tryz.f176 (N (L 177 Tryz.f177) 178 Tryz.f178 .nil))) 179 Tryz.f179 (N (N (N (L 180 Tryz.f180) 181 Tryz.f181 .nil) 182 Tryz.f182 (N (L 183 Tryz.f183) 184 Tryz.f184 .nil)) 185 Tryz.f185 (N (N (L 186 Tryz.f186) 187 Tryz.f187 .nil) 188 Tryz.f188 (L 189 Tryz.f189)))))))
def Tryz.live:BT Nat:=(N (N (N (N (N (N (N (L 3 35218732883959) 4 8175 .nil) 5 7 (N (L 6 17303031) 7 4612812064639959007 .nil)) 8 207 (N (N (L 9 15) 10 2077 .nil) 11 70845017306208267517903 (N (L 12 268470387) 13 2149585151 .nil))) 14 5 (N (N (N (L 15 540925) 16 9007203621079027 .nil) 17 263283 (N (L 18 7) 19 2785366273595414553384992575 .nil)) 20 20282565482478322020874687348527 (N (N (L 21 5) 22 5 .nil) 23 295219962791579485687 (N (L 24 1237940113072357669249454075) 25 31 .nil)))) 26 4504703438225535 (N (N (N (N (L 27 5488420038750559896029471567983428603) 28 83 .nil) 29 287 (N (L 30 31) 31 131191 .nil)) 32 45035996290519027 (N (N (L 33 5) 34 33023 .nil) 35 262459 (N (L 36 7) 37 11 .nil))) 38 9007199254773821 (N (N (N (L 39 77) 40 5 .nil) 41 16106194419 (N (L 42 1101690831219) 43 4159 .nil)) 44 119 (N (N (L 45 4620196376434196339) 46 538854333 .nil) 47 17867066114039 (L 48 1073741831))))) 49 571 (N (N (N (N (N (L 50 1) 51 9444769005542164140283 .nil) 52 262707 (N (L 53 7) 54 2199090887711 .nil)) 55 2077 (N (N (L 56 91) 57 943 .nil) 58 5 (N (L 59 69226996735) 60 983149 .nil))) 61 31 (N (N (N (L 62 9445318576492100452863) 63 287 .nil) 64 31 (N (L 65 2199158520895) 66 65615 .nil)) 67 92522022212955275391 (N (N (L 68 4198555) 69 67109427 .nil) 70 17660955854071 (L 71 34387)))) 72 2077 (N (N (N (N (L 73 77928346935781219122975) 74 7 .nil) 75 33261241786543 (N (L 76 138351151749653378483) 77 541 .nil)) 78 2899107766173950474215390087288321352934114299 (N (N (L 79 17179869199) 80 19 .nil) 81 9481627579855335850495 (N (L 82 9373) 83 7 .nil))) 84 55 (N (N (N (L 85 2361471471810991128351) 86 65775 .nil) 87 1037 (N (L 88 35787119) 89 71582839 .nil)) 90 66099 (N (N (L 91 275955859571) 92 131635 .nil) 93 15 (L 94 5)))))) 95 73788102194745311519 (N (N (N (N (N (N (L 96 2077) 97 83010348331718212735 .nil) 98 264091 (N (L 99 51) 100 5 .nil)) 101 5 (N (N (L 102 2097283) 103 51 .nil) 104 5 (N (L 105 21) 106 3 .nil))) 107 19 (N (N (N (L 108 61463) 109 32887 .nil) 110 5 (N (L 111 5) 112 711 .nil)) 113 3 (N (N (L 114 5) 115 5 .nil) 116 1048695 (L 117 4432676798715)))) 118 5 (N (N (N (N (L 119 524353) 120 19 .nil) 121 7 (N (L 122 143) 123 87 .nil)) 124 268435671 (N (N (L 125 525363) 126 71 .nil) 127 67 (N (L 128 66483) 129 7 .nil))) 130 1127 (N (N (N (L 131 1) 132 1 .nil) 133 2113775 (N (L 134 1) 135 1 .nil)) 136 1 (N (N (L 137 1) 138 8431 .nil) 139 1 (L 140 457))))) 141 461 (N (N (N (N (N (L 142 461) 143 461 .nil) 144 21 (N (L 145 9161) 146 2099151 .nil)) 147 21 (N (N (L 148 55) 149 295147905181504570311 .nil) 150 1995 (N (L 151 16631) 152 33562571 .nil))) 153 504373101 (N (N (N (L 154 16583) 155 3 .nil) 156 3 (N (L 157 3) 158 3 .nil)) 159 3 (N (N (L 160 3) 161 5 .nil) 164 5 (L 165 5)))) 166 5 (N (N (N (N (L 167 5) 168 5 .nil) 169 5 (N (L 170 5) 171 2147618759 .nil)) 172 23 (N (N (L 174 3) 175 65619 .nil) 176 17188391667 (N (L 177 3) 178 21 .nil))) 179 13 (N (N (N (L 180 2923003971560093291123168138537876760321514930163) 181 20426010943356750102455122975 .nil) 182 525 (N (L 183 5) 184 16661 .nil)) 185 13 (N (N (L 186 5) 187 5 .nil) 188 21 (L 189 21)))))))
theorem Tryz.tysB_:arn ai Tryz.tys=ah:=by kernel_rfl
theorem Tryz.fnsAre_:ab1 ai Tryz.fns:=⟨Tryz.func95,⟨Tryz.func49,⟨Tryz.func26,⟨Tryz.func14,⟨Tryz.func8,⟨Tryz.func5,⟨Tryz.func4,⟨Tryz.func3,trivial,trivial⟩,trivial⟩,⟨Tryz.func7,⟨Tryz.func6,trivial,trivial⟩,trivial⟩⟩,⟨Tryz.func11,⟨Tryz.func10,⟨Tryz.func9,trivial,trivial⟩,trivial⟩,⟨Tryz.func13,⟨Tryz.func12,trivial,trivial⟩,trivial⟩⟩⟩,⟨Tryz.func20,⟨Tryz.func17,⟨Tryz.func16,⟨Tryz.func15,trivial,trivial⟩,trivial⟩,⟨Tryz.func19,⟨Tryz.func18,trivial,trivial⟩,trivial⟩⟩,⟨Tryz.func23,⟨Tryz.func22,⟨Tryz.func21,trivial,trivial⟩,trivial⟩,⟨Tryz.func25,⟨Tryz.func24,trivial,trivial⟩,trivial⟩⟩⟩⟩,⟨Tryz.func38,⟨Tryz.func32,⟨Tryz.func29,⟨Tryz.func28,⟨Tryz.func27,trivial,trivial⟩,trivial⟩,⟨Tryz.func31,⟨Tryz.func30,trivial,trivial⟩,trivial⟩⟩,⟨Tryz.func35,⟨Tryz.func34,⟨Tryz.func33,trivial,trivial⟩,trivial⟩,⟨Tryz.func37,⟨Tryz.func36,trivial,trivial⟩,trivial⟩⟩⟩,⟨Tryz.func44,⟨Tryz.func41,⟨Tryz.func40,⟨Tryz.func39,trivial,trivial⟩,trivial⟩,⟨Tryz.func43,⟨Tryz.func42,trivial,trivial⟩,trivial⟩⟩,⟨Tryz.func47,⟨Tryz.func46,⟨Tryz.func45,trivial,trivial⟩,trivial⟩,⟨Tryz.func48,trivial,trivial⟩⟩⟩⟩⟩,⟨Tryz.func72,⟨Tryz.func61,⟨Tryz.func55,⟨Tryz.func52,⟨Tryz.func51,⟨Tryz.func50,trivial,trivial⟩,trivial⟩,⟨Tryz.func54,⟨Tryz.func53,trivial,trivial⟩,trivial⟩⟩,⟨Tryz.func58,⟨Tryz.func57,⟨Tryz.func56,trivial,trivial⟩,trivial⟩,⟨Tryz.func60,⟨Tryz.func59,trivial,trivial⟩,trivial⟩⟩⟩,⟨Tryz.func67,⟨Tryz.func64,⟨Tryz.func63,⟨Tryz.func62,trivial,trivial⟩,trivial⟩,⟨Tryz.func66,⟨Tryz.func65,trivial,trivial⟩,trivial⟩⟩,⟨Tryz.func70,⟨Tryz.func69,⟨Tryz.func68,trivial,trivial⟩,trivial⟩,⟨Tryz.func71,trivial,trivial⟩⟩⟩⟩,⟨Tryz.func84,⟨Tryz.func78,⟨Tryz.func75,⟨Tryz.func74,⟨Tryz.func73,trivial,trivial⟩,trivial⟩,⟨Tryz.func77,⟨lX,trivial,trivial⟩,trivial⟩⟩,⟨Tryz.func81,⟨Tryz.func80,⟨Tryz.func79,trivial,trivial⟩,trivial⟩,⟨Tryz.func83,⟨Tryz.func82,trivial,trivial⟩,trivial⟩⟩⟩,⟨Tryz.func90,⟨Tryz.func87,⟨Tryz.func86,⟨Tryz.func85,trivial,trivial⟩,trivial⟩,⟨Tryz.func89,⟨Tryz.func88,trivial,trivial⟩,trivial⟩⟩,⟨Tryz.func93,⟨Tryz.func92,⟨Tryz.func91,trivial,trivial⟩,trivial⟩,⟨Tryz.func94,trivial,trivial⟩⟩⟩⟩⟩⟩,⟨Tryz.func141,⟨kZ,⟨Tryz.func107,⟨Tryz.func101,⟨Tryz.func98,⟨Tryz.func97,⟨Tryz.func96,trivial,trivial⟩,trivial⟩,⟨Tryz.func100,⟨Tryz.func99,trivial,trivial⟩,trivial⟩⟩,⟨k8,⟨k9,⟨lc,trivial,trivial⟩,trivial⟩,⟨Tryz.func106,⟨Tryz.func105,trivial,trivial⟩,trivial⟩⟩⟩,⟨Tryz.func113,⟨Tryz.func110,⟨Tryz.func109,⟨Tryz.func108,trivial,trivial⟩,trivial⟩,⟨Tryz.func112,⟨Tryz.func111,trivial,trivial⟩,trivial⟩⟩,⟨Tryz.func116,⟨Tryz.func115,⟨Tryz.func114,trivial,trivial⟩,trivial⟩,⟨Tryz.func117,trivial,trivial⟩⟩⟩⟩,⟨Tryz.func130,⟨Tryz.func124,⟨Tryz.func121,⟨lg,⟨lh,trivial,trivial⟩,trivial⟩,⟨Tryz.func123,⟨Tryz.func122,trivial,trivial⟩,trivial⟩⟩,⟨Tryz.func127,⟨Tryz.func126,⟨Tryz.func125,trivial,trivial⟩,trivial⟩,⟨Tryz.func129,⟨Tryz.func128,trivial,trivial⟩,trivial⟩⟩⟩,⟨Tryz.func136,⟨Tryz.func133,⟨Tryz.func132,⟨Tryz.func131,trivial,trivial⟩,trivial⟩,⟨Tryz.func135,⟨Tryz.func134,trivial,trivial⟩,trivial⟩⟩,⟨Tryz.func139,⟨Tryz.func138,⟨Tryz.func137,trivial,trivial⟩,trivial⟩,⟨Tryz.func140,trivial,trivial⟩⟩⟩⟩⟩,⟨Tryz.func166,⟨Tryz.func153,⟨Tryz.func147,⟨Tryz.func144,⟨Tryz.func143,⟨Tryz.func142,trivial,trivial⟩,trivial⟩,⟨Tryz.func146,⟨Tryz.func145,trivial,trivial⟩,trivial⟩⟩,⟨Tryz.func150,⟨ew,⟨Tryz.func148,trivial,trivial⟩,trivial⟩,⟨Tryz.func152,⟨Tryz.func151,trivial,trivial⟩,trivial⟩⟩⟩,⟨Tryz.func159,⟨Tryz.func156,⟨Tryz.func155,⟨Tryz.func154,trivial,trivial⟩,trivial⟩,⟨Tryz.func158,⟨Tryz.func157,trivial,trivial⟩,trivial⟩⟩,⟨Tryz.func164,⟨lj,⟨Tryz.func160,trivial,trivial⟩,trivial⟩,⟨Tryz.func165,trivial,trivial⟩⟩⟩⟩,⟨lm,⟨Tryz.func172,⟨Tryz.func169,⟨Tryz.func168,⟨Tryz.func167,trivial,trivial⟩,trivial⟩,⟨Tryz.func171,⟨Tryz.func170,trivial,trivial⟩,trivial⟩⟩,⟨ln,⟨Tryz.func175,⟨Tryz.func174,trivial,trivial⟩,trivial⟩,⟨lq,⟨Tryz.func177,trivial,trivial⟩,trivial⟩⟩⟩,⟨lr,⟨Tryz.func182,⟨ls,⟨lu,trivial,trivial⟩,trivial⟩,⟨lw,⟨lx,trivial,trivial⟩,trivial⟩⟩,⟨ly,⟨lz,⟨lA,trivial,trivial⟩,trivial⟩,⟨lB,trivial,trivial⟩⟩⟩⟩⟩⟩⟩
theorem Tryz.entersB_:ad1 Tryz.fns=ah:=by kernel_rfl
theorem Tryz.mixed_:ai.follows .mixedOrders=ah:=by kernel_rfl
end
end Go.Proofs
namespace Go.Sx
def aaH(P:Program)(t:Nat):Bool:=
 (match P.underlying t with
  |some (.struct fs)=>match fs.toList with
   |[f,g]=>f.name != "_" && g.name != "_" && f.offset==0&&g.offset==1&&(match P.underlying f.type with|some (.int .i64)=>ah|_=>ag)&&(match P.underlying g.type with|some .string=>ah|_=>ag)
   |_=>ag
  |_=>ag) && !P.stoodInHeld t
section
variable{P:Program}
theorem aev{t:Nat}{d:TypeDesc}(hu:P.underlying t=ae d)(hd:(match d with| .struct _| .array _ _=>ah|_=>ag)=ag){cs:Array Value}{j:Nat}{v:Value}(hj:cs[j]?=ae v)(w:World):(part t cs j).run P w=.ok v w:=by
 cases d<;>first|(simp at hd;done) |simp[part,isAgg,run_underlying hu,hj]
theorem ace{t:Nat}(h:aaH P t=ah):KT P t:=by
 unfold aaH at h;rw[ak] at h;obtain ⟨h1,h2⟩:=h;have h2:P.stoodInHeld t=ag:=by grind
 split at h1
 ·rename_i fs hu
  split at h1
  ·rename_i f g hl
   simp only[ak,bne_iff_ne,ne_eq,beq_iff_eq] at h1;obtain ⟨⟨⟨⟨⟨a1,a2⟩,a3⟩,a4⟩,a5⟩,a6⟩:=h1;have uf:P.underlying f.type=ae (.int .i64):=by
    grind
   have ug:P.underlying g.type=ae .string:=by
    grind
   have hfs:fs=#[f,g]:=by
    grind
   have p0 (n:rX) (w:World):(part f.type #[.int .i64 n.1,.string ⟨n.2.toArray⟩] 0).run P w=.ok (.int .i64 n.1) w:=aev uf rfl rfl w;have p1 (n:rX) (w:World):(part g.type #[.int .i64 n.1,.string ⟨n.2.toArray⟩] 1).run P w=.ok (.string ⟨n.2.toArray⟩) w:=aev ug rfl rfl w;refine ⟨⟨fs,hu⟩,fun em n w=>?_,fun n m w=>?_⟩
   ·have ci:∀(d:Nat) (k:Int),(cC em (d+1) f.type (.int .i64 k)).run P w=.ok () w:=fun d k=>by simp[cC,run_underlying uf]
    have cs:∀(d:Nat) (s:ByteArray),(cC em (d+1) g.type (.string s)).run P w=.ok () w:=fun d s=>by simp[cC,run_underlying ug]
    have:∀d:Nat,(cC em (d+2) t (qX n)).run P w=.ok () w:=fun d=>by
     unfold qX;rw[cC];simp_all [run_underlying]
    grind
   ·have hf:P.fieldsOf t=fs:=by simp[Program.fieldsOf,hu]
    have he:=run_equalIn_struct (P:=P) w 9999 t #[.int .i64 n.1,.string ⟨n.2.toArray⟩] #[.int .i64 m.1,.string ⟨m.2.toArray⟩] (by simp_all) h2;have q1:=run_equalIn_int (P:=P) w 9998 f.type .i64 .i64 n.1 m.1 uf;have q2:=run_equalIn_string (P:=P) w 9998 g.type ⟨n.2.toArray⟩ ⟨m.2.toArray⟩ ug;show (Op.equalIn 10000 t (qX n) (qX m)).run P w=_;unfold qX;rw[he,hf,hl];simp only[Op.eqFields,a1,a2,a3,a4,p0,p1,q1,q2,ZH,ne_eq,not_false_eq_true,if_true,Sem.run_bind,Result.andThen_ok,Sem.run_ite,Sem.run_pure];obtain ⟨x,l⟩:=n;obtain ⟨y,k⟩:=m;by_cases q:x=y<;>by_cases q2:l=k<;>simp[q,q2]
  ·cases h1
 ·cases h1
end
end Go.Sx
namespace Go.Proofs
open Go Go.Sx
abbrev Wd:=Nat->Nat->List UInt8
def QU(W:Wd)(g:Nat)(n:Nat):List Sh:=match n with
 |3=>[.str (W g 0),.str (W g 1),.str (W g 2)] |4=>[.str (W g 0),.str (W g 1),.str (W g 2),.str (W g 3)] |7=>[.str (W g 0),.str (W g 1),.str (W g 2),.str (W g 3),.str (W g 4),.str (W g 5),.str (W g 6)] |9=>[.str (W g 0),.str (W g 1),.str (W g 2),.str (W g 3),.str (W g 4),.str (W g 5),.str (W g 6),.str (W g 7),.str (W g 8)] |_=>[]
def pow10:List Int:=[1,10,100,1000,10000,100000,1000000,10000000,100000000,1000000000,10000000000,100000000000,1000000000000,10000000000000,100000000000000,1000000000000000,10000000000000000,100000000000000000,1000000000000000000,10000000000000000000]
def nJ(W:Wd):List (Nat×Sh):=[(0,.er 0 288),(5,.er 5 288),(1,.er 1 288),(3,.er 3 288),(4,.er 4 288),(6,.er 6 288),(7,.er 7 288),(8,.er 8 288),(10,.er 10 288),(11,.er 11 288),(12,.er 12 288),(13,.er 13 288),(9,.er 9 288),(14,.er 14 288),(15,.er 15 288),
 (16,.mX (QU W 16 4)),(17,.mX (QU W 17 7)),(18,.mX (QU W 18 9)),(19,.mX (QU W 19 3)),(20,.mX (QU W 20 4)),(21,.mX (QU W 21 4)),(23,.mX (pow10.map (av .u64)))]
def W7:Wd:=fun g i=>(match g,i with
 |16,0=>[114,101,103,105,115,116,101,114] |16,1=>[99,111,117,110,116,101,114] |16,2=>[113,117,101,117,101] |16,3=>[109,97,112] |17,0=>[98,101,103,105,110] |17,1=>[99,97,108,108] |17,2=>[114,101,116,117,114,110] |17,3=>[116,114,121] |17,4=>[99,111,109,109,105,116] |17,5=>[97,98,111,114,116] |17,6=>[99,97,110,99,101,108] |18,0=>[114,101,97,100] |18,1=>[119,114,105,116,101] |18,2=>[97,100,100] |18,3=>[103,101,116] |18,4=>[101,110,113] |18,5=>[100,101,113] |18,6=>[112,117,116] |18,7=>[108,111,111,107] |18,8=>[100,101,108] |19,0=>[111,107] |19,1=>[110,111,110,101] |19,2=>[118,97,108] |20,0=>[108,105,118,101] |20,1=>[112,101,110,100,105,110,103] |20,2=>[99,111,109,109,105,116,116,101,100] |20,3=>[97,98,111,114,116,101,100] |21,0=>[115,101,114,105,97,108] |21,1=>[115,116,114,105,99,116] |21,2=>[102,105,110,97,108] |21,3=>[111,112,97,113,117,101] |_,_=>[])
def noSpec:Nat->Option (List Sh->Tree Sh):=fun _=>ao
def aiD:Nat->Option VT
 |126=>ae .bool |147=>ae .int |_=>ao
theorem aew(t:Nat)(h:List.contains [114] t=ah):KT ai t:=by
 obtain rfl:t=114:=by simpa using h
 exact ace (by kernel_rfl)
noncomputable def C7(A:Prim)(W:Wd)(spec:Nat->Option (List Sh->Tree Sh))(stop:Nat->List Nat->Bool):Ctx:=
 {A,tys:=Tryz.tys,fns:=Tryz.fns,spec,eqs:=[212,58],Ox:=[288],Cm:=stop,gls:=nJ W,live:=Tryz.live,VB:=[114],Wv:=aiD}
theorem amD:QH ai Tryz.tys [212,58]=ah:=by kernel_rfl
theorem amE:ad9 ai [288]=ah:=by kernel_rfl
def amF:Nat->Option Nat
 |149=>ae 212 |_=>ao
def agW:Nat->Option Nat
 |175=>ae 212 |_=>ao
noncomputable def XK(A:Prim)(W:Wd)(spec:Nat->Option (List Sh->Tree Sh))(stop:Nat->List Nat->Bool):Ctx:=
 {A,tys:=Tryz.tys,fns:=Tryz.fns,spec,eqs:=[212,58],Ox:=[288],Cm:=stop,gls:=nJ W,live:=Tryz.live,VB:=[114],Wv:=aiD,ins:=amF,lend:=fun g=>g==148||g==151,grow:=agW}
instance C7.ok(spec:Nat->Option (List Sh->Tree Sh))(stop:Nat->List Nat->Bool):oC ai (C7 mM W7 spec stop):=
 ⟨QE Tryz.tysB_,Fv Tryz.fnsAre_,rfl,Tryz.mixed_,fun t i h hi xs ys w h1 h2 x y=>Ns (FB amD t i h hi) xs ys w h1 h2 x y,Lm amE,aew⟩
instance XK.ok(spec:Nat->Option (List Sh->Tree Sh))(stop:Nat->List Nat->Bool):oC ai (XK mM W7 spec stop):=
 ⟨QE Tryz.tysB_,Fv Tryz.fnsAre_,rfl,Tryz.mixed_,fun t i h hi xs ys w h1 h2 x y=>Ns (FB amD t i h hi) xs ys w h1 h2 x y,Lm amE,aew⟩
theorem C7.Hq{spec:Nat->Option (List Sh->Tree Sh)}{stop:Nat->List Nat->Bool}(hs:∀g F,spec g=ae F->nD ai (nJ W7) g F)(he:∀g,(spec g).isSome=ah->(Tryz.fns.get g).isSome=ah):oD ai (C7 mM W7 spec stop):=
 ⟨hs,fun g h=>by
  rcases h with h|h
  ·exact uz Tryz.fnsAre_ Tryz.entersB_ g (he g h)
  ·exact uz Tryz.fnsAre_ Tryz.entersB_ g h,fun _ _ _ h=>(by cases h),fun _ _ _ h=>(by cases h)⟩
theorem vk(stop:Nat->List Nat->Bool):oD ai (C7 mM W7 noSpec stop):=C7.Hq (fun _ _ h=>by cases h) (fun _ h=>by cases h)
def tX:Nat->Bool:=fun _=>ag
def mZ:Nat->List Nat->Bool:=fun _ _=>ah
abbrev L0:Nat:=1000000000000000000000000000000
def oN:Nat->List Nat->Bool:=fun _ _=>ag
end Go.Proofs
namespace Go.Sx
open Go.RowKit (Below)
theorem XL{H:Mem}{w w':World}{s:Sh}{v:Value}(hs:∀b0,(qA s b0).2=([],b0))(hd:∀b0,Den H (fun _=>ao) (qA s b0).1 v)(on:H.on w)(h:Below w.heap.size w w'):qy H w s v H w':=by
 have hb (b:Nat) (o:Obj) (e:H b=ae o):b<w.heap.size:=(aI.1 (on b o e)).1;refine ⟨fun _ _ e=>e,fun b o e=>?_,h.os,h.tape,h.output,h.size,h.block,fun b hb=>.inl hb,fun b0=>⟨fun _=>ao,fun i hi=>(hi rfl).elim,fun i b hb=>by simp[bk] at hb,hd b0,?_⟩⟩
 ·rw[h.block b (hb b o e)];exact on b o e
 ·rw[hs b0]
  exact ⟨fun _ _ h=>by simp[rM,mQ] at h,fun _ _ _ _ _ h=>by simp[rM,mQ] at h⟩
theorem U8{P:Program}{gls:List (Nat×Sh)}{f:Nat}{F:List Sh->Tree Sh}
  (h:∀(H:Mem) (w:World) (nY:List Sh) (args:List Value) (φ:Sh->Prop),H.on w->qE gls H->sD H nY args->(F nY).All φ->
   ∃s v,φ s/\(∀b0,(qA s b0).2=([],b0))/\(∀b0,Den H (fun _=>ao) (qA s b0).1 v)/\Calls P f args.toArray w fun e w'=>e=.returned v/\Below w.heap.size w w'):nD P gls f F:=by
 intro H w nY args φ on hg hr hφ;obtain ⟨s,v,hs,h1,h2,hc⟩:=h H w nY args φ on hg hr hφ;exact hc.mono fun e w' ⟨he,hw⟩=>⟨v,s,H,he,hs,XL h1 h2 on hw⟩
mutual
def NV:Sh->Sh
 | .os _ st n g=>.sl st n g | .agg l=>.agg (QV l) | .mX l=>.mX (QV l) |s=>s
def QV:List Sh->List Sh
 |[]=>[] |x::r=>NV x::QV r
end
def amG(H:Mem)(E:Env)(l:List (Nat×SB)):Prop:=∀i e st n g,(i,SB.own e st n g)∈l->∃v,E i=ae v/\Rep H (.sl st n g) v
theorem Tv(x:Value):Ac (SV.lit x)=ah:=by cases x<;>rfl
mutual
theorem aj7:∀s:Sh,Ac (Sm s)=ah
 | .agg l=>by simpa[Sm,Ac] using FI l | .mX l=>by simpa[Sm,Ac] using FI l | .fn f l=>by simpa[Sm,Ac] using FI l | .i _ _=>rfl | .b _=>rfl | .v x=>Tv x | .pt _=>rfl | .str _=>rfl | .sl _ _ _=>rfl | .os _ _ _ _=>rfl | .qK _ _=>rfl | .er _ _=>rfl
theorem FI:∀l:List Sh,Ed (EW l)=ah
 |[]=>rfl |x::r=>by simp[EW,Ed,aj7 x,FI r]
end
theorem aex(f:Nat)(l:List Sh):Ac (.fn f (EW l))=ah:=by simpa[Ac] using FI l
mutual
theorem aey{H:Mem}{E:Env}:∀(s:Sh) (b:Nat) (v:Value),amG H E (qA s b).2.1->Den H E (qA s b).1 v->∀b',Den H Es (qA (NV s) b').1 v/\(qA (NV s) b').2=([],b')
 | .os e st n g,b,v,hf,h,b'=>by
  obtain ⟨h1,_⟩:=h;obtain ⟨u,h2,h3⟩:=hf b e st n g (by simp[qA]);rw[h1] at h2;cases h2;exact ⟨h3,rfl⟩
 | .agg l,b,v,hf,h,b'=>by
  obtain ⟨vs,rfl,h⟩:=h;obtain ⟨h1,h2⟩:=Tz l b vs.toList hf h b';exact ⟨⟨vs,rfl,h1⟩,h2⟩
 | .mX l,b,v,hf,h,b'=>by
  obtain ⟨vs,rfl,h⟩:=h;obtain ⟨h1,h2⟩:=Tz l b vs.toList hf h b';exact ⟨⟨vs,rfl,h1⟩,h2⟩
 | .i k n,b,v,_,h,b'=>⟨h,rfl⟩ | .b x,b,v,_,h,b'=>⟨h,rfl⟩ | .v x,b,v,_,h,b'=>⟨EN (E:=E) (Tv x) h,rfl⟩ | .str l,b,v,_,h,b'=>⟨h,rfl⟩ | .sl st n g,b,v,_,h,b'=>⟨h,rfl⟩ | .qK t x,b,v,_,h,b'=>⟨h,rfl⟩ | .fn f l,b,v,_,h,b'=>⟨EN (E:=E) (x:=.fn f (EW l)) (aex f l) h,rfl⟩ | .er g T,b,v,_,h,b'=>⟨h,rfl⟩ | .pt l,b,v,_,h,b'=>⟨h,rfl⟩
theorem Tz{H:Mem}{E:Env}:∀(l:List Sh) (b:Nat) (vs:List Value),amG H E (tY l b).2.1->ni H E (tY l b).1 vs->∀b',ni H Es (tY (QV l) b').1 vs/\(tY (QV l) b').2=([],b')
 |[],_,[],_,_,_=>⟨trivial,rfl⟩ |[],_,_::_,_,h,_=>h.elim |_::_,_,[],_,h,_=>h.elim |x::r,b,v::vs,hf,h,b'=>by
  obtain ⟨h1,h2⟩:=h;obtain ⟨q1,q2⟩:=aey x b v (fun i e st n g hm=>hf i e st n g (by simp[tY,hm])) h1 b';obtain ⟨q3,q4⟩:=Tz r _ vs (fun i e st n g hm=>hf i e st n g (by simp[tY,hm])) h2 b';simp only[QV,tY];rw[q2];simp only[dM];exact ⟨⟨q1,q3⟩,q4⟩
end
theorem LU(hp:List (Nat×SB)):∀l l':List (Nat×SB),rM hp (l++l')=rM (rM hp l) l'
 |[],_=>rfl |(i,b)::l,l'=>LU (hins hp i b) l l'
theorem Pm:∀(l:List (Nat×SB)) (i:Nat) (x:SB),mQ (rM [] l) i=ae x->(i,x)∈l
 |[],_,_,h=>by simp[rM,mQ] at h |(j,b)::l,i,x,h=>by
  rw[rM,wY] at h;cases hq:mQ (rM [] l) i with
  |some y=>
   rw[hq] at h;cases h;exact List.mem_cons_of_mem _ (Pm l i _ hq)
  |none=>
   rw[hq] at h;simp only[uI] at h;grind [mQ]
structure LV(l:List (Nat×SB))(b c:Nat):Prop where
 le:b<=c
 rng:∀i x,(i,x)∈l->b<=i/\i<c
 own:∀i x,(i,x)∈l->∃e st n g,x=.own e st n g
 at_:∀i x,(i,x)∈l->mQ (rM [] l) i=ae x
theorem LV.nil(b:Nat):LV [] b b:=⟨aV _,fun _ _ h=>by simp at h,fun _ _ h=>by simp at h,fun _ _ h=>by simp at h⟩
theorem LV.append{l l':List (Nat×SB)}{b c d:Nat}(h:LV l b c)(h':LV l' c d):LV (l++l') b d:=by
 refine ⟨Nat.le_trans h.le h'.le,fun i x hm=>?_,fun i x hm=>?_,fun i x hm=>?_⟩
 ·rcases aU.1 hm with hm|hm
  ·have:=h.rng i x hm;have:=h'.le;omega
  ·have:=h'.rng i x hm;have:=h.le;omega
 ·rcases aU.1 hm with hm|hm
  ·exact h.own i x hm
  ·exact h'.own i x hm
 ·rw[LU,wY]
  rcases aU.1 hm with hm|hm
  ·cases hq:mQ (rM [] l') i with
   |none=>exact h.at_ i x hm |some y=>
    have h1:=h'.rng i y (Pm l' i y hq);have h2:=h.rng i x hm;omega
  ·rw[h'.at_ i x hm]
mutual
theorem aaI:∀(s:Sh) (b:Nat),LV (qA s b).2.1 b (qA s b).2.2
 | .os e st n g,b=>by
  simp only[qA];refine ⟨j3 b,fun i x hm=>?_,fun i x hm=>?_,fun i x hm=>?_⟩<;>simp at hm<;>obtain ⟨rfl,rfl⟩:=hm
  ·omega
  ·exact ⟨_,_,_,_,rfl⟩
  ·simp[rM,hins,mQ]
 | .agg l,b=>Pn l b | .mX l,b=>Pn l b | .i _ _,b=>.nil b | .b _,b=>.nil b | .v _,b=>.nil b | .str _,b=>.nil b | .sl _ _ _,b=>.nil b | .qK _ _,b=>.nil b | .fn _ _,b=>.nil b | .er _ _,b=>.nil b | .pt _,b=>.nil b
theorem Pn:∀(l:List Sh) (b:Nat),LV (tY l b).2.1 b (tY l b).2.2
 |[],b=>.nil b |x::r,b=>(aaI x b).append (Pn r _)
end
theorem Po:∀(ids:List Nat) (hp:List (Nat×SB)),(∀i x,mQ hp i=ae x->(∃e st n g,x=.own e st n g)\/∃st n g,x=.fz st n g)->(∀i,i∈ids->mQ hp i≠ao)->
  ∃hp',wU ids.length hp ids=ae hp'/\(∀i st n g,mQ hp i=ae (.fz st n g)->mQ hp' i=ae (.fz st n g))/\∀i e st n g,i∈ids->mQ hp i=ae (.own e st n g)->mQ hp' i=ae (.fz st n g)
 |[],hp,_,_=>⟨hp,rfl,fun _ _ _ _ h=>h,fun _ _ _ _ _ h=>by simp at h⟩ |id::ids,hp,ho,hi=>by
  cases hl:mQ hp id with
  |none=>simp_all |some x=>
   rcases ho id x hl with ⟨e,st,n,g,rfl⟩ |⟨st,n,g,rfl⟩
   ·have look (i:Nat):mQ (hset hp id (.fz st n g)) i=bif id==i then ae (.fz st n g) else mQ hp i:=by rw[rU,hl];rfl
    obtain ⟨hp',h1,h2,h3⟩:=Po ids (hset hp id (.fz st n g)) (fun i x h=>by
     grind) (fun i hm=>by
     grind)
    grind [wU]
   ·obtain ⟨hp',h1,h2,h3⟩:=Po ids hp ho (fun i hm=>hi i (by simp[hm]))
    grind [wU]
theorem qy.NV{H:Mem}{w:World}{s:Sh}{v:Value}{H':Mem}{w':World}(r:qy H w s v H' w'):∃H2,qy H w (NV s) v H2 w':=by
 obtain ⟨E1,h1,h2,h3,h4⟩:=r.res 0;have ids:=aaI s 0;have o7:sF ⟨w,fun _=>False,H⟩ H' w':=⟨r.os,r.tape,r.output,r.size,fun b hb _=>r.old b hb,r.on,r.x9,fun b hb=>(r.fresh b hb).imp id .inl⟩;obtain ⟨hp',a1,a2,a3⟩:=Po ((qA s 0).2.1.map (·.1)) (rM [] (qA s 0).2.1) (fun i x h=>.inl (ids.own i x (Pm _ i x h))) (fun i hm=>by
  obtain ⟨⟨j,x⟩,hm',rfl⟩:=bK.1 hm;show mQ _ j≠ao;rw[ids.at_ j x hm'];simp)
 obtain ⟨H2,b1,b2,b3,_⟩:=zq a1 h4 o7;have fz:amG H2 E1 (qA s 0).2.1:=fun i e st n g hm=>b2.ent i _ (a3 i e st n g (bK.2 ⟨_,hm,rfl⟩) (ids.at_ i _ hm));have hd:=aey s 0 v fz (Den.le b1 (fun _ _ e=>e) h3);refine ⟨H2,b3.le,b3.on,r.os,r.tape,r.output,r.size,r.old,fun b hb=>?_,fun b0=>⟨Es,fun i hi=>(hi rfl).elim,fun i b hb=>by simp[bk,Es] at hb,(hd b0).1,?_⟩⟩
 ·(rcases b3.fresh b hb with h|h|h)<;>simp_all
 ·rw[(hd b0).2]
  exact Ir
theorem nD.NV{P:Program}{gls:List (Nat×Sh)}{f:Nat}{F F':List Sh->Tree Sh}(h:nD P gls f F)(hF:∀nY (φ:Sh->Prop),(F' nY).All φ->(F nY).All fun s=>φ (Go.Sx.NV s)):nD P gls f F':=
 fun H w nY args φ on hg hr hφ=>(h H w nY args _ on hg hr (hF nY φ hφ)).mono fun _ _ ⟨v,_,_,he,hs,r⟩=>let ⟨H2,r2⟩:=r.NV;⟨v,_,H2,he,hs,r2⟩
end Go.Sx
namespace Go.Pl
open Go Go.Sx
structure Oj where
 kind:Int
 init:Int
 deriving DecidableEq,Inhabited
structure Pr where
 key:Int
 val:Int
 deriving DecidableEq,Inhabited
structure Cl where
 obj:Int
 op:Int
 key:Int
 val:Int
 deriving DecidableEq,Inhabited
def obR(o:Oj):List Sh:=[.i .i64 o.kind,.i .i64 o.init]
def prR(e:Pr):List Sh:=[.i .i64 e.key,.i .i64 e.val]
def clR(e:Cl):List Sh:=[.i .i64 e.obj,.i .i64 e.op,.i .i64 e.key,.i .i64 e.val]
def stR(s:List UInt8):List Sh:=[.str s]
def inR(n:Int):List Sh:=[.i .i64 n]
class Row(α:Type)where
 put:α->List Sh
 get:List Sh->Option α
 qQ:∀l a,get l=ae a->put a=l
 get_put:∀a,get (put a)=ae a
 Ad:α
instance:Row Oj where
 put:=obR
 get l:=match l with
  |[.i .i64 a,.i .i64 b]=>ae ⟨a,b⟩ |_=>ao
 qQ l a h:=by
  split at h
  ·cases h;rfl
  ·cases h
 get_put a:=rfl
 Ad:=⟨0,0⟩
instance:Row Pr where
 put:=prR
 get l:=match l with
  |[.i .i64 a,.i .i64 b]=>ae ⟨a,b⟩ |_=>ao
 qQ l a h:=by
  split at h
  ·cases h;rfl
  ·cases h
 get_put a:=rfl
 Ad:=⟨0,0⟩
instance:Row Cl where
 put:=clR
 get l:=match l with
  |[.i .i64 a,.i .i64 b,.i .i64 c,.i .i64 d]=>ae ⟨a,b,c,d⟩ |_=>ao
 qQ l a h:=by
  split at h
  ·cases h;rfl
  ·cases h
 get_put a:=rfl
 Ad:=⟨0,0,0,0⟩
instance:Row (List UInt8) where
 put:=stR
 get l:=match l with
  |[.str a]=>ae a |_=>ao
 qQ l a h:=by
  split at h
  ·cases h;rfl
  ·cases h
 get_put a:=rfl
 Ad:=[]
instance:Row Int where
 put:=inR
 get l:=match l with
  |[.i .i64 a]=>ae a |_=>ao
 qQ l a h:=by
  split at h
  ·cases h;rfl
  ·cases h
 get_put a:=rfl
 Ad:=0
def okB(α:Type)[Row α](n:Nat)(g:Nat->List Sh):Bool:=
 match n with
 |0=>ah |n+1=>okB α n g&&(Row.get (α:=α) (g n)).isSome
def mP{α:Type}[Row α](g:Nat->List Sh)(i:Nat):α:=(Row.get (g i)).getD Row.Ad
def lst(α:Type)[Row α](n:Nat)(g:Nat->List Sh):List α:=(aD n).map (mP g)
def nth{α:Type}[Row α](l:List α)(i:Nat):α:=l.getD i Row.Ad
def mO{α:Type}[Row α](o:Nat->α):Nat->List Sh:=fun j=>Row.put (o j)
section
variable{α:Type}[Row α]
theorem zh{n:Nat}{g:Nat->List Sh}(h:okB α n g=ah):∀i,i<n->g i=Row.put (mP (α:=α) g i):=by
 induction n with
 |zero=>omega |succ n ih=>
  simp only[okB,ak] at h;grind [bG,mP,Row.qQ]
theorem o9(o:Nat->α):∀n,okB α n (mO o)=ah
 |0=>rfl |n+1=>by simp[okB,o9 o n,mO,Row.get_put]
theorem Jv{g:Nat->List Sh}{o:Nat->α}:∀{n:Nat},(∀i,i<n->g i=Row.put (o i))->okB α n g=ah
 |0,_=>rfl |n+1,h=>by simp[okB,Jv (n:=n) fun i hi=>h i (by omega),h n (by omega),Row.get_put]
theorem Dh(o:Nat->α)(i:Nat):mP (mO o) i=o i:=by simp[mP,mO,Row.get_put]
@[simp] theorem uV (n:Nat) (g:Nat->List Sh):(lst α n g).length=n:=by simp[lst]
theorem QW{n:Nat}{g:Nat->List Sh}{i:Nat}(h:i<n):nth (lst α n g) i=mP g i:=by simp[nth,lst,h]
theorem XM(o:Nat->α)(n:Nat):lst α n (mO o)=(aD n).map o:=by
 simp_all [lst,dU,Dh]
theorem XO(l:List α):(aD l.length).map (nth l)=l:=by
 (apply jD)<;>simp_all [nth]
theorem zA(l:List α):lst α l.length (mO (nth l))=l:=by rw[XM,XO]
theorem XQ{n:Nat}{g g':Nat->List Sh}(h:∀i,i<n->g i=g' i):lst α n g=lst α n g':=by
 simp_all [lst,mP,bI]
end
theorem qN{H:Mem}{st n:Nat}{g g':Nat->List Sh}{v:Value}(h:Rep H (.sl st n g) v)(hg:∀j,j<n->g j=g' j):Rep H (.sl st n g') v:=by
 cases h with
 |sl0 _ _ A cap hc=>exact .sl0 _ _ _ _ hc |sl _ _ _ b off cap c h1 h2 h3 h4 h5 h6=>exact .sl _ _ _ b off cap c h1 h2 (fun i hi=>by simp_all) h4 h5 fun i j s hi e=>h6 i j s hi (by simp_all)
theorem pX{α:Type}[Row α]{H:Mem}{st n:Nat}{g:Nat->List Sh}{v:Value}(h:Rep H (.sl st n g) v)(hg:okB α n g=ah):Rep H (.sl st n (mO (mP (α:=α) g))) v:=
 qN h fun j hj=>zh hg j hj
def len{α:Type}(l:List α):Nat:=l.length
open Go Go.Sx
theorem mW(a b:Int):mM.lt a b=decide (a<b):=rfl
theorem tN(a b:Int):mM.le a b=decide (a<=b):=rfl
theorem nG(a b:Int):mM.eq a b=(a==b):=rfl
theorem nN(a:Int)(n:Nat):mM.inB a n=decide (0<=a/\a<n):=rfl
theorem vG(a:Int)(n:Nat):mM.upTo a n=decide (0<=a/\a<=n):=rfl
theorem uK(n b:Nat):mM.room n b=decide (n*b<=140737488355328/\n<=maxLen):=rfl
theorem oZ(a:Int):mM.toN a=a.toNat:=rfl
theorem ny(n:Nat):mM.nK n=(n:Int):=rfl
theorem uo(n m:Nat):mM.addN n m=n+m:=rfl
theorem XR(n m:Nat):mM.uy n m=n - m:=rfl
theorem TA(n m:Nat):mM.Wu n m=decide (n<=m):=rfl
theorem oL(b:Bool):mM.nt b=!b:=rfl
theorem aaJ(a b c:Bool):mM.ite a b c=bif a then b else c:=rfl
theorem aj8(a b:Bool):mM.beq a b=(a==b):=rfl
theorem aj9(a b:List UInt8):mM.seq a b=(a==b):=rfl
theorem rP(a b:Int):mM.add .i64 a b=az.wrap (a+b):=rfl
theorem Di(a b:Int):mM.sub .i64 a b=az.wrap (a - b):=rfl
theorem Iw(a b:Int):mM.max a b=if b>a then b else a:=rfl
theorem rH(g:Nat->List Sh)(n:Nat)(h:Nat->List Sh)(i:Nat):mM.snoc g n h i=if i<n then g i else h (i - n):=rfl
theorem pF{a:Int}(h1:-9223372036854775808<=a)(h2:a<=9223372036854775807):az.wrap a=a:=by
 rw[cN];omega
theorem zi:ab 1=1:=rfl
theorem maxLen_eq:maxLen=9223372036854775807:=rfl
theorem TB{α:Type}[Row α]{k:Nat}{o:Nat->α}{l:List (List Sh)}(h:nM l 0=Row.put (o k)):∀i,i<k+1->mM.snoc (mO o) k (nM l) i=mO o i:=fun i hi=>by
 rw[rH];split
 ·rfl
 ·have:i=k:=by omega
  subst this;rw[dh,h];rfl
def pq(n b:Nat):Bool:=mM.room n b
structure oO where
 kind:Int
 num:Int
 q:List Int
 ps:List Pr
 deriving DecidableEq,Inhabited
def qO(s:oO):List Sh:=[.i .i64 s.kind,.i .i64 s.num,.sl 1 (len s.q) (mO (nth s.q)),.sl 2 (len s.ps) (mO (nth s.ps))]
def pY(d:Nat->oO):Nat->List Sh:=fun j=>qO (d j)
end Go.Pl
namespace Go.Proofs
open Go.Shelf
def Tryz.lays156_ren:jE:=⟨fun|156=>76|165=>102|166=>103|169=>104|240=>119|241=>120|276=>162|277=>163|n=>n,fun|31=>175|9=>9|3=>3|4=>4|0=>0|20=>20|72=>217|76=>219|70=>214|37=>215|75=>46|127=>246|164=>263|5=>5|80=>152|n=>n,fun|n=>n⟩
theorem Tryz.lays156:lC ai Tryz.lays156_ren:={
 mixed:=by kernel_rfl
 f156:=lX.trans (congrArg ae (by kernel_rfl))
 f165:=lc.trans (congrArg ae (by kernel_rfl))
 f166:=k9.trans (congrArg ae (by kernel_rfl))
 f169:=k8.trans (congrArg ae (by kernel_rfl))
 f240:=lh.trans (congrArg ae (by kernel_rfl))
 f241:=lg.trans (congrArg ae (by kernel_rfl))
 f276:=Tryz.func162.trans (congrArg ae (by kernel_rfl))
 f277:=Tryz.func163.trans (congrArg ae (by kernel_rfl))
 t0:=jF
 a0:=lY
 z0:=lD
 v0:=j4
 t3:=fP
 a3:=lZ
 z3:=lE
 v3:=j5
 t4:=jG
 a4:=l4
 z4:=lF
 v4:=j6
 t9:=eC
 a9:=l5
 z9:=lG
 v9:=j7
 t20:=jm
 a20:=lH
 z20:=kJ
 v20:=jH
 t31:=Tryz.underlying175
 a31:=Tryz.isAgg175
 z31:=Tryz.sizeOf175
 v31:=Tryz.zeroValue175
 t37:=iU
 a37:=kK
 z37:=kr
 v37:=jn
 t70:=Tryz.underlying214
 a70:=Tryz.isAgg214
 z70:=Tryz.sizeOf214
 v70:=Tryz.zeroValue214
 t72:=Tryz.underlying217
 a72:=Tryz.isAgg217
 z72:=Tryz.sizeOf217
 v72:=Tryz.zeroValue217
 t75:=Tryz.underlying46
 a75:=Tryz.isAgg46
 z75:=Tryz.sizeOf46
 v75:=Tryz.zeroValue46
 t76:=Tryz.underlying219
 a76:=Tryz.isAgg219
 z76:=Tryz.sizeOf219
 v76:=Tryz.zeroValue219
 t127:=Tryz.underlying246
 a127:=Tryz.isAgg246
 z127:=Tryz.sizeOf246
 v127:=Tryz.zeroValue246
 t164:=Tryz.underlying263
 a164:=Tryz.isAgg263
 z164:=Tryz.sizeOf263
 v164:=Tryz.zeroValue263}
theorem Tryz.Builder_Extra_156:Builder.Extra ai Tryz.lays156_ren:={
 sizeBuilder:=by kernel_rfl
 liesBuilder:=by kernel_rfl
 t5:=jI
 a5:=l6
 z5:=lI
 v5:=j8
 infoByte:=by kernel_rfl
 cellsByte:=by kernel_rfl
 sizeByte:=by kernel_rfl
 neB5:=by decide}
open Go.RowKit in
theorem Tryz.strings_Join_none(a:Option Addr)(c:Nat)(sep:ByteArray)(w:World):
  Calls ai 76 #[.slice a 0 c,.string sep] w fun e w'=>e=.returned (.string ⟨#[]⟩)/\w'=w:=Any.strings_Join_none Tryz.lays156 Tryz.Builder_Extra_156 a c sep w
open Go.RowKit in
theorem Tryz.strings_Join(bk o c:Nat)(xs:List ByteArray)(sep:ByteArray)(w:World)(hcells:∀(j:Nat) x,xs[j]?=ae x->w.cell? ⟨bk,o+j,ao⟩=ae (.string x))(hbk:bk<w.heap.size)(hN:xs.length<=140737488355328)(hcap:xs.length<=c)(hlen:(Lib.join (xs.map (·.data.toList)) sep.data.toList).length<=140737488355328):
  Calls ai 76 #[.slice (ae ⟨bk,o,ao⟩) xs.length c,.string sep] w fun e w'=>e=.returned (.string ⟨(Lib.join (xs.map (·.data.toList)) sep.data.toList).toArray⟩)/\Below w.heap.size w w':=Any.strings_Join Tryz.lays156 Tryz.Builder_Extra_156 bk o c xs sep w hcells hbk hN hcap hlen
def Tryz.laysM171_ren:jE:=⟨fun|171=>118|243=>161|246=>176|283=>178|284=>179|285=>180|286=>181|129=>184|317=>183|318=>185|319=>186|320=>187|337=>188|338=>189|n=>n,fun|3=>3|9=>9|2=>2|4=>4|171=>273|0=>0|53=>274|37=>215|5=>5|173=>277|212=>281|51=>282|20=>20|213=>283|46=>107|232=>286|233=>287|n=>n,fun|17=>23|18=>24|19=>25|n=>n⟩
theorem Tryz.laysM171:kL ai Tryz.laysM171_ren:={
 mixed:=by kernel_rfl
 f129:=lw.trans (congrArg ae (by kernel_rfl))
 f171:=kZ.trans (congrArg ae (by kernel_rfl))
 f243:=lj.trans (congrArg ae (by kernel_rfl))
 f246:=ln.trans (congrArg ae (by kernel_rfl))
 f283:=lq.trans (congrArg ae (by kernel_rfl))
 f284:=lm.trans (congrArg ae (by kernel_rfl))
 f285:=lu.trans (congrArg ae (by kernel_rfl))
 f286:=ls.trans (congrArg ae (by kernel_rfl))
 f317:=lx.trans (congrArg ae (by kernel_rfl))
 f318:=lr.trans (congrArg ae (by kernel_rfl))
 f319:=lA.trans (congrArg ae (by kernel_rfl))
 f320:=lz.trans (congrArg ae (by kernel_rfl))
 f337:=ly.trans (congrArg ae (by kernel_rfl))
 f338:=lB.trans (congrArg ae (by kernel_rfl))
 t0:=jF
 a0:=lY
 z0:=lD
 v0:=j4
 t2:=Tryz.underlying2
 a2:=Tryz.isAgg2
 z2:=Tryz.sizeOf2
 v2:=Tryz.zeroValue2
 t3:=fP
 a3:=lZ
 z3:=lE
 v3:=j5
 t4:=jG
 a4:=l4
 z4:=lF
 v4:=j6
 t5:=jI
 a5:=l6
 z5:=lI
 v5:=j8
 t9:=eC
 a9:=l5
 z9:=lG
 v9:=j7
 t20:=jm
 a20:=lH
 z20:=kJ
 v20:=jH
 t37:=iU
 a37:=kK
 z37:=kr
 v37:=jn
 t46:=Tryz.underlying107
 a46:=Tryz.isAgg107
 z46:=Tryz.sizeOf107
 v46:=Tryz.zeroValue107
 t51:=Tryz.underlying282
 a51:=Tryz.isAgg282
 z51:=Tryz.sizeOf282
 v51:=Tryz.zeroValue282
 t53:=Tryz.underlying274
 a53:=Tryz.isAgg274
 z53:=Tryz.sizeOf274
 v53:=Tryz.zeroValue274
 t171:=Tryz.underlying273
 a171:=Tryz.isAgg273
 z171:=Tryz.sizeOf273
 v171:=Tryz.zeroValue273
 t173:=Tryz.underlying277
 a173:=Tryz.isAgg277
 z173:=Tryz.sizeOf277
 v173:=Tryz.zeroValue277
 t212:=Tryz.underlying281
 a212:=Tryz.isAgg281
 z212:=Tryz.sizeOf281
 v212:=Tryz.zeroValue281
 t213:=Tryz.underlying283
 a213:=Tryz.isAgg283
 z213:=Tryz.sizeOf283
 t232:=Tryz.underlying286
 a232:=Tryz.isAgg286
 z232:=Tryz.sizeOf286
 v232:=Tryz.zeroValue286
 t233:=Tryz.underlying287
 a233:=Tryz.isAgg287
 z233:=Tryz.sizeOf287
 v233:=Tryz.zeroValue287
 g17:=by kernel_rfl
 g18:=by kernel_rfl
 g19:=by kernel_rfl
 i0:=by kernel_rfl
 i2:=by kernel_rfl
 i3:=by kernel_rfl
 i4:=by kernel_rfl
 i5:=by kernel_rfl
 i9:=by kernel_rfl
 i20:=by kernel_rfl
 i37:=by kernel_rfl
 i46:=by kernel_rfl
 i51:=by kernel_rfl
 i53:=by kernel_rfl
 i171:=by kernel_rfl
 i173:=by kernel_rfl
 i212:=by kernel_rfl
 i232:=by kernel_rfl
 i233:=by kernel_rfl
 m17:=by kernel_rfl
 m18:=by kernel_rfl
 m19:=by kernel_rfl}
open Go.RowKit Go.Sort Go.Lib in
theorem Tryz.strconv_Itoa(n:Int)(h0:-9223372036854775808<=n)(h1:n<=9223372036854775807)(w:World)(htab:j9 ai w "internal/strconv.uint64pow10" .u64 ia) :
  Calls ai 118 #[.int .i64 n] w fun e w'=>e=.returned (.string ⟨(Lib.itoa n).toArray⟩)/\∃k os,w'=grow (w.drewN k) os:=Any.strconv_Itoa Tryz.laysM171 n h0 h1 w htab
end Go.Proofs
namespace Go.Pl
open Go Go.Sx
def oq(n:Int):List UInt8:=Go.Lib.itoa n
def rJ(l:List (List UInt8))(sep:List UInt8):List UInt8:=Go.Lib.join l sep
def qJ(n:Int):Bool:=decide (-9223372036854775808<=n/\n<=9223372036854775807)
def zJ(l:List UInt8):Bool:=decide (l.length<=140737488355328)
end Go.Pl
namespace Go.Proofs
open Go Go.Sx Go.Pl Go.RowKit Go.Sort Go.Lib
theorem akb{H:Mem}{k:IntKind}{n:Int}{v:Value}(h:Rep H (.i k n) v):v=.int k n:=by cases h;rfl
theorem aeA{H:Mem}{l:List UInt8}{v:Value}(h:Rep H (.str l) v):v=.string ⟨l.toArray⟩:=by cases h;rfl
theorem ZU(w:World)(k:Nat)(os:Array Obj):Below w.heap.size w (grow (w.drewN k) os):=
 ⟨rfl,rfl,rfl,by simp,fun j hj=>by
  show (w.heap++os)[j]?=w.heap[j]?;grind⟩
theorem auQ{H:Mem}{w:World}(on:H.on w)(hg:qE (nJ W7) H):j9 ai w "internal/strconv.uint64pow10" .u64 ia:=by
 obtain ⟨⟨cs,e,f,h1,h2⟩,c,h3,h4⟩:wV H 23 (.mX (pow10.map (av .u64))):=hg.at_ 23 _ (by rfl);have hgl:ai.globalNamed "internal/strconv.uint64pow10" = ae 23:=by kernel_rfl
 unfold j9 World.var?;rw[hgl];simp only[Option.bind_some];rw[on _ _ h1];simp only[dP];apply Array.ext
 ·rw[h2];rfl
 ·intro i hi hi2
  have hi':i<(pow10.map (av .u64)).length:=by omega
  obtain ⟨q1,_⟩:=h3 i hi';have q3:cs[i]?=ae (c i):=by simp_all [hcell]
  have hip:i<pow10.length:=by grind
  have q4:=h4 i (.i .u64 pow10[i]) (by simp);have q5:c i=.int .u64 pow10[i]:=akb q4;rw[Array.getElem?_eq_getElem hi] at q3;rw[aS q3,q5];have e:ia=pow10:=by decide
  simp[e]
def F92:List Sh->Tree Sh
 |[.i .i64 n]=>.need (qJ n) (.leaf (.str (oq n))) |_=>.fail
theorem O92:nD ai (nJ W7) 118 F92:=U8 fun H w nY args φ on hg hr h=>by
 unfold F92 at h;split at h
 ·obtain ⟨h1,h2⟩:=h
  match args,hr with
  |[v],⟨hv,_⟩=>
   cases hv;have h1:=of_decide_eq_true h1;exact ⟨_,_,h2,fun _=>rfl,fun _=>.str _,(Tryz.strconv_Itoa _ h1.1 h1.2 w (auQ on hg)).mono fun e w' ⟨he,k,os,hw⟩=>⟨he,by simp_all [ZU]⟩⟩
 ·exact h.elim
def F56:List Sh->Tree Sh
 |[.sl 1 n g,.str sep]=>.need (okB (List UInt8) n g) (.need (pq n 16) (.need (zJ (rJ (lst (List UInt8) n g) sep)) (.leaf (.str (rJ (lst (List UInt8) n g) sep))))) |_=>.fail
theorem O56:nD ai (nJ W7) 76 F56:=U8 fun H w nY args φ on hg hr h=>by
 unfold F56 at h;split at h
 ·rename_i n g sep
  obtain ⟨h1,h2,h3,h4⟩:=h;match args,hr with
  |[v,u],⟨hv,hu,_⟩=>
   cases hu;have h3:=of_decide_eq_true h3;refine ⟨_,_,h4,fun _=>rfl,fun _=>.str _,?_⟩;cases hv with
   |sl0 _ _ A cap hc=>
    refine (Tryz.strings_Join_none A cap ⟨sep.toArray⟩ w).mono fun e w' ⟨he,hw⟩=>⟨?_,hw ▸ l7 _ _⟩;rw[he];rfl
   |sl _ _ _ b off cap c q1 q2 q3 q4 q5 q6=>
    have hs:∀i,i<n->c i 0=.string ⟨(mP (α:=List UInt8) g i).toArray⟩:=fun i hi=>
     aeA (q6 i 0 (.str (mP (α:=List UInt8) g i)) hi (by rw[zh h1 i hi];rfl))
    have hcell:∀i,i<n->w.cell? ⟨b,off+i,ao⟩=ae (.string ⟨(mP (α:=List UInt8) g i).toArray⟩):=fun i hi=>by
     grind [EK]
    by_cases hn:n=0
    ·subst hn
     refine (Tryz.strings_Join_none _ cap ⟨sep.toArray⟩ w).mono fun e w' ⟨he,hw⟩=>⟨?_,hw ▸ l7 _ _⟩;rw[he];rfl
    have hb:b<w.heap.size:=by
     have:=hcell 0 (by omega);grind [World.cell?,aI]
    have hl:(((lst (List UInt8) n g).map fun l=>(⟨l.toArray⟩:ByteArray)).map (·.data.toList))=lst (List UInt8) n g:=by
     simp_all [Function.comp_def]
    have hlen:((lst (List UInt8) n g).map fun l=>(⟨l.toArray⟩:ByteArray)).length=n:=by simp
    have:=Tryz.strings_Join b off cap ((lst (List UInt8) n g).map fun l=>(⟨l.toArray⟩:ByteArray)) ⟨sep.toArray⟩ w (fun j x hx=>by
     have hj:j<n:=by
      grind
     simp_all [lst]) hb (by rw[hlen];have:=of_decide_eq_true h2;omega) (by omega) (by rw[hl];exact h3)
    rw[hl,hlen] at this;exact this
 ·exact h.elim
end Go.Proofs
namespace Go.Sx
mutual
def Wk:Sh->Sh->Prop
 | .os _ st n g,s'=>match s' with
  | .sl st' n' g'=>(n=0/\n'=0)\/(st=st'/\n=n'/\∀i,i<n->g i=g' i) |_=>False
 | .sl st n g,s'=>match s' with
  | .sl st' n' g'=>(n=0/\n'=0)\/(st=st'/\n=n'/\∀i,i<n->g i=g' i) |_=>False
 | .agg l,s'=>match s' with
  | .agg l'=>F7 l l' |_=>False
 | .mX l,s'=>match s' with
  | .mX l'=>F7 l l' |_=>False
 | .b x,s'=>s'=.b x\/s'=.v (.bool x) |s,s'=>s=s'
def F7:List Sh->List Sh->Prop
 |[],[]=>True |x::l,y::r=>Wk x y/\F7 l r |_,_=>False
end
theorem Jw{H:Mem}{st n:Nat}{g:Nat->List Sh}{v:Value}(h:Rep H (.sl st n g) v){st' n':Nat}{g':Nat->List Sh}(hw:(n=0/\n'=0)\/(st=st'/\n=n'/\∀i,i<n->g i=g' i)):Rep H (.sl st' n' g') v:=by
 rcases hw with ⟨rfl,rfl⟩ |⟨rfl,rfl,hg⟩
 ·cases h with
  |sl0 _ _ A cap hc=>exact .sl0 _ _ _ _ hc |sl _ _ _ b off cap c h1 h2 h3 h4 h5 h6=>exact .sl0 _ _ _ _ h2
 ·cases h with
  |sl0 _ _ A cap hc=>exact .sl0 _ _ _ _ hc |sl _ _ _ b off cap c h1 h2 h3 h4 h5 h6=>exact .sl _ _ _ b off cap c h1 h2 (fun i hi=>by simp_all) h4 h5 fun i j s hi e=>h6 i j s hi (by simp_all)
mutual
theorem acf{H:Mem}:∀(s s':Sh) (b b':Nat) (v:Value),Wk s s'->Den H Es (qA (NV s) b).1 v->Den H Es (qA s' b').1 v/\(qA s' b').2=([],b')
 | .os e st n g,s',b,b',v,hw,h=>by
  cases s'<;>simp only[Wk] at hw
  rename_i st' n' g';exact ⟨Jw (show Rep H (.sl st n g) v from h) hw,rfl⟩
 | .sl st n g,s',b,b',v,hw,h=>by
  cases s'<;>simp only[Wk] at hw
  rename_i st' n' g';exact ⟨Jw (show Rep H (.sl st n g) v from h) hw,rfl⟩
 | .agg l,s',b,b',v,hw,h=>by
  cases s'<;>simp only[Wk] at hw
  rename_i l';obtain ⟨vs,rfl,h⟩:=h;obtain ⟨q1,q2⟩:=XT l l' b b' vs.toList hw h;exact ⟨⟨vs,rfl,q1⟩,q2⟩
 | .mX l,s',b,b',v,hw,h=>by
  cases s'<;>simp only[Wk] at hw
  rename_i l';obtain ⟨vs,rfl,h⟩:=h;obtain ⟨q1,q2⟩:=XT l l' b b' vs.toList hw h;exact ⟨⟨vs,rfl,q1⟩,q2⟩
 | .b x,s',b,b',v,hw,h=>by
  simp only[Wk] at hw;rcases hw with rfl|rfl
  ·exact ⟨h,rfl⟩
  ·exact ⟨h,rfl⟩
 | .i k n,s',b,b',v,hw,h=>by simp only[Wk] at hw;subst hw;exact ⟨h,rfl⟩ | .v x,s',b,b',v,hw,h=>by simp only[Wk] at hw;subst hw;exact ⟨h,rfl⟩ | .str l,s',b,b',v,hw,h=>by simp only[Wk] at hw;subst hw;exact ⟨h,rfl⟩ | .qK t x,s',b,b',v,hw,h=>by simp only[Wk] at hw;subst hw;exact ⟨h,rfl⟩ | .fn f l,s',b,b',v,hw,h=>by simp only[Wk] at hw;subst hw;exact ⟨h,rfl⟩ | .er g T,s',b,b',v,hw,h=>by simp only[Wk] at hw;subst hw;exact ⟨h,rfl⟩ | .pt l,s',b,b',v,hw,h=>by simp only[Wk] at hw;subst hw;exact ⟨h,rfl⟩
theorem XT{H:Mem}:∀(l l':List Sh) (b b':Nat) (vs:List Value),F7 l l'->ni H Es (tY (QV l) b).1 vs->ni H Es (tY l' b').1 vs/\(tY l' b').2=([],b')
 |[],[],_,_,[],_,_=>⟨trivial,rfl⟩ |[],_::_,_,_,_,hw,_=>by simp[F7] at hw |_::_,[],_,_,_,hw,_=>by simp[F7] at hw |[],[],_,_,_::_,_,h=>h.elim |_::_,_::_,_,_,[],_,h=>h.elim |x::l,y::r,b,b',v::vs,hw,h=>by
  simp only[F7] at hw;obtain ⟨h1,h2⟩:=h;obtain ⟨q1,q2⟩:=acf x y b b' v hw.1 h1;obtain ⟨q3,q4⟩:=XT l r _ b' vs hw.2 h2;simp only[tY];rw[q2];simp only[dM];exact ⟨⟨q1,q3⟩,q4⟩
end
mutual
theorem aaK:∀(s:Sh) (b:Nat),Ac (qA (NV s) b).1=ah
 | .os _ _ _ _,_=>rfl | .agg l,b=>by simpa[NV,qA,Ac] using Pq l b | .mX l,b=>by simpa[NV,qA,Ac] using Pq l b | .i _ _,_=>rfl | .b _,_=>rfl | .v x,_=>Tv x | .str _,_=>rfl | .sl _ _ _,_=>rfl | .qK _ _,_=>rfl | .fn f l,_=>aex f l | .er _ _,_=>rfl | .pt _,_=>rfl
theorem Pq:∀(l:List Sh) (b:Nat),Ed (tY (QV l) b).1=ah
 |[],_=>rfl |x::r,b=>by simp[QV,tY,Ed,aaK x b,Pq r]
end
theorem qy.wk{H:Mem}{w:World}{s s':Sh}{v:Value}{H':Mem}{w':World}(r:qy H w s v H' w')(hw:Wk s s'):∃H2,qy H w s' v H2 w':=by
 obtain ⟨H2,r⟩:=r.NV;obtain ⟨E1,h1,h2,h3,h4⟩:=r.res 0;have hd0:Den H2 Es (qA (Go.Sx.NV s) 0).1 v:=EN (E:=E1) (aaK s 0) h3;refine ⟨H2,r.x9,r.on,r.os,r.tape,r.output,r.size,r.old,r.fresh,fun b0=>⟨Es,fun i hi=>(hi rfl).elim,fun i b hb=>by simp[bk,Es] at hb,(acf s s' 0 b0 v hw hd0).1,?_⟩⟩;rw[(acf s s' 0 b0 v hw hd0).2];exact Ir
def up(φ:Sh->Prop)(s:Sh):Prop:=∃s',Wk s s'/\φ s'
def qm:Nat->Bool:=fun _=>ag
theorem KF{P:Program}{C:Ctx}{H0:Mem}{w0:World}[hC:oC P C](hF:oD P C)(m n:Nat)(ts:List zx){g:Nat}{td:List It}{c:Core}{stk:List Fr}{R:Hp->Prop}{φ:Sh->Prop}(h:(nR C qm m n g td c stk ts).All (yc P C (K0 H0 w0) ts R φ)):mY P C (K0 H0 w0) g td c stk R φ:=pK _ hF m n ts h
section
variable{P:Program}{C:Ctx}
theorem QX(hC:oC P C){g:Nat}{fn:Func}(hfn:C.fns.get g=ae fn)(hb:fn.body.isSome=ah){H:Mem}{w:World}{vg:List Sh}{args:List Value}{φ:Sh->Prop}{L:Nat}(hon:H.on w)(hg:qE C.gls H)(hr:sD H vg args)
  (hgo:mY P C (K0 H w) g [.code []] (nX fn.ntmps vg L) [] emp φ):Calls P g args.toArray w fun e w'=>∃v s H',e=.returned v/\φ s/\qy H w s v H' w':=by
 obtain ⟨body,hbody⟩:=bG.1 hb;have hP:=hC.fn g fn hfn;intro cs;let a:Act:={tmps:=args.toArray++Array.replicate (fn.ntmps - args.toArray.size) undef,defers:=[]}
 have hlen:=hr.length;have st:St C (K0 H w) H E0 w (nX fn.ntmps vg L) a:=by
  refine ⟨?_,⟨fun _ _ h=>by simp[nX,mQ] at h,fun _ _ _ _ _ h=>by simp[nX,mQ] at h⟩,⟨rfl,rfl,rfl,aV _,fun _ _ _=>rfl,hon,fun _ _ h=>h,fun _ h=>.inl h⟩,fun _ _ _=>rfl,hg,rfl⟩;have:a.tmps.toList=args++bf (fn.ntmps - vg.length) undef:=by simp[a,hlen]
  rw[this];exact (AO hr).append (ni.any _ _ (by simp))
 have hit:pV (nC fn) [.code []] [.code body]:=by
  have:=pV.code (body:=nC fn) [] pV.nil;simp_all [oh,nC]
 obtain ⟨a',w',v,s,H',todo,fn0,q0,q1,q2,q3,q4,q5⟩:=hgo H E0 w a [.code body] [] cs fn hfn st hit trivial Iq;exact ⟨.returned v,w',_,⟨v,s,H',rfl,q3,q4⟩,by rw[AY hP hbody];exact q1,rfl,rfl,q2,rfl,fn,hP,by cases hfn.symm.trans q0;exact q5⟩
theorem rC(C:Ctx)[hC:oC P C](fn:Func){g:Nat}{F:List Sh->Tree Sh}
  (h:∀(H:Mem) (w:World) (nY:List Sh) (args:List Value) (φ:Sh->Prop),sD H nY args->(F nY).All φ->∃vg:List Sh,sD H vg args/\∃L,mY P C (K0 H w) g [.code []] (nX fn.ntmps vg L) [] emp (up φ)) (hfn:C.fns.get g=ae fn:=by kernel_rfl) (hb:fn.body.isSome=ah:=by kernel_rfl):nD P C.gls g F:=by
 intro H w nY args φ hon hg hr hφ;obtain ⟨vg,hr',L,hgo⟩:=h H w nY args φ hr hφ;refine (QX hC hfn hb hon hg hr' hgo).mono fun e w' ⟨v,s,H',he,⟨s',hw,hs⟩,r⟩=>?_;obtain ⟨H2,r2⟩:=r.wk hw;grind
theorem pJ[hC:oC P C](hF:oD P C)(m n L:Nat)(fn:Func){g:Nat}{F:List Sh->Tree Sh}
  (h:∀(H:Mem) (w:World) (nY:List Sh) (args:List Value) (φ:Sh->Prop),sD H nY args->(F nY).All φ->∃vg:List Sh,sD H vg args/\(nR C qm m n g [.code []] (nX fn.ntmps vg L) [] []).All (yc P C (K0 H w) [] emp (up φ))) (hfn:C.fns.get g=ae fn:=by kernel_rfl) (hb:fn.body.isSome=ah:=by kernel_rfl):nD P C.gls g F:=
 rC C fn (hfn:=hfn) (hb:=hb) fun H w nY args φ hr hφ=>let ⟨vg,hr',ha⟩:=h H w nY args φ hr hφ;⟨vg,hr',L,pK _ hF _ _ _ ha (hC:=hC)⟩
end
end Go.Sx
namespace Go.Proofs
open Go Go.Sx Go.Pl
def aaL(n:Nat)(o:Nat->Int)(i:Int)(k:Nat)(gg:Nat->List Sh):Core:={tm:=[.sh (.sl 1 n (mO o)),.any,.any,.gs 0,.sym .i64 i]++rep [.any] 17,hp:=[(0,.own 3 1 k gg)],nx:=1,lim:=L0,tc:=[]}
def Cc:List It:=[aA [0,1,0,1,1],aM 0,aA [1,1,1]]
def QY:List It:=[aA [0,0,1,0,1,1],aA [0,1,0,1,1],aM 0,aA [1,1,1]]
def Et:List It:=[aA [0,1,0,1,1],aM 0,aA [1,1,1]]
def ars:List It:=[aA [0,0,1,0,1,1],aA [0,1,0,1,1],aM 0,aA [1,1,1]]
theorem a13(A:Prim)(W:Wd)(n:Nat)(o:Nat->Int)(i':Int)(k':Nat)(zl:Nat->List Sh):nR (C7 A W noSpec mZ) tX 300 200 96 [.code []] (nX 22 [.sl 1 n (mO o)] L0) [] [⟨96,Cc,aaL n o i' k' zl,[]⟩]=al (A.le (ab 0) (A.nK n)) (al (A.room (A.toN (A.nK n)) 8) (ap (aH 0 [aw (aj 1 n (mO o)) (aj 1 n (mO o)),ac (ab 0) i',am 0 k',ax 0 (fun _=>[]) zl]))):=by kernel_rfl
theorem b13(A:Prim)(W:Wd)(n:Nat)(o:Nat->Int)(i i':Int)(k k':Nat)(gg zl:Nat->List Sh):nR (C7 A W noSpec mZ) tX 300 200 96 QY (aaL n o i k gg) [] [⟨96,Cc,aaL n o i' k' zl,[]⟩]=aq (A.lt i (A.nK n)) (al (A.inB i n) (al (A.room (A.addN k 1) 8) (ap (aH 0 [aw (aj 1 n (mO o)) (aj 1 n (mO o)),ac (A.add .i64 i (ab 1)) i',am (A.addN k 1) k',ax (A.addN k 1) (A.snoc gg k (nM [[av .i64 (o (A.toN i))]])) zl])))) (ap (ar (bS 3 1 k gg))):=by kernel_rfl
end Go.Proofs
namespace Go.Pl
open Go Go.Sx
end Go.Pl
namespace Go.Proofs
open Go Go.Sx Go.Pl
def F13:List Sh->Tree Sh
 |[.sl 1 n g]=>.need (okB Int n g) (.need (pq n 8) (.leaf (.os 3 1 n (mO (mP (α:=Int) g))))) |_=>.fail
theorem aiE{H0:Mem}{w0:World}{n:Nat}{o:Nat->Int}{φ:Sh->Prop}(hr:mM.room n 8=ah)(hφ:φ (.os 3 1 n (mO o))):
  ∀m k,k+m=n->mY ai (C7 mM W7 noSpec mZ) (K0 H0 w0) 96 Cc (aaL n o k k (mO o)) [] emp φ
 |m,k,hk=>by
  obtain ⟨hr1,hr2⟩:=vZ hr;rw[maxLen_eq] at hr2;refine uT il QY ?_;refine pK tX (vk _) 300 200 [⟨96,Cc,aaL n o (k+1:Nat) (k+1) (mO o),[]⟩] ?_;rw[b13 mM W7 n o k (k+1:Nat) k (k+1) (mO o) (mO o)];refine ⟨fun h=>⟨?_,?_,⟨rfl,?_,rfl,?_,trivial⟩,_,rfl,?_⟩,fun h=>?_⟩
  ·simp_all [mW,ny,nN]
  ·grind [mW,ny,uo,uK,maxLen_eq]
  ·grind [mW,ny,kN,rP,zi,pF]
  ·exact TB rfl
  ·simp[mW,ny] at h
   match m,hk with
   |0,hk=>omega |m+1,hk=>exact aiE hr hφ m (k+1) (by omega)
  ·simp[mW,ny] at h
   obtain rfl:k=n:=by omega
   exact hφ
theorem O13:nD ai (nJ W7) 96 F13:=by
 refine zI (C7 mM W7 noSpec mZ) il fun H w nY args φ hrep h=>?_
 unfold F13 at h;split at h
 ·rename_i n g
  obtain ⟨h1,h2,h3⟩:=h;have h2:mM.room n 8=ah:=h2;match args,hrep with
  |[v],⟨hv,_⟩=>
   refine ⟨[.sl 1 n (mO (mP (α:=Int) g))],⟨pX hv h1,trivial⟩,L0,?_⟩;refine pK tX (vk _) 300 200 [⟨96,Cc,aaL n (mP g) (0:Nat) 0 (mO (mP (α:=Int) g)),[]⟩] ?_;have hn:il.ntmps=22:=by kernel_rfl
   rw[hn,a13 mM W7 n (mP g) (0:Nat) 0 (mO (mP (α:=Int) g))];refine ⟨by rfl,by assumption,⟨rfl,rfl,rfl,fun j hj=>by omega,trivial⟩,_,rfl,aiE h2 h3 n 0 (by omega)⟩
 ·exact h.elim
end Go.Proofs
namespace Go.Pl
open Go Go.Sx
def nO:Sh->Option Int
 | .i .i64 c=>ae c | .v (.int .i64 c)=>ae c |_=>ao
def uM(c:Int):List UInt8:=if c=1 then Go.Proofs.W7 16 0 else if c=2 then Go.Proofs.W7 16 1 else if c=3 then Go.Proofs.W7 16 2 else if c=4 then Go.Proofs.W7 16 3 else []
end Go.Pl
namespace Go.Proofs
open Go Go.Sx Go.Pl
def F58:List Sh->Tree Sh
 |[t,s]=>match nO t,nO s with
  |some b,ae c=>.need (b==1) (.need (qJ c) (.leaf (.str (uM c)))) |_,_=>.fail
 |_=>.fail
def xG:Nat->Option (List Sh->Tree Sh)
 |118=>ae F92 |76=>ae F56 |99=>ae F58 |_=>ao
theorem a65(A:Prim)(W:Wd)(k i:Int):nR (C7 A W xG mZ) qm 300 400 79 [.code []] (nX 36 [.agg [.i .i64 k,.i .i64 i]] L0) [] []=aq (A.eq k (ab 1)) (al ah (al (qJ k) (aq (A.seq (uM k) []) (ap (ar (aX 7 288))) (aq (A.lt i (bW 999999999)) (ap (ar (aX 7 288))) (aq (A.lt (ab 1000000000) i) (ap (ar (aX 7 288))) (ap (ar (fQ bd)))))))) (al ah (al (qJ k) (aq (A.seq (uM k) []) (ap (ar (aX 7 288))) (aq (A.lt i (bW 999999999)) (ap (ar (aX 7 288))) (aq (A.lt (ab 1000000000) i) (ap (ar (aX 7 288))) (aq (A.nt (A.eq k (ab 2))) (aq (A.nt (A.eq i (ab 0))) (ap (ar (aX 7 288))) (ap (ar (fQ bd)))) (ap (ar (fQ bd))))))))):=by kernel_rfl
theorem a50(A:Prim)(W:Wd)(n a b:Nat)(g h l:Nat->List Sh)(x y:Int):nR (C7 A W xG mZ) qm 300 400 64 [.code []] (nX 11 [.agg [.sl 4 n g],.agg [.i .i64 x,.i .i64 y,.sl 1 a h,.sl 2 b l]] L0) [] []=al (A.le (ab 0) (A.nK n)) (al (A.room (A.toN (A.nK n)) 64) (al (A.room (A.addN 0 n) 64) (al (A.room (A.addN (A.addN 0 n) 1) 64) (al (A.le (ab 0) (A.nK n)) (al (A.room (A.toN (A.nK n)) 64) (al (A.room (A.addN 0 n) 64) (al (A.room (A.addN (A.addN 0 n) 1) 64) (Tree.must [aw (aj 4 n g) (aj 4 n g),ac x x,ac y y,aw (aj 1 a h) (aj 1 a h),aw (aj 2 b l) (aj 2 b l),aw (aj 4 n g) (aj 4 n g),ac x x,ac y y,aw (aj 1 a h) (aj 1 a h),aw (aj 2 b l) (aj 2 b l),ac x x,ac y y,aw (aj 1 a h) (aj 1 a h),aw (aj 2 b l) (aj 2 b l),am (A.addN (A.addN 0 n) 1) (A.addN (A.addN 0 n) 1),oM.Gf (A.snoc (A.snoc (fun _=>[]) 0 g) (A.addN 0 n) (nM [[av .i64 x,av .i64 y,aj 1 a h,aj 2 b l]])) (A.snoc (A.snoc (fun _=>[]) 0 g) (A.addN 0 n) (nM [[av .i64 x,av .i64 y,aj 1 a h,aj 2 b l]]))] (ap (ar (aN [bS 162 4 (A.addN (A.addN 0 n) 1) (A.snoc (A.snoc (fun _=>[]) 0 g) (A.addN 0 n) (nM [[av .i64 x,av .i64 y,aj 1 a h,aj 2 b l]]))]))))))))))):=by kernel_rfl
theorem a33(A:Prim)(W:Wd)(n:Nat)(d:Nat->oO)(i:Int):nR (C7 A W xG mZ) qm 300 400 84 [.code []] (nX 12 [.agg [.sl 4 n (pY d)],.i .i64 i] L0) [] []=aq (A.lt i (ab 0)) (ap (ar (aL [aN [av .i64 (ab 0),av .i64 (ab 0),aj 0 0 fun _=>[],aj 0 0 fun _=>[]],co ag]))) (aq (A.le (A.nK n) i) (ap (ar (aL [aN [av .i64 (ab 0),av .i64 (ab 0),aj 0 0 fun _=>[],aj 0 0 fun _=>[]],co ag]))) (al (A.inB i n) (ap (ar (aL [aN [av .i64 (d (A.toN i)).kind,av .i64 (d (A.toN i)).num,aj 1 (len (d (A.toN i)).q) (mO (nth (d (A.toN i)).q)),aj 2 (len (d (A.toN i)).ps) (mO (nth (d (A.toN i)).ps))],co ah]))))):=by kernel_rfl
theorem a54(A:Prim)(W:Wd)(n a b:Nat)(g h l:Nat->List Sh)(i x y:Int):nR (C7 A W xG mZ) qm 300 400 86 [.code []] (nX 27 [.agg [.sl 4 n g],.i .i64 i,.agg [.i .i64 x,.i .i64 y,.sl 1 a h,.sl 2 b l]] L0) [] []=aq (A.lt i (ab 0)) (ap (ar (aN [aj 4 n g]))) (aq (A.le (A.nK n) i) (ap (ar (aN [aj 4 n g]))) (al (A.le (ab 0) (A.nK n)) (al (A.room (A.toN (A.nK n)) 64) (al (A.room (A.addN 0 n) 64) (al (A.inB i (A.addN 0 n)) (ap (ar (aN [bS 162 4 (A.addN 0 n) (A.upd (A.snoc (fun _=>[]) 0 g) (A.toN i) 0 [av .i64 x,av .i64 y,aj 1 a h,aj 2 b l])])))))))):=by kernel_rfl
theorem a64(A:Prim)(W:Wd)(n:Nat)(g:Nat->List Sh):nR (C7 A W xG mZ) qm 300 400 83 [.code []] (nX 10 [.agg [.sl 4 n g]] L0) [] []=al (A.le (ab 0) (A.nK n)) (al (A.room (A.toN (A.nK n)) 64) (al (A.room (A.addN 0 n) 64) (ap (ar (bS 162 4 (A.addN 0 n) (A.snoc (fun _=>[]) 0 g)))))):=by kernel_rfl
theorem a59(A:Prim)(W:Wd)(x:Int):nR (C7 A W xG mZ) qm 300 400 100 [.code []] (nX 5 [.i .i64 x] L0) [] []=al (qJ x) (ap (ar (bA (oq x)))):=by kernel_rfl
theorem a60(A:Prim)(W:Wd)(n:Nat)(g:Nat->List Sh):nR (C7 A W xG mZ) qm 300 400 101 [.code []] (nX 5 [.sl 1 n g] L0) [] []=al (okB (List UInt8) n g) (al (pq n 16) (al (zJ (rJ (lst (List UInt8) n g) [32])) (ap (ar (bA (rJ (lst (List UInt8) n g) [32])))))):=by kernel_rfl
theorem a66(A:Prim)(W:Wd)(x:Int):nR (C7 A W xG mZ) qm 300 400 82 [.code []] (nX 17 [.i .i64 x] L0) [] []=aq (A.eq x (ab 1)) (ap (ar (av .i64 (ab 1)))) (aq (A.eq x (ab 2)) (ap (ar (av .i64 (ab 1)))) (aq (A.eq x (ab 3)) (ap (ar (av .i64 (ab 2)))) (aq (A.eq x (ab 4)) (ap (ar (av .i64 (ab 2)))) (aq (A.eq x (ab 5)) (ap (ar (av .i64 (ab 3)))) (aq (A.eq x (ab 6)) (ap (ar (av .i64 (ab 3)))) (aq (A.eq x (ab 7)) (ap (ar (av .i64 (ab 4)))) (aq (A.eq x (ab 8)) (ap (ar (av .i64 (ab 4)))) (aq (A.eq x (ab 9)) (ap (ar (av .i64 (ab 4)))) (ap (ar (av .i64 (ab 0)))))))))))):=by kernel_rfl
theorem a67(A:Prim)(W:Wd)(x:Int):nR (C7 A W xG mZ) qm 300 400 110 [.code []] (nX 13 [.i .i64 x] L0) [] []=aq (A.eq x (ab 7)) (ap (ar (co ah))) (aq (A.eq x (ab 8)) (ap (ar (co ah))) (ap (ar (co (A.eq x (ab 9)))))):=by kernel_rfl
theorem a68(A:Prim)(W:Wd)(x:Int):nR (C7 A W xG mZ) qm 300 400 111 [.code []] (nX 17 [.i .i64 x] L0) [] []=aq (A.eq x (ab 2)) (ap (ar (co ah))) (aq (A.eq x (ab 3)) (ap (ar (co ah))) (aq (A.eq x (ab 5)) (ap (ar (co ah))) (ap (ar (co (A.eq x (ab 7))))))):=by kernel_rfl
theorem a69(A:Prim)(W:Wd)(k x y:Int):nR (C7 A W xG mZ) qm 300 400 112 [.code []] (nX 27 [.i .i64 k,.i .i64 x,.i .i64 y] L0) [] []=aq (A.eq k (ab 2)) (aq (A.lt x (ab 0)) (ap (ar (co ah))) (aq (A.lt (ab 1000) x) (ap (ar (co ah))) (aq (A.lt y (bW 999999999999999)) (ap (ar (co ah))) (ap (ar (co (A.lt (ab 1000000000000000) y))))))) (aq (A.lt x (ab 0)) (ap (ar (co ah))) (aq (A.lt (ab 1000) x) (ap (ar (co ah))) (aq (A.lt y (bW 999999999)) (ap (ar (co ah))) (ap (ar (co (A.lt (ab 1000000000) y))))))):=by kernel_rfl
theorem w58(A:Prim)(W:Wd)(c:Int):nR (C7 A W noSpec mZ) qm 300 400 99 [.code []] (nX 16 [.v (.int .i64 1),.i .i64 c] L0) [] []=aq (A.lt (A.sub .i64 (A.max c (ab 0)) (ab 1)) (ab 0)) (ap (ar (bA []))) (aq (A.le (ab 4) (A.sub .i64 (A.max c (ab 0)) (ab 1))) (ap (ar (bA []))) (al (A.inB (A.sub .i64 (A.max c (ab 0)) (ab 1)) 4) (aq (A.eq (A.sub .i64 (A.max c (ab 0)) (ab 1)) (ab 0)) (ap (ar (bA (W 16 0)))) (aq (A.eq (A.sub .i64 (A.max c (ab 0)) (ab 1)) (ab 1)) (ap (ar (bA (W 16 1)))) (aq (A.eq (A.sub .i64 (A.max c (ab 0)) (ab 1)) (ab 2)) (ap (ar (bA (W 16 2)))) (aq (A.eq (A.sub .i64 (A.max c (ab 0)) (ab 1)) (ab 3)) (ap (ar (bA (W 16 3)))) dN)))))):=by kernel_rfl
end Go.Proofs
namespace Go.Pl
open Go Go.Sx
theorem le0(n:Nat):mM.le (ab 0) (mM.nK n)=ah:=by rfl
theorem XU(n:Nat):mM.toN (mM.nK n)=n:=rfl
theorem Jy(n:Nat):mM.addN 0 n=n:=Nat.zero_add n
theorem XV(n m:Nat):mM.addN n m=n+m:=rfl
theorem TD(h g:Nat->List Sh):mM.snoc h 0 g=g:=by
 rfl
theorem DN{n m b:Nat}(h:pq n b=ah)(hm:m<=n):pq m b=ah:=by
 have:=of_decide_eq_true (show decide (n*b<=140737488355328/\n<=maxLen)=ah from h);have h2:m*b<=n*b:=ba b hm;exact decide_eq_true (show m*b<=140737488355328/\m<=maxLen from ⟨by omega,by omega⟩)
theorem nP{φ:Sh->Prop}{s s':Sh}(hw:Wk s s')(h:φ s'):up φ s:=⟨s',hw,h⟩
def yg(n:Nat)(g:Nat->List Sh)(r:List Sh):Nat->List Sh:=fun j=>if j<n then g j else r
theorem aaM{n:Nat}{g:Nat->List Sh}{r:List Sh}:∀j,j<n+1->mM.snoc g n (nM [r]) j=yg n g r j:=fun j hj=>by
 rw[rH];unfold yg;split
 ·rfl
 ·have:j=n:=by omega
  subst this;rw[dh];rfl
def wM(n:Nat)(i:Int):Bool:=decide (0<=i/\i<n)
def Ce(n:Nat)(g:Nat->List Sh)(i:Int)(r:List Sh):Nat->List Sh:=fun j=>if wM n i=ah/\j=i.toNat then r else g j
noncomputable def stB(n:Nat)(g:Nat->List Sh):Bool:=@decide (∃d:Nat->oO,∀j,j<n->g j=qO (d j)) (ay _)
noncomputable def tH(n:Nat)(g:Nat->List Sh):Nat->oO:=@dite _ (∃d:Nat->oO,∀j,j<n->g j=qO (d j)) (ay _) (fun h=>h.choose) fun _ _=>⟨0,0,[],[]⟩
theorem Jz{n:Nat}{g:Nat->List Sh}(h:stB n g=ah):∀j,j<n->g j=pY (tH n g) j:=by
 unfold stB at h;have h:=@of_decide_eq_true _ (ay _) h;unfold tH;rw[dif_pos h];exact h.choose_spec
theorem XW(n:Nat)(d:Nat->oO):stB n (pY d)=ah:=by unfold stB;exact @decide_eq_true _ (ay _) ⟨d,fun _ _=>rfl⟩
theorem aiF{n:Nat}{g:Nat->List Sh}{d:Nat->oO}(h:∀j,j<n->g j=qO (d j)):stB n g=ah:=by unfold stB;exact @decide_eq_true _ (ay _) ⟨d,h⟩
theorem akf{α:Type}[Row α]{l m:List α}{st:Nat}(h:aj st (len l) (mO (nth l))=aj st (len m) (mO (nth m))):l=m:=by
 simp only[Sh.sl.injEq,true_and] at h;obtain ⟨h1,h2⟩:=h;rw[<-zA l,<-zA m];have h1:l.length=m.length:=h1;rw[h1,h2]
theorem Iy{s t:oO}(h:qO s=qO t):s=t:=by
 obtain ⟨a,b,c,d⟩:=s;obtain ⟨a',b',c',d'⟩:=t;simp only[qO,gQ,Sh.i.injEq,true_and,and_true] at h;grind [akf]
theorem amH{n:Nat}{d:Nat->oO}:∀j,j<n->tH n (pY d) j=d j:=fun j hj=>Iy (Jz (XW n d) j hj).symm
theorem aiG{n:Nat}{g:Nat->List Sh}{d:Nat->oO}(h:∀j,j<n->g j=qO (d j)):∀j,j<n->tH n g j=d j:=fun j hj=>Iy ((Jz (aiF h) j hj).symm.trans (h j hj))
def FK:oO:=⟨0,0,[],[]⟩
def atT(n:Nat)(d:Nat->oO)(i:Int):oO:=bif wM n i then d i.toNat else FK
def rV(k i:Int):Bool:=!(decide (1<=k)&&decide (k<=4))||decide (i < -1000000000)||decide (1000000000<i)||(!(decide (k=1)||decide (k=2)) && !decide (i=0))
def uO(op:Int):Int:=if op=1\/op=2 then 1 else if op=3\/op=4 then 2 else if op=5\/op=6 then 3 else if op=7\/op=8\/op=9 then 4 else 0
def keyed(op:Int):Bool:=decide (op=7)||decide (op=8)||decide (op=9)
def valued(op:Int):Bool:=decide (op=2)||decide (op=3)||decide (op=5)||decide (op=7)
def Ae(k x y:Int):Bool:=decide (x<0)||decide (1000<x)||decide (y < -(if k=2 then 1000000000000000 else 1000000000))||decide ((if k=2 then 1000000000000000 else 1000000000)<y)
def qp(st:Nat):Sh->Option (Nat×(Nat->List Sh))
 | .sl st' n g=>bif bJ st' st then ae (n,g) else bif bJ n 0 then ae (0,fun _=>[]) else ao |_=>ao
theorem nZ{H:Mem}{st n:Nat}{s:Sh}{g:Nat->List Sh}{v:Value}(hs:qp st s=ae (n,g))(h:Rep H s v):Rep H (.sl st n g) v:=by
 cases s<;>simp only[qp] at hs<;>try cases hs
 rename_i st' n' g';cases h1:bJ st' st<;>simp only[h1,cond_true,cond_false] at hs
 ·cases h2:bJ n' 0<;>simp only[h2,cond_true,cond_false] at hs
  ·cases hs
  ·cases hs
   exact Jw h (.inl ⟨Nat.eq_of_beq_eq_true h2,rfl⟩)
 simp_all
theorem EO{H:Mem}{s s':Sh}{v:Value}(hv:Rep H (.agg [s]) v)(h0:∀u,Rep H s u->Rep H s' u):Rep H (.agg [s']) v:=by
 cases hv with
 |agg _ vs h2 h3=>
  refine .agg _ vs h2 fun j s v' e1 e2=>?_
  grind
theorem EP{H:Mem}{s2 s3 s2' s3':Sh}{v:Value}(hv:Rep H (.agg [s2,s3]) v)(h0:∀u,Rep H s2 u->Rep H s2' u)(h1:∀u,Rep H s3 u->Rep H s3' u):Rep H (.agg [s2',s3']) v:=by
 cases hv with
 |agg _ vs h2 h3=>
  refine .agg _ vs h2 fun j s v' e1 e2=>?_
  grind
theorem yh{H:Mem}{x y:Sh}{s2 s3 s2' s3':Sh}{v:Value}(hv:Rep H (.agg [x,y,s2,s3]) v)(h0:∀u,Rep H s2 u->Rep H s2' u)(h1:∀u,Rep H s3 u->Rep H s3' u):Rep H (.agg [x,y,s2',s3']) v:=by
 cases hv with
 |agg _ vs h2 h3=>
  refine .agg _ vs h2 fun j s v' e1 e2=>?_
  grind
theorem ER(g:Nat->List Sh)(i off:Nat)(l:List Sh)(j:Nat):mM.upd g i off l j=if j=i then (g j).take off++l++(g j).drop (off+l.length) else g j:=rfl
theorem rO{H:Mem}{s:Sh}{c:Int}{v:Value}(h:nO s=ae c)(r:Rep H s v):Rep H (.i .i64 c) v:=by
 unfold nO at h;split at h
 ·simp_all
 ·cases h;cases r;exact .i _ _
 ·cases h
theorem XY{H:Mem}{s:Sh}{c:Int}{v:Value}(h:nO s=ae c)(r:Rep H s v):Rep H (.v (.int .i64 c)) v:=by
 have:=rO h r;cases this;exact .v _ rfl
end Go.Pl
namespace Go.Proofs
open Go Go.Sx Go.Pl
theorem O58:nD ai (nJ W7) 99 F58:=by
 refine zI (C7 mM W7 noSpec mZ) kq fun H w nY args φ hrep h=>?_
 have hn:kq.ntmps=16:=by kernel_rfl
 unfold F58 at h;split at h
 ·rename_i t s
  split at h
  ·rename_i b c ht hs
   obtain ⟨h1,h2,hφ⟩:=h;have h1:b=1:=by grind
   subst h1;have h2:=of_decide_eq_true h2;match args,hrep with
   |[v,u],⟨hv,hu,_⟩=>
    refine ⟨[.v (.int .i64 1),.i .i64 c],⟨XY ht hv,rO hs hu,trivial⟩,L0,?_⟩;refine KF (vk _) 300 400 [] ?_;rw[hn,w58 mM W7 c];obtain ⟨m,e,hm⟩:∃m:Int,mM.sub .i64 (mM.max c (ab 0)) (ab 1)=m/\((c<=0/\m=-1)\/(1<=c/\m=c - 1)):=by
     refine ⟨_,rfl,?_⟩;grind [Di,Iw,pF]
    rw[e];have key (X:List UInt8) (hX:uM c=X):φ (.str X):=hX ▸ hφ;have q0:ab 0=0:=rfl;have q1:ab 1=1:=rfl;have q2:ab 2=2:=rfl;have q3:ab 3=3:=rfl;have q4:ab 4=4:=rfl;simp only[mW,tN,nG,nN,q0,q1,q2,q3,q4];refine ⟨fun h=>key _ ?_,fun h=>⟨fun h2=>key _ ?_,fun h2=>⟨?_,fun h3=>key _ ?_,fun h3=>⟨fun h4=>key _ ?_,fun h4=>⟨fun h5=>key _ ?_,fun h5=>⟨fun h6=>key _ ?_,fun h6=>?_⟩⟩⟩⟩⟩⟩;all_goals simp only[decide_eq_true_eq,decide_eq_false_iff_not,beq_iff_eq,beq_eq_false_iff_ne,ne_eq] at *
    all_goals (try unfold uM)
    all_goals grind
  ·exact h.elim
 ·exact h.elim
theorem OAs:∀g F,xG g=ae F->nD ai (nJ W7) g F:=fun g F h=>by
 unfold xG at h;grind [O92,O56,O58]
theorem Eu(stop:Nat->List Nat->Bool):oD ai (C7 mM W7 xG stop):=C7.Hq OAs fun g h=>by
 unfold xG at h;split at h;all_goals first|(cases h;done) |kernel_rfl
def F50:List Sh->Tree Sh
 |[.agg [s0],.agg [.i .i64 x,.i .i64 y,s2,s3]]=>match qp 4 s0,qp 1 s2,qp 2 s3 with
  |some (n,g),ae (a,h),ae (b,l)=>.need (pq (n+1) 64) (.leaf (.agg [.sl 4 (n+1) (yg n g [.i .i64 x,.i .i64 y,.sl 1 a h,.sl 2 b l])])) |_,_,_=>.fail
 |_=>.fail
theorem O50:nD ai (nJ W7) 64 F50:=by
 refine pJ (Eu mZ) 300 400 L0 kl fun H w nY args φ hrep h=>?_
 have hn:kl.ntmps=11:=by kernel_rfl
 unfold F50 at h;split at h
 ·rename_i s0 x y s2 s3
  split at h
  ·rename_i n g a hh b l hs0 hs2 hs3
   obtain ⟨h1,hφ⟩:=h;match args,hrep with
   |[v,u1],⟨hv,r1,_⟩=>
    refine ⟨[.agg [.sl 4 n g],.agg [.i .i64 x,.i .i64 y,.sl 1 a hh,.sl 2 b l]],⟨EO hv fun u hu=>nZ hs0 hu,yh r1 (fun u hu=>nZ hs2 hu) (fun u hu=>nZ hs3 hu),trivial⟩,?_⟩;have h0:=DN h1 (j3 n);rw[hn,a50 mM W7 n a b g hh l x y,Jy,TD,XU,XV];refine ⟨le0 n,h0,h0,h1,le0 n,h0,h0,h1,?_,nP (s':=.agg [.sl 4 (n+1) (yg n g [.i .i64 x,.i .i64 y,.sl 1 a hh,.sl 2 b l])]) ⟨.inr ⟨rfl,rfl,aaM⟩,trivial⟩ hφ⟩;repeat' (first|exact trivial|exact rfl|refine And.intro ?_ ?_)
  ·exact h.elim
 ·exact h.elim
theorem aiH{n:Nat}{i:Int}(h:mM.lt i (ab 0)=ah):wM n i=ag:=by grind [mW,wM]
theorem aiI{n:Nat}{i:Int}(h:mM.le (mM.nK n) i=ah):wM n i=ag:=by simp_all [tN,ny,wM]
theorem ach{n:Nat}{i:Int}(h:mM.lt i (ab 0)=ag)(h3:mM.le (mM.nK n) i=ag):wM n i=ah:=by
 simp_all [mW,tN,ny,wM]
noncomputable def F33:List Sh->Tree Sh
 |[.agg [s0],t]=>match qp 4 s0,nO t with
  |some (n,g),ae i=>.need (stB n g) (.leaf (.mX [.agg (qO (atT n (tH n g) i)),.b (wM n i)])) |_,_=>.fail
 |_=>.fail
theorem O33:nD ai (nJ W7) 84 F33:=by
 refine pJ (Eu mZ) 300 400 L0 km fun H w nY args φ hrep h=>?_
 have hn:km.ntmps=12:=by kernel_rfl
 unfold F33 at h;split at h
 ·rename_i s0 t
  split at h
  ·rename_i n g i hs ht
   obtain ⟨h1,hφ⟩:=h;match args,hrep with
   |[v,u1],⟨hv,r1,_⟩=>
    refine ⟨[.agg [.sl 4 n (pY (tH n g))],.i .i64 i],⟨EO hv fun u hu=>qN (nZ hs hu) (Jz h1),rO ht r1,trivial⟩,?_⟩;generalize tH n g=d at *;have out (hi:wM n i=ag):up φ (.mX [.agg [.i .i64 (ab 0),.i .i64 (ab 0),.sl 0 0 fun _=>[],.sl 0 0 fun _=>[]],.b ag]):=
     nP (s':=.mX [.agg (qO (atT n d i)),.b (wM n i)]) ⟨by simp[atT,hi,qO,FK,Wk,F7,len],by simp[hi,Wk],trivial⟩ hφ
    rw[hn,a33 mM W7 n d i];refine ⟨fun h=>out (aiH h),fun h=>⟨fun h3=>out (aiI h3),fun h3=>⟨ach h h3,?_⟩⟩⟩;have hi:=ach h h3;exact nP (s':=.mX [.agg (qO (atT n d i)),.b (wM n i)]) ⟨by simp[atT,hi,qO,Wk,F7,oZ],by simp[hi,Wk],trivial⟩ hφ
  ·exact h.elim
 ·exact h.elim
noncomputable def F54:List Sh->Tree Sh
 |[.agg [s0],t,.agg [.i .i64 x,.i .i64 y,s2,s3]]=>match qp 4 s0,nO t,qp 1 s2,qp 2 s3 with
  |some (n,g),ae i,ae (a,h),ae (b,l)=>.need (pq n 64) (.need (stB n g) (.leaf (.agg [.sl 4 n (Ce n g i [.i .i64 x,.i .i64 y,.sl 1 a h,.sl 2 b l])]))) |_,_,_,_=>.fail
 |_=>.fail
theorem O54:nD ai (nJ W7) 86 F54:=by
 refine pJ (Eu mZ) 300 400 L0 ko fun H w nY args φ hrep h=>?_
 have hn:ko.ntmps=27:=by kernel_rfl
 unfold F54 at h;split at h
 ·rename_i s0 t x y s2 s3
  split at h
  ·rename_i n g i a hh b l hs0 ht hs2 hs3
   obtain ⟨h1,h2,hφ⟩:=h;match args,hrep with
   |[v,u1,u2],⟨hv,r1,r2,_⟩=>
    refine ⟨[.agg [.sl 4 n g],.i .i64 i,.agg [.i .i64 x,.i .i64 y,.sl 1 a hh,.sl 2 b l]],⟨EO hv fun u hu=>nZ hs0 hu,rO ht r1,yh r2 (fun u hu=>nZ hs2 hu) (fun u hu=>nZ hs3 hu),trivial⟩,?_⟩;have same (hi:wM n i=ag):up φ (.agg [.sl 4 n g]):=nP (s':=.agg [.sl 4 n (Ce n g i [.i .i64 x,.i .i64 y,.sl 1 a hh,.sl 2 b l])]) ⟨.inr ⟨rfl,rfl,fun j hj=>by simp[Ce,hi]⟩,trivial⟩ hφ;rw[hn,a54 mM W7 n a b g hh l i x y,Jy,TD,XU];refine ⟨fun h=>same (aiH h),fun h=>⟨fun h3=>same (aiI h3),fun h3=>⟨le0 n,h1,h1,ach h h3,nP (s':=.agg [.sl 4 n (Ce n g i [.i .i64 x,.i .i64 y,.sl 1 a hh,.sl 2 b l])]) ⟨.inr ⟨rfl,rfl,fun j hj=>?_⟩,trivial⟩ hφ⟩⟩⟩;have hi:=ach h h3;simp only[Ce,hi,true_and,ER,oZ];by_cases e:j=i.toNat
    ·have hl:(g j).length=4:=by rw[Jz h2 j hj];rfl
     simp_all
    ·simp[e]
  ·exact h.elim
 ·exact h.elim
def F65:List Sh->Tree Sh
 |[.agg [.i .i64 k,.i .i64 i]]=>.need (qJ k) (.node (rV k i) (.leaf (.er 7 288)) (.leaf (.v .nilIface))) |_=>.fail
theorem agX{k:Int}:mM.seq (uM k) []=!(decide (1<=k)&&decide (k<=4)):=by
 by_cases h1:k=1
 ·subst h1;rfl
 by_cases h2:k=2
 ·subst h2;rfl
 by_cases h3:k=3
 ·subst h3;rfl
 by_cases h4:k=4
 ·subst h4;rfl
 grind [uM,aj9]
theorem O65:nD ai (nJ W7) 79 F65:=by
 refine zI (C7 mM W7 xG mZ) hZ fun H w nY args φ hrep h=>?_
 have hn:hZ.ntmps=36:=by kernel_rfl
 unfold F65 at h;split at h
 ·rename_i k i
  obtain ⟨h1,hb,hg⟩:=h;refine ⟨_,hrep,L0,KF (Eu _) 300 400 [] ?_⟩;rw[hn,a65 mM W7 k i,agX];have q0:ab 0=0:=rfl;have q1:ab 1=1:=rfl;have q2:ab 2=2:=rfl;have q3:ab 1000000000=1000000000:=rfl;have q4:bW 999999999=-1000000000:=rfl;simp only[mW,nG,oL,q0,q1,q2,q3,q4];have bad (h:rV k i=ah):φ (.er 7 288):=hb h;have good (h:rV k i=ag):φ (.v .nilIface):=hg h;refine ⟨fun e=>⟨rfl,h1,fun e1=>bad ?_,fun e1=>⟨fun e2=>bad ?_,fun e2=>⟨fun e3=>bad ?_,fun e3=>good ?_⟩⟩⟩,fun e=>⟨rfl,h1,fun e1=>bad ?_,fun e1=>⟨fun e2=>bad ?_,fun e2=>⟨fun e3=>bad ?_,fun e3=>⟨fun e4=>⟨fun e5=>bad ?_,fun e5=>good ?_⟩,fun e4=>good ?_⟩⟩⟩⟩⟩;all_goals (simp at *;simp[rV];omega)
 ·exact h.elim
end Go.Proofs
namespace Go.Pl
open Go Go.Sx
def sK(n:Nat)(l:List (Nat×SV)):List SV:=l.foldl (fun t p=>t.set p.1 p.2) (bf n .any)
end Go.Pl
namespace Go.Proofs
open Go Go.Sx Go.Pl
def F60:List Sh->Tree Sh
 |[.sl 1 n g]=>.need (okB (List UInt8) n g) (.need (pq n 16) (.need (zJ (rJ (lst (List UInt8) n g) [32])) (.leaf (.str (rJ (lst (List UInt8) n g) [32]))))) |_=>.fail
def zS:Nat->Option (List Sh->Tree Sh)
 |99=>ae F58 |100=>ae F92 |101=>ae F60 |79=>ae F65 |_=>ao
def Nw:Nat->Bool:=fun g=>bJ g 81
def aaN(n:Nat)(o:Nat->Oj)(e:Nat->List Sh)(i:Int):Core:={tm:=sK 78 [(1,.ptr 0 0),(21,.sh (.sl 2 n (mO o))),(22,.sym .i64 (n:Int)),(23,.sym .i64 i)],hp:=[(0,.box [.sh (.sl 2 n (mO o)),.sh (.sl 8 0 e)] 25)],nx:=1,lim:=L0,tc:=[]}
def agY(n:Nat)(o:Nat->Oj)(e:Nat->List Sh):Core:={tm:=sK 78 [(38,.sym .i64 0),(39,.sym .i64 0)],hp:=[],nx:=0,lim:=L0,tc:=[]}
def agZ:List It:=[aA [0,1,0,1,1,1],aM 2,aA [1,1,1,1]]
def amI:List It:=aA [0,0,1,0,1,1,1]::agZ
def TF(a:Nat)(o:Nat->Int)(i:Int)(k:Nat)(gg:Nat->List Sh):Core:={tm:=sK 61 [(3,.gs 0),(26,.sh (.sl 1 a (mO o))),(27,.sym .i64 (a:Int)),(28,.sym .i64 i)],hp:=[(0,.own 9 1 k gg)],nx:=1,lim:=L0,tc:=[]}
def TG(b:Nat)(p:Nat->Pr)(i:Int)(k:Nat)(gg:Nat->List Sh):Core:={tm:=sK 61 [(3,.gs 0),(41,.sh (.sl 2 b (mO p))),(42,.sym .i64 (b:Int)),(43,.sym .i64 i)],hp:=[(0,.own 9 1 k gg)],nx:=1,lim:=L0,tc:=[]}
def TI:List It:=[aA [0,1,0,1,1,1,0,1,0,1,1],aM 1,aM 0,aA [1,1,1]]
def TJ:List It:=[aA [0,1,0,1,1,1,1,1,0,1,0,1,1],aM 3,aM 0,aA [1,1,1]]
def amJ:List It:=aA [0,0,1,0,1,1,1,0,1,0,1,1]::TI
def amK:List It:=aA [0,0,1,0,1,1,1,1,1,0,1,0,1,1]::TJ
theorem a41(A:Prim)(W:Wd)(k i:Int):nR (C7 A W zS mZ) qm 300 400 63 [.code []] (nX 16 [.agg [.i .i64 k,.i .i64 i]] L0) [] []=al (qJ k) (aq (rV k i) (ap (ar (aL [aN [av .i64 (ab 0),av .i64 (ab 0),aj 0 0 fun _=>[],aj 0 0 fun _=>[]],aX 7 288]))) (ap (ar (aL [aN [av .i64 k,av .i64 i,aj 0 0 fun _=>[],aj 0 0 fun _=>[]],fQ bd])))):=by kernel_rfl
theorem a49(A:Prim)(W:Wd)(n:Nat)(o:Nat->Oj)(e:Nat->List Sh)(i':Int):nR (C7 A W zS mZ) Nw 300 400 62 [.code []] (nX 78 [.agg [.sl 2 n (mO o),.sl 8 0 e]] L0) [] [⟨62,Cc,aaN n o e i',[]⟩]=aq (A.lt (ab 8) (A.nK n)) (ap (ar (aX 6 288))) (aq (A.lt (ab 400) (A.nK 0)) (ap (ar (aX 6 288))) (ap (aH 0 [aw (aj 2 n (mO o)) (aj 2 n (mO o)),ac (A.nK n) (ab n),ac (ab 0) i',aw (aj 2 n (mO o)) (aj 2 n (mO o)),aw (aj 8 0 e) (aj 8 0 e)]))):=by kernel_rfl
theorem b49(A:Prim)(W:Wd)(n:Nat)(o:Nat->Oj)(e:Nat->List Sh)(i i':Int):nR (C7 A W zS mZ) Nw 300 400 62 QY (aaN n o e i) [] [⟨62,Cc,aaN n o e i',[]⟩,⟨62,agZ,agY n o e,[]⟩]=aq (A.lt i (ab n)) (al (A.inB i n) (al (qJ (o (A.toN i)).kind) (aq (rV (o (A.toN i)).kind (o (A.toN i)).init) (ap (ar (Sh.qK 90 (Sh.pt [av .i64 i,aX 7 288])))) (ap (aH 0 [aw (aj 2 n (mO o)) (aj 2 n (mO o)),ac (ab n) (ab n),ac (A.add .i64 i (ab 1)) i',aw (aj 2 n (mO o)) (aj 2 n (mO o)),aw (aj 8 0 e) (aj 8 0 e)]))))) (ap (aH 1 [ac (A.nK 0) (ab 0),ac (ab 0) (ab 0)])):=by kernel_rfl
theorem c49(A:Prim)(W:Wd)(n:Nat)(o:Nat->Oj)(e:Nat->List Sh):nR (C7 A W zS mZ) Nw 300 400 62 amI (agY n o e) [] []=aq (A.lt (ab 0) (ab 0)) dN (ap (ar (fQ bd))):=by kernel_rfl
theorem a35(A:Prim)(W:Wd)(x y:Int)(a b:Nat)(o:Nat->Int)(p:Nat->Pr)(i':Int)(k':Nat)(zl:Nat->List Sh):nR (C7 A W zS mZ) qm 300 400 75 [.code []] (nX 61 [.agg [.i .i64 x,.i .i64 y,.sl 1 a (mO o),.sl 2 b (mO p)]] L0) [] [⟨75,TI,TF a o i' k' zl,[]⟩,⟨75,TJ,TG b p i' k' zl,[]⟩]=al ah (al (qJ x) (aq (A.eq x (ab 1)) (al (qJ y) (al (okB (List UInt8) 2 (nM (chunks 1 (1+1) [bA (uM x),bA (oq y)]))) (al (pq 2 16) (al (zJ (rJ (lst (List UInt8) 2 (nM (chunks 1 (1+1) [bA (uM x),bA (oq y)]))) [32])) (ap (ar (bA (rJ (lst (List UInt8) 2 (nM (chunks 1 (1+1) [bA (uM x),bA (oq y)]))) [32])))))))) (aq (A.eq x (ab 2)) (al (qJ y) (al (okB (List UInt8) 2 (nM (chunks 1 (1+1) [bA (uM x),bA (oq y)]))) (al (pq 2 16) (al (zJ (rJ (lst (List UInt8) 2 (nM (chunks 1 (1+1) [bA (uM x),bA (oq y)]))) [32])) (ap (ar (bA (rJ (lst (List UInt8) 2 (nM (chunks 1 (1+1) [bA (uM x),bA (oq y)]))) [32])))))))) (aq (A.eq x (ab 3)) (ap (aH 0 [aw (aj 1 a (mO o)) (aj 1 a (mO o)),ac (A.nK a) (ab a),ac (ab 0) i',am 1 k',ax 1 (nM [[bA (uM x)]]) zl])) (aq (A.eq x (ab 4)) (ap (aH 1 [aw (aj 2 b (mO p)) (aj 2 b (mO p)),ac (A.nK b) (ab b),ac (ab 0) i',am 1 k',ax 1 (nM [[bA (uM x)]]) zl])) (al (okB (List UInt8) 1 (nM (chunks 1 1 [bA (uM x)]))) (al (pq 1 16) (al (zJ (rJ (lst (List UInt8) 1 (nM (chunks 1 1 [bA (uM x)]))) [32])) (ap (ar (bA (rJ (lst (List UInt8) 1 (nM (chunks 1 1 [bA (uM x)]))) [32])))))))))))):=by kernel_rfl
theorem auT(A:Prim)(W:Wd)(a:Nat)(o:Nat->Int)(i i':Int)(k k':Nat)(gg zl:Nat->List Sh):nR (C7 A W zS mZ) qm 300 400 75 amJ (TF a o i k gg) [] [⟨75,TI,TF a o i' k' zl,[]⟩]=aq (A.lt i (ab a)) (al (A.inB i a) (al (qJ (o (A.toN i))) (al (A.room (A.addN k 1) 16) (ap (aH 0 [aw (aj 1 a (mO o)) (aj 1 a (mO o)),ac (ab a) (ab a),ac (A.add .i64 i (ab 1)) i',am (A.addN k 1) k',ax (A.addN k 1) (A.snoc gg k (nM [[bA (oq (o (A.toN i)))]])) zl]))))) (al (okB (List UInt8) k gg) (al (pq k 16) (al (zJ (rJ (lst (List UInt8) k gg) [32])) (ap (ar (bA (rJ (lst (List UInt8) k gg) [32]))))))):=by kernel_rfl
theorem auU(A:Prim)(W:Wd)(b:Nat)(p:Nat->Pr)(i i':Int)(k k':Nat)(gg zl:Nat->List Sh):nR (C7 A W zS mZ) qm 300 400 75 amK (TG b p i k gg) [] [⟨75,TJ,TG b p i' k' zl,[]⟩]=aq (A.lt i (ab b)) (al (A.inB i b) (al (qJ (p (A.toN i)).key) (al (A.Wu (A.addN (A.len (oq (p (A.toN i)).key)) (A.len [58])) 9223372036854775807) (al (qJ (p (A.toN i)).val) (al (A.Wu (A.addN (A.len (A.app (oq (p (A.toN i)).key) [58])) (A.len (oq (p (A.toN i)).val))) 9223372036854775807) (al (A.room (A.addN k 1) 16) (ap (aH 0 [aw (aj 2 b (mO p)) (aj 2 b (mO p)),ac (ab b) (ab b),ac (A.add .i64 i (ab 1)) i',am (A.addN k 1) k',ax (A.addN k 1) (A.snoc gg k (nM [[bA (A.app (A.app (oq (p (A.toN i)).key) [58]) (oq (p (A.toN i)).val))]])) zl])))))))) (al (okB (List UInt8) k gg) (al (pq k 16) (al (zJ (rJ (lst (List UInt8) k gg) [32])) (ap (ar (bA (rJ (lst (List UInt8) k gg) [32]))))))):=by kernel_rfl
end Go.Proofs
namespace Go.Pl
open Go Go.Sx
def Bz(s:oO):List (List UInt8):=uM s.kind::(if s.kind=1\/s.kind=2 then [oq s.num] else if s.kind=3 then s.q.map oq else if s.kind=4 then s.ps.map (fun p=>oq p.key++[58]++oq p.val) else [])
def yL:Nat->List Sh:=mO (nth ([]:List Int))
def noP:Nat->List Sh:=mO (nth ([]:List Pr))
def keyS(s:oO):List UInt8:=rJ (Bz s) [32]
def LW(n:Nat):Bool:=decide (8<n)
def FM(n:Nat)(o:Nat->Oj):Bool:=(aD n).all fun j=>!rV (o j).kind (o j).init
def DR(n:Nat)(o:Nat->Oj):Nat:=((aD n).find? fun j=>rV (o j).kind (o j).init).getD 0
def JA(n:Nat)(o:Nat->Oj):Bool:=(aD n).all fun j=>qJ (o j).kind
theorem xH{n:Nat}{p:Nat->Bool}(h:(aD n).all p=ah):∀j,j<n->p j=ah:=fun j hj=>bh.1 h j (bI.2 hj)
theorem aeD{n:Nat}{o:Nat->Oj}(h:∀j,j<n->rV (o j).kind (o j).init=ag):FM n o=ah:=bh.2 fun j hj=>by simp_all
theorem amL{n k:Nat}{o:Nat->Oj}(hk:k<n)(h:rV (o k).kind (o k).init=ah):FM n o=ag:=by
 grind [FM,List.all_eq_false]
theorem find_range{n k:Nat}{p:Nat->Bool}(hk:k<n)(h:p k=ah)(hb:∀j,j<k->p j=ag):(aD n).find? p=ae k:=by
 simp_all
theorem aeE{n k:Nat}{o:Nat->Oj}(hk:k<n)(h:rV (o k).kind (o k).init=ah)(hb:∀j,j<k->rV (o j).kind (o j).init=ag):DR n o=k:=by
 unfold DR;rw[find_range hk h hb];rfl
def amM(n:Nat)(o:Nat->Int):Bool:=(aD n).all fun j=>qJ (o j)
def aru(n:Nat)(o:Nat->Pr):Bool:=(aD n).all fun j=>qJ (o j).key&&qJ (o j).val
end Go.Pl
namespace Go.Proofs
open Go Go.Sx Go.Pl
theorem O59:nD ai (nJ W7) 100 F92:=by
 refine pJ (Eu mZ) 300 400 L0 jB fun H w nY args φ hrep h=>?_
 have hn:jB.ntmps=5:=by kernel_rfl
 unfold F92 at h;split at h
 ·obtain ⟨h1,hφ⟩:=h
  refine ⟨_,hrep,?_⟩;rw[hn,a59 mM W7];exact ⟨h1,nP (s':=.str _) rfl hφ⟩
 ·exact h.elim
theorem O60:nD ai (nJ W7) 101 F60:=by
 refine pJ (Eu mZ) 300 400 L0 jC fun H w nY args φ hrep h=>?_
 have hn:jC.ntmps=5:=by kernel_rfl
 unfold F60 at h;split at h
 ·obtain ⟨h1,h2,h3,hφ⟩:=h
  refine ⟨_,hrep,?_⟩;rw[hn,a60 mM W7];exact ⟨h1,h2,h3,nP (s':=.str _) rfl hφ⟩
 ·exact h.elim
theorem OBs:∀g F,zS g=ae F->nD ai (nJ W7) g F:=fun g F h=>by
 unfold zS at h;grind [O58,O59,O60,O65]
theorem XZ(stop:Nat->List Nat->Bool):oD ai (C7 mM W7 zS stop):=C7.Hq OBs fun g h=>by
 unfold zS at h;split at h;all_goals first|(cases h;done) |kernel_rfl
def F41:List Sh->Tree Sh
 |[.agg [.i .i64 k,.i .i64 i]]=>.need (qJ k) (.node (rV k i) (.leaf (.mX [.agg (qO FK),.er 7 288])) (.leaf (.mX [.agg [.i .i64 k,.i .i64 i,.sl 1 0 yL,.sl 2 0 noP],.v .nilIface]))) |_=>.fail
theorem O41:nD ai (nJ W7) 63 F41:=by
 refine pJ (XZ mZ) 300 400 L0 kj fun H w nY args φ hrep h=>?_
 have hn:kj.ntmps=16:=by kernel_rfl
 unfold F41 at h;split at h
 ·rename_i k i
  obtain ⟨h1,hb,hg⟩:=h;refine ⟨_,hrep,?_⟩;rw[hn,a41 mM W7 k i];refine ⟨h1,fun e=>nP (s':=.mX [.agg (qO FK),.er 7 288]) ?_ (hb e),fun e=>nP (s':=.mX [.agg [.i .i64 k,.i .i64 i,.sl 1 0 yL,.sl 2 0 noP],.v .nilIface]) ?_ (hg e)⟩
  ·simp[qO,FK,Wk,F7,len]
  ·simp[Wk,F7]
 ·exact h.elim
def F49:List Sh->Tree Sh
 |[.agg [s0,s1]]=>match qp 2 s0,qp 8 s1 with
  |some (n,g),ae (0,_)=>.need (okB Oj n g) (.need (JA n (mP g)) (.node (LW n) (.leaf (.er 6 288)) (.node (FM n (mP g)) (.leaf (.v .nilIface)) (.leaf (.qK 90 (.pt [.i .i64 (DR n (mP g)),.er 7 288])))))) |_,_=>.fail
 |_=>.fail
theorem aiJ{H0:Mem}{w0:World}{n:Nat}{o:Nat->Oj}{e:Nat->List Sh}{φ:Sh->Prop}(hn:n<=8)(hk:∀j,j<n->qJ (o j).kind=ah)(hT:(∀j,j<n->rV (o j).kind (o j).init=ag)->φ (.v .nilIface))
  (hF:∀k,k<n->rV (o k).kind (o k).init=ah->(∀j,j<k->rV (o j).kind (o j).init=ag)->φ (.qK 90 (.pt [.i .i64 k,.er 7 288]))) :
  ∀r k,k+r=n->(∀j,j<k->rV (o j).kind (o j).init=ag)->mY ai (C7 mM W7 zS mZ) (K0 H0 w0) 62 Cc (aaN n o e (k:Int)) [] emp φ
 |r,k,hkr,hE=>by
  refine uT cG QY ?_;refine pK Nw (XZ _) 300 400 [⟨62,Cc,aaN n o e (k+1:Nat),[]⟩,⟨62,agZ,agY n o e,[]⟩] ?_;rw[b49 mM W7 n o e k (k+1:Nat)];simp only[mW,nN,oZ,rP,zi,bm];refine ⟨fun h=>?_,fun h=>?_⟩
  ·have hlt:k<n:=by simp_all
   refine ⟨by simp;omega,hk k hlt,fun hb=>hF k hlt hb hE,fun hb=>⟨⟨rfl,rfl,?_,rfl,rfl,trivial⟩,_,rfl,?_⟩⟩
   ·grind [kN,pF]
   ·match r,hkr with
    |0,hkr=>omega |r+1,hkr=>
     refine aiJ hn hk hT hF r (k+1) (by omega) fun j hj=>?_
     grind
  ·have:k=n:=by grind
   subst this;refine ⟨⟨rfl,rfl,trivial⟩,_,rfl,?_⟩;refine uT cG amI ?_;refine pK Nw (XZ _) 300 400 [] ?_;rw[c49 mM W7 k o e];exact ⟨fun h=>by simp[mW] at h,fun _=>hT hE⟩
theorem O49:nD ai (nJ W7) 62 F49:=by
 refine zI (C7 mM W7 zS mZ) cG fun H w nY args φ hrep h=>?_
 have hn:cG.ntmps=78:=by kernel_rfl
 unfold F49 at h;split at h
 ·rename_i s0 s1
  split at h
  ·rename_i n g e hs0 hs1
   obtain ⟨h1,h2,hbig,hsm⟩:=h;have hbig:LW n=ah->φ (.er 6 288):=hbig;have hsm:LW n=ag->(FM n (mP g)=ah->φ (.v .nilIface))/\(FM n (mP g)=ag->φ (.qK 90 (.pt [.i .i64 (DR n (mP g)),.er 7 288]))):=hsm;match args,hrep with
   |[v],⟨hv,_⟩=>
    refine ⟨[.agg [.sl 2 n (mO (mP (α:=Oj) g)),.sl 8 0 e]],⟨EP hv (fun u hu=>pX (nZ hs0 hu) h1) (fun u hu=>nZ hs1 hu),trivial⟩,L0,?_⟩;generalize mP (α:=Oj) g=o at *;refine pK Nw (XZ _) 300 400 [⟨62,Cc,aaN n o e (0:Nat),[]⟩] ?_;rw[hn,a49 mM W7 n o e (0:Nat)];refine ⟨fun h=>hbig ?_,fun h=>⟨fun h=>?_,fun _=>⟨⟨rfl,rfl,rfl,rfl,rfl,trivial⟩,_,rfl,?_⟩⟩⟩
    ·grind [mW,ny,LW]
    ·simp[mW,ny] at h
    ·have hn8:n<=8:=by grind [mW,ny]
     obtain ⟨q1,q2⟩:=hsm (by simp[LW];omega);refine aiJ hn8 (xH h2) (fun hE=>q1 (aeD hE)) (fun k hk hb hE=>?_) n 0 (by omega) fun j hj=>by omega
     grind [amL,aeE]
  ·exact h.elim
 ·exact h.elim
end Go.Proofs
namespace Go.Pl
open Go Go.Sx Go.Proofs
theorem amN{a b:List UInt8}:lst (List UInt8) 2 (nM (chunks 1 (1+1) [bA a,bA b]))=[a,b]:=rfl
theorem amO{a:List UInt8}:lst (List UInt8) 1 (nM (chunks 1 1 [bA a]))=[a]:=rfl
theorem Dj{n:Int}(h:qJ n=ah):(oq n).length<=21:=by
 have h:=of_decide_eq_true h;exact Go.Lib.itoa_length_le n h.1 h.2
theorem aci{α:Type}[Row α](l:List α){k:Nat}(h:l.length=k):lst α k (mO (nth l))=l:=by grind [zA]
theorem Iz{α:Type}[Row α](l:List α)(a:α){r:List (List Sh)}(h:nM r 0=Row.put a):∀i,i<l.length+1->mM.snoc (mO (nth l)) l.length (nM r) i=mO (nth (l++[a])) i:=fun i hi=>by
 rw[rH];split
 ·simp_all [mO,nth,List.getD_eq_getElem?_getD]
 ·have:i=l.length:=by omega
  simp_all [dh,mO,nth]
end Go.Pl
namespace Go.Proofs
open Go Go.Sx Go.Pl
def F35:List Sh->Tree Sh
 |[.agg [.i .i64 x,.i .i64 y,s2,s3]]=>match qp 1 s2,qp 2 s3 with
  |some (a,h),ae (b,l)=>.need (okB Int a h) (.need (okB Pr b l) (.need (qJ x) (.need (qJ y) (.need (amM a (mP h)) (.need (aru b (mP l)) (.need (decide (a<=100000/\b<=100000)) (.leaf (.str (keyS ⟨x,y,lst Int a h,lst Pr b l⟩))))))))) |_,_=>.fail
 |_=>.fail
theorem TK(l:List (List UInt8))(sep:List UInt8){m:Nat}(h:∀x∈l,x.length<=m):(rJ l sep).length<=l.length*(m+sep.length):=by
 induction l with
 |nil=>simp[rJ,Go.Lib.join_nil] |cons x r ih=>
  have h1:=h x (by simp);have h2:(eA sep r).length<=r.length*(m+sep.length):=by
   clear ih;induction r with
   |nil=>simp[eA] |cons y r ih2=>
    have h3:=ih2 fun z hz=>h z (by
     grind)
    have h4:=h y (by simp);simp only[eA,List.map_cons,List.flatten_cons,aY,cJ,gP,gF] at h3 ⊢;omega
  unfold rJ;rw[Go.Lib.join_cons,aY,cJ,gP,gF];omega
theorem Gq{l:List (List UInt8)}(hl:l.length<=200000)(h:∀x∈l,x.length<=50):zJ (rJ l [32])=ah:=by
 have:=TK l [32] h;have h2:l.length*(50+[(32:UInt8)].length)<=200000*51:=ba _ hl;exact decide_eq_true (by omega)
theorem room_le{n b:Nat}(h:n<=1000000)(hb:b<=1000):pq n b=ah:=by
 show decide (n*b<=140737488355328/\n<=maxLen)=ah;rw[maxLen_eq];have:n*b<=1000000*1000:=Nat.mul_le_mul h hb;grind
theorem X0(k:Int):(uM k).length<=50:=by
 unfold uM;repeat' split
 all_goals decide
theorem aeF{H0:Mem}{w0:World}{q:List Int}{W:List UInt8}{φ:Sh->Prop}(hq:q.length<=100000)(h64:∀x∈q,qJ x=ah)(hW:W.length<=50)(hφ:φ (.str (rJ (W::q.map oq) [32]))):
  ∀r k,k+r=q.length->mY ai (C7 mM W7 zS mZ) (K0 H0 w0) 75 TI (TF q.length (nth q) (k:Int) (k+1) (mO (nth (W::(q.take k).map oq)))) [] emp φ
 |r,k,hkr=>by
  refine uT gw amJ ?_;refine KF (XZ _) 300 400 [⟨75,TI,TF q.length (nth q) (k+1:Nat) (k+1+1) (mO (nth (W::(q.take (k+1)).map oq))),[]⟩] ?_;rw[auT mM W7 q.length (nth q) k (k+1:Nat) (k+1) (k+1+1) (mO (nth (W::(q.take k).map oq))) (mO (nth (W::(q.take (k+1)).map oq)))];have hlen:(W::(q.take k).map oq).length=k+1:=by simp;omega
  simp only[mW,nN,oZ,rP,zi,bm,XV];refine ⟨fun h=>?_,fun h=>?_⟩
  ·have hlt:k<q.length:=by simp_all
   have hx:nth q k=q[k]:=by simp[nth,hlt]
   refine ⟨by simp;omega,by simp_all,room_le (by omega) (by omega),⟨rfl,rfl,?_,rfl,?_,trivial⟩,_,rfl,?_⟩
   ·grind [kN,pF]
   ·have e:W::(q.take (k+1)).map oq=(W::(q.take k).map oq)++[oq (nth q k)]:=by
     grind [fC]
    have:=Iz (W::(q.take k).map oq) (oq (nth q k)) (r:=[[.str (oq (nth q k))]]) rfl;rw[hlen] at this;rw[e];exact this
   ·match r,hkr with
    |0,hkr=>omega |r+1,hkr=>exact aeF hq h64 hW hφ r (k+1) (by omega)
  ·have hk:k=q.length:=by simp_all
   subst hk;rw[jJ] at hlen ⊢;rw[aci _ hlen];refine ⟨o9 _ _,room_le (by omega) (by omega),Gq (by simp;omega) fun x hx=>?_,hφ⟩;grind [Dj]
theorem aaO{p:Pr}(h1:qJ p.key=ah)(h2:qJ p.val=ah):(oq p.key++[58]++oq p.val).length<=50:=by
 grind [Dj]
theorem aeG{H0:Mem}{w0:World}{q:List Pr}{W:List UInt8}{φ:Sh->Prop}(hq:q.length<=100000)(h64:∀x∈q,qJ x.key=ah/\qJ x.val=ah)(hW:W.length<=50)(hφ:φ (.str (rJ (W::q.map (fun p=>oq p.key++[58]++oq p.val)) [32]))):
  ∀r k,k+r=q.length->mY ai (C7 mM W7 zS mZ) (K0 H0 w0) 75 TJ (TG q.length (nth q) (k:Int) (k+1) (mO (nth (W::(q.take k).map (fun p=>oq p.key++[58]++oq p.val))))) [] emp φ
 |r,k,hkr=>by
  refine uT gw amK ?_;refine KF (XZ _) 300 400 [⟨75,TJ,TG q.length (nth q) (k+1:Nat) (k+1+1) (mO (nth (W::(q.take (k+1)).map (fun p=>oq p.key++[58]++oq p.val)))),[]⟩] ?_;rw[auU mM W7 q.length (nth q) k (k+1:Nat) (k+1) (k+1+1) (mO (nth (W::(q.take k).map (fun p=>oq p.key++[58]++oq p.val)))) (mO (nth (W::(q.take (k+1)).map (fun p=>oq p.key++[58]++oq p.val))))];have hlen:(W::(q.take k).map (fun p=>oq p.key++[58]++oq p.val)).length=k+1:=by simp;omega
  simp only[mW,nN,oZ,rP,zi,bm,XV];refine ⟨fun h=>?_,fun h=>?_⟩
  ·have hlt:k<q.length:=by simp_all
   have hx:nth q k=q[k]:=by simp[nth,hlt]
   obtain ⟨p1,p2⟩:=h64 _ (List.getElem_mem hlt);rw[<-hx] at p1 p2;have l1:=Dj p1;have l2:=Dj p2;refine ⟨by simp;omega,p1,?_,p2,?_,room_le (by omega) (by omega),⟨rfl,rfl,?_,rfl,?_,trivial⟩,_,rfl,?_⟩
   ·show decide ((oq (nth q k).key).length+1<=9223372036854775807)=ah
    grind
   ·show decide ((oq (nth q k).key++[58]).length+(oq (nth q k).val).length<=9223372036854775807)=ah
    grind
   ·grind [kN,pF]
   ·have e:W::(q.take (k+1)).map (fun p=>oq p.key++[58]++oq p.val)=(W::(q.take k).map (fun p=>oq p.key++[58]++oq p.val))++[oq (nth q k).key++[58]++oq (nth q k).val]:=by
     grind [fC]
    have:=Iz (W::(q.take k).map (fun p=>oq p.key++[58]++oq p.val)) (oq (nth q k).key++[58]++oq (nth q k).val) (r:=[[.str (oq (nth q k).key++[58]++oq (nth q k).val)]]) rfl;rw[hlen] at this;rw[e];exact this
   ·match r,hkr with
    |0,hkr=>omega |r+1,hkr=>exact aeG hq h64 hW hφ r (k+1) (by omega)
  ·have hk:k=q.length:=by simp_all
   subst hk;rw[jJ] at hlen ⊢;rw[aci _ hlen];refine ⟨o9 _ _,room_le (by omega) (by omega),Gq (by simp;omega) fun x hx=>?_,hφ⟩;grind [aaO]
theorem aeH{α:Type}[Row α]{n:Nat}{g:Nat->List Sh}{x:α}(h:x∈lst α n g):∃j,j<n/\x=mP g j:=by
 obtain ⟨j,hj,rfl⟩:=bK.1 h;grind
theorem yX{α:Type}[Row α]{H:Mem}{st n:Nat}{g:Nat->List Sh}{v:Value}(h:Rep H (.sl st n g) v)(hg:okB α n g=ah):Rep H (.sl st (lst α n g).length (mO (nth (lst α n g)))) v:=by
 grind [uV,qN,zh,mO,QW]
theorem O35:nD ai (nJ W7) 75 F35:=by
 refine zI (C7 mM W7 zS mZ) gw fun H w nY args φ hrep h=>?_
 have hn:gw.ntmps=61:=by kernel_rfl
 unfold F35 at h;split at h
 ·rename_i x y s2 s3
  split at h
  ·rename_i a hh b l hs2 hs3
   obtain ⟨h1,h2,h3,h4,h5,h6,h7,hφ⟩:=h;have h7:=of_decide_eq_true h7;match args,hrep with
   |[v],⟨hv,_⟩=>
    have l1:(lst Int a hh).length=a:=uV _ _;have l2:(lst Pr b l).length=b:=uV _ _;have m1:∀z∈lst Int a hh,qJ z=ah:=fun z hz=>by
     obtain ⟨j,hj,rfl⟩:=aeH hz;exact xH h5 j hj
    have m2:∀z∈lst Pr b l,qJ z.key=ah/\qJ z.val=ah:=fun z hz=>by
     obtain ⟨j,hj,rfl⟩:=aeH hz;simpa using xH h6 j hj
    refine ⟨[.agg [.i .i64 x,.i .i64 y,.sl 1 (lst Int a hh).length (mO (nth (lst Int a hh))),.sl 2 (lst Pr b l).length (mO (nth (lst Pr b l)))]],⟨yh hv (fun u hu=>yX (nZ hs2 hu) h1) (fun u hu=>yX (nZ hs3 hu) h2),trivial⟩,L0,?_⟩;generalize lst Int a hh=q at *;generalize lst Pr b l=ps at *;have hφ:φ (.str (rJ (Bz ⟨x,y,q,ps⟩) [32])):=hφ;refine KF (XZ _) 300 400 [⟨75,TI,TF q.length (nth q) (0:Nat) 1 (mO (nth [uM x])),[]⟩,⟨75,TJ,TG ps.length (nth ps) (0:Nat) 1 (mO (nth [uM x])),[]⟩] ?_;rw[hn,a35 mM W7 x y q.length ps.length (nth q) (nth ps) (0:Nat) 1 (mO (nth [uM x])),amN,amO];have hw:=X0 x;have hy:=Dj h4;have two:zJ (rJ [uM x,oq y] [32])=ah:=Gq (by simp) fun z hz=>by
     grind
    refine ⟨rfl,h3,fun e=>⟨h4,rfl,room_le (by omega) (by omega),two,?_⟩,fun e1=>⟨fun e=>⟨h4,rfl,room_le (by omega) (by omega),two,?_⟩,fun e2=>⟨fun e=>⟨⟨rfl,rfl,rfl,rfl,fun j hj=>?_,trivial⟩,_,rfl,?_⟩,fun e3=>⟨fun e=>⟨⟨rfl,rfl,rfl,rfl,fun j hj=>?_,trivial⟩,_,rfl,?_⟩,fun e4=>⟨rfl,room_le (by omega) (by omega),Gq (by simp) fun z hz=>?_,?_⟩⟩⟩⟩⟩
    ·have e:x=1:=by grind [nG]
     subst e;exact hφ
    ·have e:x=2:=by grind [nG]
     subst e;exact hφ
    ·obtain rfl:j=0:=by omega
     rfl
    ·have e:x=3:=by grind [nG]
     subst e;exact aeF (by omega) m1 hw hφ q.length 0 (by omega)
    ·obtain rfl:j=0:=by omega
     rfl
    ·have e:x=4:=by grind [nG]
     subst e;exact aeG (by omega) m2 hw hφ ps.length 0 (by omega)
    ·simp_all
    ·have e1:¬x=1:=by grind [nG]
     have e2:¬x=2:=by grind [nG]
     have e3:¬x=3:=by grind [nG]
     have e4:¬x=4:=by grind [nG]
     have e:Bz ⟨x,y,q,ps⟩=[uM x]:=by simp_all [Bz]
     rw[e] at hφ;exact hφ
  ·exact h.elim
 ·exact h.elim
end Go.Proofs
namespace Go.Sx
open Go.RowKit Go.Lib
section
variable{P:Program}
theorem JB(w:World)(dT sT ty elem:TypeId)(sz g o dLen dCap:Nat)(a:Addr)(sLen sCap:Nat)(cur:Array Value)(t:TypeId)(cs:List Value)
  (hu:P.underlying dT=ae (.slice elem)) (hs:(P.info? elem).map (·.size)=ae sz)
  (hg:w.heap[g]?=ae (.cells cur t (0,0))) (hn:cs.length=gx sLen dLen*sz)
  (hsrc:∀j v,cs[j]?=ae v->w.cell? (a.add j)=ae v) (hfit:o+cs.length<=cur.size) (h1:∀v∈cs,v.oneCell'=ah) :
  (c9 #[dT,sT] ty #[.slice (ae ⟨g,o,ao⟩) dLen dCap,.slice (ae a) sLen sCap]).run P w =
   .ok (goInt (gx sLen dLen)) (w.setRow g (cur.toList.take o++cs++cur.toList.drop (o+cs.length)).toArray):=by
 have hl:=run_loadCells_list (P:=P) w a cs hsrc;have hst:=run_storeCells_at P g o t cs 0 cur w hg (by omega) h1;cases hq:P.info? elem with
 |none=>grind |some i=>
  simp_all [c9,run_underlying,Builtin.lenOf,cQ,sizeOf,typeInfo]
end
end Go.Sx
namespace Go.Proofs
open Go Go.Sx Go.RowKit Go.Lib
theorem info116:∃(i:TypeInfo) (z:Value),ai.info? 212=ae i/\i.size=2/\i.bytes=16/\i.zero=ae z/\z.cells.size=2/\∃cs,z=.agg cs:=by
 obtain ⟨inf,z,h1,h2,h3,h4,_,h6,h7,_⟩:=((C7.ok noSpec oN).ty 212 ⟨.struct [(0,1,ag),(1,1,ag)],2,16,[.int .i64 0,.int .i64 0]⟩ (by kernel_rfl)).info;simp_all
set_option maxHeartbeats 4000000 in
set_option maxRecDepth 100000 in
theorem ag0(w:World)(g n c i vb vc:Nat)(cur:Array Value)(cs vs:List Value)(hg:w.heap[g]?=ae (.cells cur 212 (0,0)))(J9:Array Value)(hgb:w.heap[vb]?=ae (.cells J9 212 (0,0)))
  (hi:i<n) (hroom:n+1<=c) (hc63:c<=9223372036854775807) (hvb:vb≠g) (hcap:cur.size=c*2) (hcs:cur.toList.take (n*2)=cs) (hvs:J9.toList.take 2=vs) (hvl:vs.length=2) (hv2:2<=J9.size)
  (h1c:∀v∈cs,v.oneCell'=ah) (h1v:∀v∈vs,v.oneCell'=ah) :
  Calls ai 149 #[.slice (ae ⟨g,0,ao⟩) n c,.int .i64 i,.slice (ae ⟨vb,0,ao⟩) 1 vc] w fun e w'=>
   e=.returned (.slice (ae ⟨g,0,ao⟩) (n+1) c)/\∃cur',w'.heap[g]?=ae (.cells cur' 212 (0,0))/\cur'.size=c*2/\cur'.toList.take ((n+1)*2)=cs.take (i*2)++vs++cs.drop (i*2)/\w.grownBy w' (ae g):=by
 obtain ⟨inf,z,i1,i2,i3,i4,i5,_⟩:=info116;have hsz:(ai.info? 212).map (·.size)=ae 2:=by rfl
 have hse:∀w,(Go.sizeOf 212).run ai w=.ok 2 w:=fun w=>by rfl
 have hov:∀lb cb,(callFunc 173 #[.slice (ae ⟨vb,0,ao⟩) 1 vc,.slice (ae ⟨g,(i+1)*2,ao⟩) lb cb]).run ai w=.ok (.value (.bool ag)) w:=fun lb cb=>by
  rw[run_callFunc_extern Tryz.func173 (by kernel_rfl) (by kernel_rfl) (by kernel_rfl) (e:=iH #[160,160] #[4]) (by kernel_rfl),
   Lib.run_overlaps_apart w 160 4 212 cx 2 hse ⟨vb,0,ao⟩ ⟨g,(i+1)*2,ao⟩ 1 vc lb cb hvb 212 212 J9.size cur.size (by simp[kO,hgb]) (by simp[kO,hg]) (by omega) (by simp[ks,hgb]) (by simp[ks,hgb])]
  rfl
 have hw1:az.wrap ((i:Int)+1)=(i:Int)+1:=by rw[cN];omega
 have hw2:az.wrap ((n:Int)+1)=(n:Int)+1:=by rw[cN];omega
 have hcl:cs.length=n*2:=by grind
 have hdl:(cs.drop (i*2)).length=(n - i)*2:=by grind
 obtain ⟨R1,hR1⟩:∃R1,R1=(cur.toList.take ((i+1)*2)++cs.drop (i*2)++cur.toList.drop ((i+1)*2+(cs.drop (i*2)).length)).toArray:=⟨_,rfl⟩;have auW:R1.size=c*2:=by grind
 obtain ⟨R2,hR2⟩:∃R2,R2=(R1.toList.take (i*2)++vs++R1.toList.drop (i*2+vs.length)).toArray:=⟨_,rfl⟩;have hcur:∀j v,cs[j]?=ae v->cur.toList[j]?=ae v:=fun j v hj=>by
  rw[<-hcs,bU] at hj;split at hj
  ·exact hj
  ·cases hj
 have hcp1:∀(W:World),W.heap[g]?=ae (.cells cur 212 (0,0))->∀ty dc sc,(c9 #[160,160] ty #[.slice (ae ⟨g,(i+1)*2,ao⟩) (n - i) dc,.slice (ae ⟨g,i*2,ao⟩) (n+1 - i) sc]).run ai W=.ok (goInt ((n - i:Nat):Int)) (W.setRow g R1):=fun W hW ty dc sc=>by
  have hmin:gx (n+1 - i) (n - i)=n - i:=by grind
  have:=JB W 160 160 ty 212 2 g ((i+1)*2) (n - i) dc ⟨g,i*2,ao⟩ (n+1 - i) sc cur 212 (cs.drop (i*2)) cx hsz hW (by omega) (fun j v hj=>by
    grind [bx,cell_of_row]) (by omega) (fun v hv=>h1c v (dw hv))
  simp_all
 have hcp2:∀(W:World),W.heap[g]?=ae (.cells R1 212 (0,0))->W.heap[vb]?=ae (.cells J9 212 (0,0))->∀ty dc,(c9 #[160,160] ty #[.slice (ae ⟨g,i*2,ao⟩) (n+1 - i) dc,.slice (ae ⟨vb,0,ao⟩) 1 vc]).run ai W=.ok (goInt 1) (W.setRow g R2):=fun W hW hW2 ty dc=>by
  have hmin:gx 1 (n+1 - i)=1:=by grind
  have:=JB W 160 160 ty 212 2 g (i*2) (n+1 - i) dc ⟨vb,0,ao⟩ 1 vc R1 212 vs cx hsz hW (by omega) (fun j v hj=>by
    grind [bx,cell_of_row]) (by omega) h1v
  simp_all
 have hfin:R2.size=c*2/\R2.toList.take ((n+1)*2)=cs.take (i*2)++vs++cs.drop (i*2):=by
  have hl1:R1.toList.length=c*2:=by omega
  refine ⟨by grind,?_⟩;have ht1:R1.toList.take (i*2)=cs.take (i*2):=by
   grind
  have hd1:R1.toList.drop (i*2+2)=cs.drop (i*2)++cur.toList.drop ((n+1)*2):=by
   rw[hR1];have e1:(cur.toList.take ((i+1)*2)).length=i*2+2:=by grind
   simp only[cA];have e3:List.drop (i*2+2) (cur.toList.take ((i+1)*2)++(cs.drop (i*2)++cur.toList.drop ((i+1)*2+(cs.drop (i*2)).length)))=cs.drop (i*2)++cur.toList.drop ((i+1)*2+(cs.drop (i*2)).length):=by
    simp_all
   rw[e3,hdl];congr 2;omega
  rw[hR2,hvl,hd1,ht1];simp only[<-cA];have e2:(cs.take (i*2)++vs++cs.drop (i*2)).length=(n+1)*2:=by
   grind
  grind
 have hgl:g<w.heap.size:=(aI.1 hg).1;have mixed:ai.follows .mixedOrders=ah:=Tryz.mixed_;have hb1:(0:Int)<=(i:Int)+1:=by omega
 have hin:i<=n:=by omega
 have htn:((i:Int)+1).toNat=i+1:=by omega
 have hb2:¬(c=i+1):=by omega
 have hb3:(i:Int)<=(n:Int)+1:=by omega
 have hb4:¬(c=i):=by omega
 clear hcs hvs h1c h1v hcur hR1 hR2;have hc2:=hcp2 (w.drew.setRow g R1) (setRow_heap w.drew g cur R1 212 (0,0) hg) (by rw[setRow_other _ _ _ _ hvb];exact hgb) 3 (c - i);go_enter ew,ff
 go_wp2_with (simp only[hov])
 go_region_law_o (refine step_copy_runI rfl (.tmp 73) (.tmp 76) 160 160 rfl (.slice (ae ⟨g,(i+1)*2,ao⟩) (n - i) (c - (i+1))) (.slice (ae ⟨g,i*2,ao⟩) (n+1 - i) (c - i)) (by simp[iI,jK]) (by simp[iI,jK]) (hcp1 w.drew hg 3 (c - (i+1)) (c - i)) ?_)
 go_wp2
 go_ret
 refine ⟨rfl,R2,setRow_heap _ g R1 R2 212 (0,0) (setRow_heap w.drew g cur R1 212 (0,0) hg),hfin.1,hfin.2,⟨rfl,rfl,rfl,by simp,fun k hk hne=>?_⟩⟩;have hkg:k≠g:=fun e=>hne (by rw[e]);rw[setRow_other _ _ _ _ hkg,setRow_other _ _ _ _ hkg];rfl
set_option maxHeartbeats 4000000 in
set_option maxRecDepth 100000 in
theorem amP(w:World)(v x:Value)(n vc:Nat)(xs news:List Value)(vb:Nat)(hv:w.ownsRow 0 212 2 v n xs)(hx:x=.slice (ae ⟨vb,0,ao⟩) 1 vc)(hnews:∀j u,news[j]?=ae u->w.cell? ((⟨vb,0,ao⟩:Addr).add j)=ae u)(hl:news.length=2)(h1:∀u∈news,u.oneCell'=ah)
  (h63:n+1<=maxLen) (hbytes:(n+1)*16<=140737488355328) :
  Calls ai 149 #[v,.int .i64 n,x] w fun e w'=>∃v',e=.returned v'/\w'.ownsRow 0 212 2 v' (n+1) (xs++news)/\w.grownBy w' (nH v)/\∀b,nH v'=ae b->nH v=ae b\/w.heap.size<=b:=by
 obtain ⟨inf,z,i1,i2,i3,i4,i5,_⟩:=info116;obtain ⟨v',w',hr,h2,h3,h4⟩:=KW (P:=ai) (w:=w) 160 160 212 inf z 2 16 cx i1 i4 i2 i3 i5 (by decide) v n xs hv ⟨vb,0,ao⟩ 1 vc news (by rw[hl]) hnews h1 h63 hbytes;subst hx;have hsmall:n+1<=9223372036854775807:=by omega
 have auY:v=.slice ao 0 0/\n=0\/∃g c,v=.slice (ae ⟨g,0,ao⟩) n c/\n<=c/\c<=9223372036854775807:=by
  (rcases hv.2 with ⟨e1,e2⟩ |⟨g,c,cur,e1,_,_,e2,e3,_⟩)<;>grind [maxLen]
 clear hv hnews h1;rcases auY with ⟨rfl,rfl⟩ |⟨g,c,rfl,hnc,hc63⟩
 ·go_enter ew,ff
  go_wp2_with (at_builtin;refine eJ _ rfl _ _ _ _ rfl _ _ rfl rfl _ _ hr ?_)
  go_ret
  simp_all
 ·go_enter ew,ff
  go_wp2_with (at_builtin;refine eJ _ rfl _ _ _ _ rfl _ _ rfl rfl _ _ hr ?_)
  all_goals
   go_ret
   simp_all
set_option maxHeartbeats 4000000 in
set_option maxRecDepth 100000 in
theorem akh(w:World)(g n c i vb vc:Nat)(cur:Array Value)(cs vs:List Value)(hg:w.heap[g]?=ae (.cells cur 212 (0,0)))(J9:Array Value)(hgb:w.heap[vb]?=ae (.cells J9 212 (0,0)))
  (hi:i<n) (hnc:n<=c) (hroom:c<n+1) (hn63:n+1<=maxLen) (hbig:(n+1)*16<=140737488355328) (hcap:cur.size=c*2) (hcs:cur.toList.take (n*2)=cs) (hvs:J9.toList.take 2=vs) (hvl:vs.length=2)
  (h1c:∀v∈cs,v.oneCell'=ah) (h1v:∀v∈vs,v.oneCell'=ah) :
  Calls ai 149 #[.slice (ae ⟨g,0,ao⟩) n c,.int .i64 i,.slice (ae ⟨vb,0,ao⟩) 1 vc] w fun e w'=>
   ∃G cur',e=.returned (.slice (ae ⟨w.heap.size,0,ao⟩) (n+1) G)/\w'.heap[w.heap.size]?=ae (.cells cur' 212 (0,0))/\n+1<=G/\G<=maxLen/\cur'.size=G*2/\cur'.toList.take ((n+1)*2)=cs.take (i*2)++vs++cs.drop (i*2)/\w.grownBy w' (ae g):=by
 obtain ⟨inf,z,i1,i2,i3,i4,i5,zs,hz⟩:=info116;have hsz:(ai.info? 212).map (·.size)=ae 2:=by rfl
 have hse:∀w,(Go.sizeOf 212).run ai w=.ok 2 w:=fun w=>by rfl
 have hsmall:n+1<=9223372036854775807:=by omega
 have hw1:az.wrap ((i:Int)+1)=(i:Int)+1:=by rw[cN];omega
 have hw2:az.wrap ((n:Int)+1)=(n:Int)+1:=by rw[cN];omega
 have hw3:az.wrap ((n:Int)+1 - (i:Int))=(n:Int)+1 - (i:Int):=by rw[cN];omega
 have hcl:cs.length=n*2:=by grind
 have hdl:(cs.drop (i*2)).length=(n - i)*2:=by grind
 have htl:(cs.take (i*2)).length=i*2:=by grind
 have hcur:∀j v,cs[j]?=ae v->cur.toList[j]?=ae v:=fun j v hj=>by
  rw[<-hcs,bU] at hj;split at hj
  ·exact hj
  ·cases hj
 have hgl:g<w.heap.size:=(aI.1 hg).1;have ayy:vb<w.heap.size:=(aI.1 hgb).1;have hold:(cQ inf.size i (.slice (ae ⟨g,0,ao⟩) i c)).run ai w.drew=.ok (cs.take (i*2)).toArray w.drew:=by
  rw[i2];exact run_firstCells_some w.drew 2 i ⟨g,0,ao⟩ i c (cs.take (i*2)) htl (fun j v hj=>by
   rw[bx,cell_of_row w.drew g _ cur 212 (0,0) hg];grind)
 obtain ⟨G,hG⟩:∃G,G=grownCap w (n+1) c 212:=⟨_,rfl⟩;obtain ⟨ROW,hROW⟩:∃ROW:Array Value,ROW=(cs.take (i*2)).toArray++cV z.cells (n+1 - i)++cV z.cells (G - (n+1)):=⟨_,rfl⟩;have hGn:n+1<=G:=by simp_all [grownCap_ge]
 have hGm:G<=maxLen:=by simp_all [grownCap_le_maxLen]
 have hG63:G<=9223372036854775807:=by assumption
 have hrz:∀ty,(Builtin.append_ #[160,3] ty #[.slice (ae ⟨g,0,ao⟩) i c,.int .i64 ((n:Int)+1 - (i:Int))]).run ai w =
   .ok (.slice (ae ⟨w.heap.size,0,ao⟩) (n+1) G) (w.drew.alloc (.cells ROW 212)):=fun ty=>by
  have h:=Lib.run_append_grow_zeros w 160 3 ty 212 inf z .i64 .i64 cx fP i1 i4 (ae ⟨g,0,ao⟩) i c (cs.take (i*2)) hold (n+1 - i) (by omega) (by omega) (by omega) (by omega) (by grind) (by rw[i3,show i+(n+1 - i)=n+1 by omega];simp_all [growslice_fits]);grind
 have hRs:ROW.size=G*2:=by
  grind [Array.size_append,List.size_toArray,size_zeroCells]
 obtain ⟨R1,hR1⟩:∃R1,R1=(ROW.toList.take (i*2)++vs++ROW.toList.drop (i*2+vs.length)).toArray:=⟨_,rfl⟩;have auW:R1.size=G*2:=by grind
 obtain ⟨R2,hR2⟩:∃R2,R2=(R1.toList.take ((i+1)*2)++cs.drop (i*2)++R1.toList.drop ((i+1)*2+(cs.drop (i*2)).length)).toArray:=⟨_,rfl⟩;obtain ⟨W1,hW1⟩:∃W1,W1=w.drew.alloc (.cells ROW 212):=⟨_,rfl⟩;rw[<-hW1] at hrz;have arv:W1.heap[w.heap.size]?=ae (.cells ROW 212 (0,0)):=by rw[hW1];exact heap_alloc_new w.drew _
 have ayz:∀k,k<w.heap.size->W1.heap[k]?=w.heap[k]?:=fun k hk=>by rw[hW1];first|exact Go.heap_alloc_old w.drew _ k hk|exact heap_alloc_old w.drew _ hk
 have hcp1:(c9 #[160,160] 3 #[.slice (ae ⟨w.heap.size,i*2,ao⟩) (n+1 - i) (G - i),.slice (ae ⟨vb,0,ao⟩) 1 vc]).run ai W1=.ok (goInt 1) (W1.setRow w.heap.size R1):=by
  have hmin:gx 1 (n+1 - i)=1:=by grind
  have:=JB W1 160 160 3 212 2 w.heap.size (i*2) (n+1 - i) (G - i) ⟨vb,0,ao⟩ 1 vc ROW 212 vs cx hsz arv (by omega) (fun j v hj=>by
    grind [bx,cell_of_row]) (by omega) h1v
  simp_all
 have arw:(W1.setRow w.heap.size R1).drew.heap[w.heap.size]?=ae (.cells R1 212 (0,0)):=setRow_heap W1 w.heap.size ROW R1 212 (0,0) arv;have hcp2:(c9 #[160,160] 3 #[.slice (ae ⟨w.heap.size,(i+1)*2,ao⟩) (n - i) (G - (i+1)),.slice (ae ⟨g,i*2,ao⟩) (n - i) (c - i)]).run ai (W1.setRow w.heap.size R1).drew=.ok (goInt ((n - i:Nat):Int)) ((W1.setRow w.heap.size R1).drew.setRow w.heap.size R2):=by
  have hmin:gx (n - i) (n - i)=n - i:=Nat.min_self _;have:=JB (W1.setRow w.heap.size R1).drew 160 160 3 212 2 w.heap.size ((i+1)*2) (n - i) (G - (i+1)) ⟨g,i*2,ao⟩ (n - i) (c - i) R1 212 (cs.drop (i*2)) cx hsz arw (by omega) (fun j v hj=>by
    rw[bx,cell_of_row (W1.setRow w.heap.size R1).drew g _ cur 212 (0,0) (by
     show (W1.setRow w.heap.size R1).heap[g]?=_;grind [setRow_other])]
    simp_all) (by omega) (fun v hv=>h1c v (dw hv))
  simp_all
 have hfin:R2.size=G*2/\R2.toList.take ((n+1)*2)=cs.take (i*2)++vs++cs.drop (i*2):=by
  have hl1:R1.toList.length=G*2:=by omega
  refine ⟨by grind,?_⟩;grind [Array.toList_append,cA,List.take_left',aY,List.take_left]
 have mixed:ai.follows .mixedOrders=ah:=Tryz.mixed_;have hb1:(0:Int)<=(i:Int)+1:=by omega
 have hin:i<=n:=by omega
 have htn:((i:Int)+1).toNat=i+1:=by omega
 have hb2:¬(c=i+1)\/c=i+1:=by omega
 have hb3:(i:Int)<=(n:Int)+1:=by omega
 have hb4:¬(c=i):=by omega
 have hGi:¬(G=i):=by omega
 have hGim:¬(G=i+1):=by omega
 have hz1:¬((i:Int)=(n:Int)):=by omega
 have hz3:(c:Int)<(n:Int)+1:=by omega
 have hr1:=hrz 160;have hsz1:W1.heap.size=w.heap.size+1:=by rw[hW1];simp
 have hos:W1.os=w.os/\W1.tape=w.tape/\W1.output=w.output:=by rw[hW1];exact ⟨rfl,rfl,rfl⟩
 clear hcs hvs h1c h1v hcur hR1 hR2 hROW hG hold hrz hb2 hW1;go_enter ew,ff
 go_wp2_with (first
  |(at_builtin;refine eJ _ rfl _ _ _ _ rfl _ _ rfl rfl _ _ hr1 ?_))
 go_region_law_o (refine step_copy_runI rfl (.tmp 50) (.tmp 53) 160 160 rfl (.slice (ae ⟨w.heap.size,(i+1)*2,ao⟩) (n - i) (G - (i+1))) (.slice (ae ⟨g,i*2,ao⟩) (n - i) (c - i)) (by simp[iI,jK]) (by simp[iI,jK]) hcp2 ?_)
 go_wp2
 go_ret
 refine ⟨G,R2,rfl,setRow_heap _ w.heap.size R1 R2 212 (0,0) arw,hGn,hGm,hfin.1,hfin.2,⟨hos.1,hos.2.1,hos.2.2,?_,fun k hk hne=>?_⟩⟩
 ·simp_all
 ·have hkg:k≠w.heap.size:=by omega
  rw[setRow_other _ _ _ _ hkg];show (W1.setRow w.heap.size R1).heap[k]?=_;simp_all [setRow_other]
theorem ap6:agE ai 149 212 2 16:=by
 intro w v x n i xs news hv hx hne h1 h1n hi h63 hbytes;have hl:news.length=2:=by rw[hx.1]
 rcases hx.2 with ⟨_,h0⟩ |⟨vb,vc,J9,ex,_,hgb,hvc,hvm,hvs,hvt⟩
 ·omega
 have hb2:nH x=ae vb:=by rw[ex];rfl
 have hcell:∀j u,news[j]?=ae u->w.cell? ((⟨vb,0,ao⟩:Addr).add j)=ae u:=fun j u hj=>by
  grind [bx,cell_of_row]
 by_cases hin:i=n
 ·subst hin
  refine (amP w v x i vc xs news vb hv ex hcell hl h1n h63 hbytes).mono fun e w' ⟨v',e1,e2,e3,e4⟩=>⟨v',e1,?_,e3,e4⟩;rw[List.take_of_length_le (by rw[hv.1];omega),List.drop_of_length_le (by rw[hv.1];omega),List.append_nil];exact e2
 rcases hv.2 with ⟨_,h0⟩ |⟨g,c,cur,ev,_,hg,hnc,hcm,hcs,hct⟩
 ·omega
 have hb:nH v=ae g:=by rw[ev];rfl
 have hvg:vb≠g:=fun e=>hne g hb (by rw[hb2,e]);have hlen:(xs.take (i*2)++news++xs.drop (i*2)).length=(n+1)*2:=by
  grind
 have arx:J9.toList.take 2=news:=by omega
 by_cases hroom:n+1<=c
 ·rw[hb,ev,ex]
  refine (ag0 w g n c i vb vc cur xs news hg J9 hgb (by omega) hroom (by assumption) hvg hcs hct arx hl (by omega) h1 h1n).mono fun e w' ⟨e1,cur',e2,e3,e4,e5⟩=>⟨_,e1,⟨hlen,.inr ⟨g,c,cur',rfl,cM _,e2,hroom,hcm,e3,e4⟩⟩,e5,fun b hb'=>.inl hb'⟩
 ·rw[hb,ev,ex]
  refine (akh w g n c i vb vc cur xs news hg J9 hgb (by omega) hnc (by omega) h63 hbytes hcs hct arx hl h1 h1n).mono fun e w' ⟨G,cur',e1,e2,e3,e4,e5,e6,e7⟩=>⟨_,e1,⟨hlen,.inr ⟨w.heap.size,G,cur',rfl,cM _,e2,e3,e4,e5,e6⟩⟩,e7,fun b hb'=>.inr (by simp_all [nH])⟩
end Go.Proofs
