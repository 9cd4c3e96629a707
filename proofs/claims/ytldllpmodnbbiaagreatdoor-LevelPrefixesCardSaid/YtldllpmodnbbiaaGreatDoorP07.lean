/- Own work. -/
import Derived.Test.YtldllpmodnbbiaaGreatDoorP06
import Derived.Test.YtldllpmodnbbiaaGreatDoorProg
import Derived.Shelf.Strings.Builder1
import Derived.Shelf.Strings.Builder2
import Derived.Shelf.Strings.OnBuilder
import Derived.Shelf.Strconv.Itoa0
import Derived.Shelf.Strconv.Itoa1
import Derived.Shelf.LaysM
import Derived.Shelf.Strconv.Itoa2
import Derived.Shelf.Strconv.Itoa3
import Derived.Ground.Names2Prog
import Derived.Lib.ItoaLen
open Int (ofNat)
open Array renaming getElem?_eq_some_iff->bC
open Bool renaming false->aA,true->ay,and_eq_true->aB
open Classical renaming propDecidable->aI
open Go.Instr renaming checkKey->iq
open Go.IntKind renaming i64->bD
open Go.Lib renaming TabIs->wC,pow10Tab->qj,joinTail->kQ
open Go.Proofs.Lays renaming n156->yG
open Go.Proofs.LaysM renaming n171->xC
open Go.Proofs.Tryz renaming f75->iG,f92->qx,f94->qh,f102->uK,f103->uM,f105->mZ,f119->uN,f131->uO,f132->uP,f136->uQ,f138->uS,prog->ak,func106->xR,func135->xU,func133->xW,func134->xX,func153->xY,func155->xZ,func154->x9,func174->yc,func198->yg,func191->yh,func197->yj,func204->yt,func200->yu,func199->yw,func203->yx,func202->yA,func206->yB,func205->yC,func209->yE,func208->yF,underlying0->uV,isAgg0->zk,sizeOf0->yH,zeroValue0->vZ,underlying3->lg,isAgg3->zl,sizeOf3->yI,zeroValue3->wo,underlying4->uX,isAgg4->zn,sizeOf4->yJ,zeroValue4->wu,underlying9->kR,isAgg9->zo,sizeOf9->yK,zeroValue9->wz,underlying20->tV,isAgg20->yL,sizeOf20->xA,zeroValue20->uY,underlying264->su,isAgg264->xB,sizeOf264->wM,zeroValue264->tX,underlying5->uZ,isAgg5->zq,sizeOf5->yM,zeroValue5->wB
open Go.RowKit.Below renaming refl->zu
open Go.Shelf renaming Ren->uU
open Go.Sx.BL renaming sh->aW,int->aC,nat->aZ,get->bY,ok->xE
open Go.Sx.C9 renaming at_->bU,ret->aN
open Go.Sx.It renaming code->aK,inBlock->aX
open Go.Sx.Sh renaming i->aQ,sl->aG,os->fF,er->dP,v->ni,agg->bG,Az->bF,b->iL,str->dN
open Go.Sx.Tree renaming need->aH,leaf->aJ,node->aP,fail->jP
open Go.Value renaming nilIface->cZ
open Int renaming ofNat->ah,negSucc->gZ,toNat_natCast->dA
open List renaming nil_append->ji,mem_append->bQ,mem_map->eP,range->aU,map_congr_left->iJ,ext_getElem->uT,mem_range->eF,replicate->dD,all_eq_true->dh,length_append->cO,length_cons->jk,take_succ_eq_append_getElem->lY,take_length->vg
open List.cons renaming injEq->dF
open Nat renaming le_refl->bM,le_succ->vY,sub_self->gK,mul_le_mul_right->bW,beq->dK,add_mul->oU,one_mul->oJ
open Option renaming some->aj,none->aF,isSome_iff_exists->dO
open Option.some renaming injEq->jS,inj->bP
noncomputable section
namespace Go.Tb
open Go Go.Sx
abbrev L{α:Type}(k:Nat)(v:α):BT α:=.node .nil k v .nil
abbrev N{α:Type}(l:BT α)(k:Nat)(v:α)(r:BT α):BT α:=.node l k v r
abbrev z:SV:=.int .i64 0
abbrev tF:LJ:=⟨.fn,1,8,[.Ht]⟩
abbrev tS(n:Nat):LJ:=⟨.slice n,1,24,[.Bg]⟩
abbrev tP(n:Nat):LJ:=⟨.ptr n,1,8,[.Fj]⟩
end Go.Tb
namespace Go.Proofs
section
open Go Go.Sx Go.Tb
def Tryz.tys:BT LJ:=(N (N (N (N (N (N (N (N (L 1 tF) 2 ⟨.int .i64,1,8,[z]⟩ .nil) 3 ⟨.int .i64,1,8,[z]⟩ (L 4 ⟨.bool,1,1,[.bool aA]⟩)) 5 ⟨.int .u8,1,1,[.int .u8 0]⟩ (N (L 7 ⟨.struct [(0,1,aA),(1,1,aA),(2,1,aA),(3,1,aA)],4,24,[z,z,.bool aA,.int .u8 0]⟩) 9 ⟨.str,1,16,[.str []]⟩ (L 12 ⟨.int .u64,1,8,[.int .u64 0]⟩))) 13 ⟨.struct [(0,1,aA),(1,1,aA)],2,24,[.str [],.int .u64 0]⟩ (N (N (N (L 15 (tP 324)) 16 (tP 327) .nil) 17 (tP 334) (L 18 ⟨.struct [(0,1,aA)],1,8,[.Fj]⟩)) 20 ⟨.iface,1,16,[.Eo]⟩ (N (L 21 ⟨.int .i32,1,4,[.int .i32 0]⟩) 22 (tS 94) (L 23 (tS 51))))) 24 ⟨.struct [(0,1,aA),(1,1,aA)],2,48,[.Bg,.Bg]⟩ (N (N (N (N (L 25 ⟨.struct [(0,1,aA),(1,1,aA)],2,48,[.Bg,.Bg]⟩) 26 tF .nil) 27 tF (L 28 tF)) 29 tF (N (L 30 tF) 31 (tS 34) (L 32 (tS 89)))) 33 ⟨.struct [(0,1,aA),(1,1,aA),(2,1,aA)],3,40,[.bool aA,.Bg,z]⟩ (N (N (N (L 34 ⟨.struct [(0,1,aA),(1,1,aA),(2,1,aA)],3,40,[.bool aA,.Bg,z]⟩) 35 (tS 3) .nil) 36 ⟨.struct [(0,1,aA),(1,1,aA)],2,32,[z,.Bg]⟩ (L 37 ⟨.struct [(0,1,aA),(1,1,aA)],2,32,[z,.Bg]⟩)) 39 tF (N (L 40 tF) 41 ⟨.struct [(0,1,aA),(1,1,aA),(2,1,aA)],3,40,[.bool aA,.Bg,z]⟩ (L 42 tF))))) 43 tF (N (N (N (N (N (L 44 tF) 45 ⟨.iface,1,16,[.Eo]⟩ .nil) 46 ⟨.iface,1,16,[.Eo]⟩ (L 48 tF)) 49 tF (N (L 50 ⟨.struct [(0,1,aA),(1,1,aA),(2,1,aA),(3,1,aA),(4,1,aA),(5,1,aA),(6,1,aA),(7,1,aA)],8,64,[z,z,z,z,z,z,z,z]⟩) 51 ⟨.struct [(0,1,aA),(1,1,aA),(2,1,aA),(3,1,aA),(4,1,aA),(5,1,aA),(6,1,aA),(7,1,aA)],8,64,[z,z,z,z,z,z,z,z]⟩ (L 52 (tS 32)))) 53 ⟨.struct [(0,1,aA),(1,1,aA),(2,1,aA),(3,1,aA),(4,1,aA)],5,72,[.bool aA,.Bg,.Bg,z,z]⟩ (N (N (N (L 54 ⟨.struct [(0,1,aA),(1,1,aA),(2,1,aA),(3,1,aA),(4,1,aA)],5,72,[.bool aA,.Bg,.Bg,z,z]⟩) 56 tF .nil) 58 tF (L 59 tF)) 60 tF (N (L 61 tF) 62 tF (L 63 tF)))) 64 tF (N (N (N (N (L 65 ⟨.struct [(0,3,ay),(3,1,aA)],4,56,[.bool aA,.Bg,z,.Eo]⟩) 66 ⟨.struct [(0,3,ay),(3,1,aA)],4,56,[.bool aA,.Bg,z,.Eo]⟩ .nil) 67 (tS 87) (L 68 (tS 122))) 69 ⟨.struct [(0,1,aA),(1,1,aA),(2,1,aA),(3,1,aA),(4,1,aA)],5,104,[z,.Bg,.Bg,.Bg,.Bg]⟩ (N (L 70 ⟨.struct [(0,1,aA),(1,1,aA),(2,1,aA),(3,1,aA),(4,1,aA)],5,104,[z,.Bg,.Bg,.Bg,.Bg]⟩) 72 tF (L 73 (tS 80)))) 75 tF (N (N (N (L 76 tF) 77 (tS 4) .nil) 78 tF (L 79 ⟨.struct [(0,1,aA),(1,1,aA)],2,32,[z,.Bg]⟩)) 80 ⟨.struct [(0,1,aA),(1,1,aA)],2,32,[z,.Bg]⟩ (N (L 81 tF) 83 tF (L 84 tF)))))) 85 (tS 128) (N (N (N (N (N (N (L 86 ⟨.struct [(0,1,aA),(1,1,aA),(2,1,aA),(3,1,aA),(4,1,aA),(5,1,aA),(6,1,aA)],7,72,[z,z,z,z,z,z,.Bg]⟩) 87 ⟨.struct [(0,1,aA),(1,1,aA),(2,1,aA),(3,1,aA),(4,1,aA),(5,1,aA),(6,1,aA)],7,72,[z,z,z,z,z,z,.Bg]⟩ .nil) 88 ⟨.struct [(0,1,aA),(1,1,aA)],2,16,[z,.bool aA]⟩ (L 89 ⟨.struct [(0,1,aA),(1,1,aA)],2,16,[z,.bool aA]⟩)) 90 tF (N (L 91 tF) 92 tF (L 93 ⟨.struct [(0,1,aA),(1,1,aA)],2,16,[z,z]⟩))) 94 ⟨.struct [(0,1,aA),(1,1,aA)],2,16,[z,z]⟩ (N (N (N (L 95 tF) 97 tF .nil) 98 tF (L 99 tF)) 100 tF (N (L 101 tF) 103 tF (L 105 tF)))) 107 tF (N (N (N (N (L 108 tF) 109 ⟨.int .u64,1,8,[.int .u64 0]⟩ .nil) 110 tF (L 111 tF)) 113 tF (N (L 114 tF) 115 tF (L 116 tF))) 117 ⟨.struct [(0,1,aA),(1,1,aA),(2,1,aA),(3,1,aA)],4,80,[.Bg,.Bg,.Bg,z]⟩ (N (N (N (L 118 ⟨.struct [(0,1,aA),(1,1,aA),(2,1,aA),(3,1,aA)],4,80,[.Bg,.Bg,.Bg,z]⟩) 119 tF .nil) 120 tF (L 121 ⟨.struct [(0,1,aA),(1,1,aA),(2,1,aA),(3,1,aA)],4,64,[z,z,.Bg,.Bg]⟩)) 122 ⟨.struct [(0,1,aA),(1,1,aA),(2,1,aA),(3,1,aA)],4,64,[z,z,.Bg,.Bg]⟩ (N (L 124 tF) 125 tF (L 126 tF))))) 127 ⟨.struct [(0,1,aA),(1,1,aA),(2,1,aA),(3,1,aA),(4,1,aA),(5,1,aA),(6,1,aA),(7,1,aA)],8,64,[z,z,z,z,z,z,z,z]⟩ (N (N (N (N (N (L 128 ⟨.struct [(0,1,aA),(1,1,aA),(2,1,aA),(3,1,aA),(4,1,aA),(5,1,aA),(6,1,aA),(7,1,aA)],8,64,[z,z,z,z,z,z,z,z]⟩) 130 tF .nil) 131 tF (L 132 tF)) 133 tF (N (L 134 (tP 190)) 136 tF (L 137 tF))) 139 (tP 162) (N (N (N (L 141 tF) 142 (tP 200) .nil) 143 tF (L 144 ⟨.struct [(0,1,aA),(1,1,aA)],2,24,[z,.str []]⟩)) 145 ⟨.struct [(0,1,aA),(1,1,aA)],2,24,[z,.str []]⟩ (N (L 146 (tS 155)) 147 ⟨.struct [(0,1,aA),(1,1,aA)],2,32,[.Bg,z]⟩ (L 148 ⟨.struct [(0,1,aA),(1,1,aA)],2,32,[.Bg,z]⟩)))) 149 (tS 224) (N (N (N (N (L 150 ⟨.struct [(0,1,aA)],1,24,[.Bg]⟩) 151 ⟨.struct [(0,1,aA)],1,24,[.Bg]⟩ .nil) 152 ⟨.struct [(0,1,ay)],1,24,[.Bg]⟩ (L 153 ⟨.struct [(0,1,ay)],1,24,[.Bg]⟩)) 154 ⟨.struct [(0,1,aA),(1,1,ay)],2,32,[z,.Bg]⟩ (N (L 155 ⟨.struct [(0,1,aA),(1,1,ay)],2,32,[z,.Bg]⟩) 157 tF (L 158 tF))) 159 tF (N (N (N (L 160 tF) 161 ⟨.struct [(0,1,aA),(1,1,aA),(2,1,aA),(3,1,ay)],4,80,[z,.Bg,.Bg,.Bg]⟩ .nil) 162 ⟨.struct [(0,1,aA),(1,1,aA),(2,1,aA),(3,1,ay)],4,80,[z,.Bg,.Bg,.Bg]⟩ (L 164 tF)) 165 tF (N (L 166 (tS 169)) 167 tF (L 168 ⟨.struct [(0,2,ay),(2,2,ay)],4,48,[z,.bool aA,z,.Bg]⟩))))))) 169 ⟨.struct [(0,2,ay),(2,2,ay)],4,48,[z,.bool aA,z,.Bg]⟩ (N (N (N (N (N (N (N (L 170 ⟨.map 145 4,1,8,[.Gy]⟩) 171 tF .nil) 172 tF (L 173 tF)) 174 tF (N (L 175 (tP 118)) 176 tF (L 177 tF))) 179 tF (N (N (N (L 180 tF) 181 tF .nil) 182 tF (L 183 tF)) 184 (tP 186) (N (L 185 ⟨.struct [(0,1,aA),(1,1,aA)],2,24,[z,.Eo]⟩) 186 ⟨.struct [(0,1,aA),(1,1,aA)],2,24,[z,.Eo]⟩ (L 187 (tS 191))))) 188 ⟨.map 3 191,1,8,[.Gy]⟩ (N (N (N (N (L 189 ⟨.struct [(0,1,aA),(1,1,aA),(2,1,aA),(3,1,aA),(4,1,aA)],5,72,[.Bg,z,.Bg,.Gy,.Gy]⟩) 190 ⟨.struct [(0,1,aA),(1,1,aA),(2,1,aA),(3,1,aA),(4,1,aA)],5,72,[.Bg,z,.Bg,.Gy,.Gy]⟩ .nil) 191 (tP 193) (L 192 ⟨.struct [(0,7,ay),(7,1,aA)],8,80,[z,z,z,z,z,z,.Bg,z]⟩)) 193 ⟨.struct [(0,7,ay),(7,1,aA)],8,80,[z,z,z,z,z,z,.Bg,z]⟩ (N (L 194 tF) 196 tF (L 197 ⟨.map 145 3,1,8,[.Gy]⟩))) 198 (tS 145) (N (N (N (L 199 ⟨.struct [(0,1,aA),(1,1,aA),(2,1,aA)],3,40,[z,.Gy,.Bg]⟩) 200 ⟨.struct [(0,1,aA),(1,1,aA),(2,1,aA)],3,40,[z,.Gy,.Bg]⟩ .nil) 201 tF (L 202 tF)) 203 (tP 148) (N (L 204 ⟨.struct [],0,0,[]⟩) 205 tF (L 206 tF))))) 207 tF (N (N (N (N (N (L 208 tF) 209 tF .nil) 210 tF (L 211 tF)) 212 tF (N (L 213 tF) 214 tF (L 216 tF))) 217 ⟨.struct [(0,1,aA),(1,1,aA)],2,32,[.Bg,.Ht]⟩ (N (N (N (L 218 ⟨.struct [(0,1,aA),(1,1,aA)],2,32,[.Bg,.Ht]⟩) 219 ⟨.map 3 218,1,8,[.Gy]⟩ .nil) 220 tF (L 221 tF)) 222 (tS 261) (N (L 223 ⟨.struct [(0,1,aA),(1,1,aA),(2,1,aA),(3,1,aA)],4,64,[z,z,.Bg,.Bg]⟩) 224 ⟨.struct [(0,1,aA),(1,1,aA),(2,1,aA),(3,1,aA)],4,64,[z,z,.Bg,.Bg]⟩ (L 226 tF)))) 227 tF (N (N (N (N (L 229 (tS 9)) 230 tF .nil) 231 tF (L 232 tF)) 233 tF (N (L 235 tF) 236 tF (L 237 tF))) 238 tF (N (N (N (L 239 tF) 240 tF .nil) 241 tF (L 242 tF)) 243 tF (N (L 244 tF) 245 tF (L 246 ⟨.map 3 245,1,8,[.Gy]⟩)))))) 247 tF (N (N (N (N (N (N (L 248 tF) 249 ⟨.struct [(0,1,aA),(1,1,aA),(2,1,aA),(3,1,aA)],4,32,[.Ht,z,z,z]⟩ .nil) 250 ⟨.struct [(0,1,aA),(1,1,aA),(2,1,aA),(3,1,aA)],4,32,[.Ht,z,z,z]⟩ (L 252 (tP 3))) 253 (tP 51) (N (L 254 tF) 255 (tP 128) (L 256 tF))) 257 tF (N (N (N (L 258 tF) 259 tF .nil) 260 ⟨.struct [(0,1,aA),(1,1,aA)],2,16,[z,z]⟩ (L 261 ⟨.struct [(0,1,aA),(1,1,aA)],2,16,[z,z]⟩)) 262 tF (N (L 263 (tP 266)) 264 (tS 5) (L 265 ⟨.struct [(0,1,aA),(1,1,aA)],2,32,[.Fj,.Bg]⟩)))) 266 ⟨.struct [(0,1,aA),(1,1,aA)],2,32,[.Fj,.Bg]⟩ (N (N (N (N (L 267 tF) 268 tF .nil) 270 tF (L 272 tF)) 273 tF (N (L 275 tF) 276 (tS 250) (L 277 tF))) 278 tF (N (N (N (L 279 (tP 5)) 280 tF .nil) 282 tF (L 283 tF)) 284 ⟨.map 3 283,1,8,[.Gy]⟩ (N (L 285 tF) 286 tF (L 287 tF))))) 288 ⟨.arr 4 9,4,64,[.str [],.str [],.str [],.str []]⟩ (N (N (N (N (N (L 289 ⟨.arr 7 9,7,112,[.str [],.str [],.str [],.str [],.str [],.str [],.str []]⟩) 290 ⟨.arr 9 9,9,144,[.str [],.str [],.str [],.str [],.str [],.str [],.str [],.str [],.str []]⟩ .nil) 291 ⟨.arr 3 9,3,48,[.str [],.str [],.str []]⟩ (L 293 tF)) 294 tF (N (L 295 tF) 296 tF (L 298 tF))) 299 tF (N (N (N (L 300 tF) 301 tF .nil) 302 tF (L 303 tF)) 304 tF (N (L 305 (tS 222)) 306 tF (L 308 ⟨.int .u64,1,8,[.int .u64 0]⟩)))) 309 tF (N (N (N (N (L 310 tF) 312 tF .nil) 313 tF (L 315 ⟨.int .u32,1,4,[.int .u32 0]⟩)) 317 tF (N (L 318 tF) 319 tF (L 322 (tP 336)))) 323 ⟨.struct [(0,1,aA),(1,1,aA),(2,1,aA),(3,1,aA)],4,40,[.Fj,.Fj,.Fj,.str []]⟩ (N (N (L 325 ⟨.arr 0 16,0,0,[]⟩) 326 ⟨.struct [(0,0,ay)],0,0,[]⟩ (L 330 tF)) 333 ⟨.struct [(0,1,aA),(1,1,aA),(2,1,aA),(3,1,aA),(4,1,aA),(5,1,aA),(6,1,aA),(7,1,aA),(8,1,aA),(9,1,aA),(10,1,aA)],11,48,[.int .u64 0,.int .u64 0,.int .u32 0,.int .u8 0,.int .u8 0,.int .u8 0,.int .u8 0,.Ht,.Fj,.int .i32 0,.int .i32 0]⟩ (N (L 335 ⟨.struct [(0,1,aA)],1,16,[.str []]⟩) 336 ⟨.struct [(0,1,aA)],1,16,[.str []]⟩ (L 337 tF))))))))
def Tryz.fns:BT Func:=(N (N (N (N (N (N (N (L 3 Tryz.f3) 4 Tryz.f4 (L 5 Tryz.f5)) 6 Tryz.f6 (N (L 7 Tryz.f7) 8 Tryz.f8 .nil)) 9 Tryz.f9 (N (N (L 10 Tryz.f10) 11 Tryz.f11 .nil) 12 Tryz.f12 (N (L 13 Tryz.f13) 14 Tryz.f14 .nil))) 15 Tryz.f15 (N (N (N (L 16 Tryz.f16) 17 Tryz.f17 (L 18 Tryz.f18)) 19 Tryz.f19 (N (L 20 Tryz.f20) 21 Tryz.f21 .nil)) 22 Tryz.f22 (N (N (L 23 Tryz.f23) 24 Tryz.f24 .nil) 25 Tryz.f25 (N (L 26 Tryz.f26) 27 Tryz.f27 .nil)))) 28 Tryz.f28 (N (N (N (N (L 29 Tryz.f29) 30 Tryz.f30 (L 31 Tryz.f31)) 32 Tryz.f32 (N (L 33 Tryz.f33) 34 Tryz.f34 .nil)) 35 Tryz.f35 (N (N (L 36 Tryz.f36) 37 Tryz.f37 .nil) 38 Tryz.f38 (N (L 39 Tryz.f39) 40 Tryz.f40 .nil))) 41 Tryz.f41 (N (N (N (L 42 Tryz.f42) 43 Tryz.f43 (L 44 Tryz.f44)) 45 Tryz.f45 (N (L 46 Tryz.f46) 47 Tryz.f47 .nil)) 48 Tryz.f48 (N (N (L 49 Tryz.f49) 50 Tryz.f50 .nil) 51 Tryz.f51 (N (L 52 Tryz.f52) 53 Tryz.f53 .nil))))) 54 Tryz.f54 (N (N (N (N (N (L 55 Tryz.f55) 56 Tryz.f56 (L 57 Tryz.f57)) 58 Tryz.f58 (N (L 59 Tryz.f59) 60 Tryz.f60 .nil)) 61 Tryz.f61 (N (N (L 62 Tryz.f62) 63 Tryz.f63 .nil) 64 Tryz.f64 (N (L 65 Tryz.f65) 66 Tryz.f66 .nil))) 67 Tryz.f67 (N (N (N (L 68 Tryz.f68) 69 Tryz.f69 (L 70 Tryz.f70)) 71 Tryz.f71 (N (L 72 Tryz.f72) 73 Tryz.f73 .nil)) 74 Tryz.f74 (N (N (L 75 iG) 76 Tryz.f76 .nil) 77 Tryz.f77 (N (L 78 Tryz.f78) 79 Tryz.f79 .nil)))) 80 Tryz.f80 (N (N (N (N (L 81 Tryz.f81) 82 Tryz.f82 (L 83 Tryz.f83)) 84 Tryz.f84 (N (L 85 Tryz.f85) 86 Tryz.f86 .nil)) 87 Tryz.f87 (N (N (L 88 Tryz.f88) 89 Tryz.f89 .nil) 90 Tryz.f90 (N (L 91 Tryz.f91) 92 qx .nil))) 93 Tryz.f93 (N (N (N (L 94 qh) 95 Tryz.f95 .nil) 96 Tryz.f96 (N (L 97 Tryz.f97) 98 Tryz.f98 .nil)) 99 Tryz.f99 (N (N (L 100 Tryz.f100) 101 Tryz.f101 .nil) 102 uK (N (L 103 uM) 104 Tryz.f104 .nil)))))) 105 mZ (N (N (N (N (N (N (L 106 Tryz.f106) 107 Tryz.f107 (L 108 Tryz.f108)) 109 Tryz.f109 (N (L 110 Tryz.f110) 111 Tryz.f111 .nil)) 112 Tryz.f112 (N (N (L 113 Tryz.f113) 114 Tryz.f114 .nil) 115 Tryz.f115 (N (L 116 Tryz.f116) 117 Tryz.f117 .nil))) 118 Tryz.f118 (N (N (N (L 119 uN) 120 Tryz.f120 (L 121 Tryz.f121)) 122 Tryz.f122 (N (L 123 Tryz.f123) 124 Tryz.f124 .nil)) 125 Tryz.f125 (N (N (L 126 Tryz.f126) 127 Tryz.f127 .nil) 128 Tryz.f128 (N (L 129 Tryz.f129) 130 Tryz.f130 .nil)))) 131 uO (N (N (N (N (L 132 uP) 133 Tryz.f133 (L 134 Tryz.f134)) 135 Tryz.f135 (N (L 136 uQ) 137 Tryz.f137 .nil)) 138 uS (N (N (L 139 Tryz.f139) 140 Tryz.f140 .nil) 141 Tryz.f141 (N (L 142 Tryz.f142) 143 Tryz.f143 .nil))) 144 Tryz.f144 (N (N (N (L 145 Tryz.f145) 146 Tryz.f146 .nil) 147 Tryz.f147 (N (L 148 Tryz.f148) 149 Tryz.f149 .nil)) 150 Tryz.f150 (N (N (L 151 Tryz.f151) 152 Tryz.f152 .nil) 153 Tryz.f153 (N (L 154 Tryz.f154) 155 Tryz.f155 .nil))))) 156 Tryz.f156 (N (N (N (N (N (L 157 Tryz.f157) 158 Tryz.f158 (L 159 Tryz.f159)) 160 Tryz.f160 (N (L 161 Tryz.f161) 162 Tryz.f162 .nil)) 163 Tryz.f163 (N (N (L 164 Tryz.f164) 165 Tryz.f165 .nil) 166 Tryz.f166 (N (L 167 Tryz.f167) 168 Tryz.f168 .nil))) 169 Tryz.f169 (N (N (N (L 170 Tryz.f170) 171 Tryz.f171 (L 172 Tryz.f172)) 173 Tryz.f173 (N (L 174 Tryz.f174) 177 Tryz.f177 .nil)) 178 Tryz.f178 (N (N (L 179 Tryz.f179) 180 Tryz.f180 .nil) 181 Tryz.f181 (N (L 182 Tryz.f182) 183 Tryz.f183 .nil)))) 184 Tryz.f184 (N (N (N (N (L 185 Tryz.f185) 186 Tryz.f186 (L 187 Tryz.f187)) 188 Tryz.f188 (N (L 189 Tryz.f189) 190 Tryz.f190 .nil)) 191 Tryz.f191 (N (N (L 192 Tryz.f192) 193 Tryz.f193 .nil) 195 Tryz.f195 (N (L 196 Tryz.f196) 197 Tryz.f197 .nil))) 198 Tryz.f198 (N (N (N (L 199 Tryz.f199) 200 Tryz.f200 .nil) 201 Tryz.f201 (N (L 202 Tryz.f202) 203 Tryz.f203 .nil)) 204 Tryz.f204 (N (N (L 205 Tryz.f205) 206 Tryz.f206 .nil) 207 Tryz.f207 (N (L 208 Tryz.f208) 209 Tryz.f209 .nil)))))))
def Tryz.live:BT Nat:=(N (N (N (N (N (N (N (L 3 4083471642060274948278853338158436843503) 4 14335 (L 5 7)) 6 31 (N (L 7 638777136133500232728028643279) 8 23 .nil)) 9 268470387 (N (N (L 10 15) 11 36524002295 .nil) 12 2077 (N (L 13 33557455) 14 2566129655 .nil))) 15 268470387 (N (N (N (L 16 7) 17 2099007 (L 18 31)) 19 17303031 (N (L 20 76561194806677495) 21 5 .nil)) 22 4611826824635484151 (N (N (L 23 7) 24 2785366273595414553384992575 .nil) 25 536871483 (N (L 26 2077) 27 31 .nil)))) 28 5 (N (N (N (N (L 29 5) 30 36031478185920503 (L 31 207)) 32 268439295 (N (L 33 7) 34 2149585151 .nil)) 35 540925 (N (N (L 36 9007203621079027) 37 263283 .nil) 38 45035996290519027 (N (L 39 19) 40 4159 .nil))) 41 20282565482478322020874687348527 (N (N (N (L 42 131339) 43 23 (L 44 4504703438225535)) 45 5488420038750559896029471567983428603 (N (L 46 83) 47 287 .nil)) 48 31 (N (N (L 49 131191) 50 2199090887711 .nil) 51 2077 (N (L 52 1) 53 1099511693427 .nil))))) 54 69226996735 (N (N (N (N (N (L 55 983149) 56 295219962791579485687 (L 57 5)) 58 33023 (N (L 59 262459) 60 7 .nil)) 61 11 (N (N (L 62 9007199254773821) 63 77 .nil) 64 1237940113072357669249454075 (N (L 65 5) 66 16106194419 .nil))) 67 1101690831219 (N (N (N (L 68 1073741831) 69 571 (L 70 9444769005542164140283)) 71 262707 (N (L 72 7) 73 77928346935781219122975 .nil)) 74 127 (N (N (L 75 9445318576492100452863) 76 541 .nil) 77 2899107766173950474215390087288321352934114299 (N (L 78 119) 79 4620196376434196339 .nil)))) 80 538854333 (N (N (N (N (L 81 91) 82 943 (L 83 17867066114039)) 84 5 (N (L 85 92522022212955275391) 86 4198555 .nil)) 87 67109427 (N (N (L 88 17660955854071) 89 34387 .nil) 90 2077 (N (L 91 73788102194745311519) 92 2077 .nil))) 93 83010348331718212735 (N (N (N (L 94 17179869199) 95 19 .nil) 96 9481627579855335850495 (N (L 97 9373) 98 21 .nil)) 99 3 (N (N (L 100 19) 101 31 .nil) 102 287 (N (L 103 31) 104 7 .nil)))))) 105 33261241786543 (N (N (N (N (N (N (L 106 138351151749653378483) 107 2199158520895 (L 108 65615)) 109 1037 (N (L 110 35787119) 111 71582839 .nil)) 112 66099 (N (N (L 113 275955859571) 114 131635 .nil) 115 15 (N (L 116 5) 117 5 .nil))) 118 1048695 (N (N (N (L 119 51) 120 61463 (L 121 7)) 122 143 (N (L 123 87) 124 268435671 .nil)) 125 525363 (N (N (L 126 71) 127 67 .nil) 128 66483 (N (L 129 7) 130 264091 .nil)))) 131 5 (N (N (N (N (L 132 5) 133 2097283 (L 134 51)) 135 5 (N (L 136 55) 137 2361471471810991128351 .nil)) 138 65775 (N (N (L 139 4432676798715) 140 7 .nil) 141 1127 (N (L 142 1) 143 1 .nil))) 144 2113775 (N (N (N (L 145 1) 146 1 .nil) 147 5 (N (L 148 1) 149 5 .nil)) 150 1 (N (N (L 151 8431) 152 1 .nil) 153 5 (N (L 154 524353) 155 19 .nil))))) 156 32887 (N (N (N (N (N (L 157 711) 158 3 (L 159 5)) 160 16583 (N (L 161 3) 162 3 .nil)) 163 3 (N (N (L 164 3) 165 3 .nil) 166 3 (N (L 167 5) 168 5 .nil))) 169 5 (N (N (N (L 170 5) 171 5 (L 172 5)) 173 5 (N (L 174 5) 177 457 .nil)) 178 461 (N (N (L 179 461) 180 461 .nil) 181 21 (N (L 182 9161) 183 2099151 .nil)))) 184 21 (N (N (N (N (L 185 55) 186 295147905181504570311 (L 187 1995)) 188 16631 (N (L 189 33562571) 190 504373101 .nil)) 191 17188391667 (N (N (L 192 2147618759) 193 23 .nil) 195 3 (N (L 196 65619) 197 21 .nil))) 198 13 (N (N (N (L 199 2923003971560093291123168138537876760321514930163) 200 20426010943356750102455122975 .nil) 201 3 (N (L 202 5) 203 16661 .nil)) 204 13 (N (N (L 205 5) 206 5 .nil) 207 525 (N (L 208 21) 209 21 .nil)))))))
theorem Tryz.tysB_:ay3 ak Tryz.tys=ay:=by kernel_rfl
theorem Tryz.fnsAre_:aik ak Tryz.fns:=⟨Tryz.func105,⟨Tryz.func54,⟨Tryz.func28,⟨Tryz.func15,⟨Tryz.func9,⟨Tryz.func6,⟨Tryz.func4,⟨Tryz.func3,ϖ,ϖ⟩,⟨Tryz.func5,ϖ,ϖ⟩⟩,⟨Tryz.func8,⟨Tryz.func7,ϖ,ϖ⟩,ϖ⟩⟩,⟨Tryz.func12,⟨Tryz.func11,⟨Tryz.func10,ϖ,ϖ⟩,ϖ⟩,⟨Tryz.func14,⟨Tryz.func13,ϖ,ϖ⟩,ϖ⟩⟩⟩,⟨Tryz.func22,⟨Tryz.func19,⟨Tryz.func17,⟨Tryz.func16,ϖ,ϖ⟩,⟨Tryz.func18,ϖ,ϖ⟩⟩,⟨Tryz.func21,⟨Tryz.func20,ϖ,ϖ⟩,ϖ⟩⟩,⟨Tryz.func25,⟨Tryz.func24,⟨Tryz.func23,ϖ,ϖ⟩,ϖ⟩,⟨Tryz.func27,⟨Tryz.func26,ϖ,ϖ⟩,ϖ⟩⟩⟩⟩,⟨Tryz.func41,⟨Tryz.func35,⟨Tryz.func32,⟨Tryz.func30,⟨Tryz.func29,ϖ,ϖ⟩,⟨Tryz.func31,ϖ,ϖ⟩⟩,⟨Tryz.func34,⟨Tryz.func33,ϖ,ϖ⟩,ϖ⟩⟩,⟨Tryz.func38,⟨Tryz.func37,⟨Tryz.func36,ϖ,ϖ⟩,ϖ⟩,⟨Tryz.func40,⟨Tryz.func39,ϖ,ϖ⟩,ϖ⟩⟩⟩,⟨Tryz.func48,⟨Tryz.func45,⟨Tryz.func43,⟨Tryz.func42,ϖ,ϖ⟩,⟨Tryz.func44,ϖ,ϖ⟩⟩,⟨Tryz.func47,⟨Tryz.func46,ϖ,ϖ⟩,ϖ⟩⟩,⟨Tryz.func51,⟨Tryz.func50,⟨Tryz.func49,ϖ,ϖ⟩,ϖ⟩,⟨Tryz.func53,⟨Tryz.func52,ϖ,ϖ⟩,ϖ⟩⟩⟩⟩⟩,⟨Tryz.func80,⟨Tryz.func67,⟨Tryz.func61,⟨Tryz.func58,⟨Tryz.func56,⟨Tryz.func55,ϖ,ϖ⟩,⟨Tryz.func57,ϖ,ϖ⟩⟩,⟨Tryz.func60,⟨Tryz.func59,ϖ,ϖ⟩,ϖ⟩⟩,⟨Tryz.func64,⟨Tryz.func63,⟨Tryz.func62,ϖ,ϖ⟩,ϖ⟩,⟨Tryz.func66,⟨Tryz.func65,ϖ,ϖ⟩,ϖ⟩⟩⟩,⟨Tryz.func74,⟨Tryz.func71,⟨Tryz.func69,⟨Tryz.func68,ϖ,ϖ⟩,⟨Tryz.func70,ϖ,ϖ⟩⟩,⟨Tryz.func73,⟨Tryz.func72,ϖ,ϖ⟩,ϖ⟩⟩,⟨Tryz.func77,⟨Tryz.func76,⟨Tryz.func75,ϖ,ϖ⟩,ϖ⟩,⟨Tryz.func79,⟨Tryz.func78,ϖ,ϖ⟩,ϖ⟩⟩⟩⟩,⟨Tryz.func93,⟨Tryz.func87,⟨Tryz.func84,⟨Tryz.func82,⟨Tryz.func81,ϖ,ϖ⟩,⟨Tryz.func83,ϖ,ϖ⟩⟩,⟨Tryz.func86,⟨Tryz.func85,ϖ,ϖ⟩,ϖ⟩⟩,⟨Tryz.func90,⟨Tryz.func89,⟨Tryz.func88,ϖ,ϖ⟩,ϖ⟩,⟨Tryz.func92,⟨Tryz.func91,ϖ,ϖ⟩,ϖ⟩⟩⟩,⟨Tryz.func99,⟨Tryz.func96,⟨Tryz.func95,⟨Tryz.func94,ϖ,ϖ⟩,ϖ⟩,⟨Tryz.func98,⟨Tryz.func97,ϖ,ϖ⟩,ϖ⟩⟩,⟨Tryz.func102,⟨Tryz.func101,⟨Tryz.func100,ϖ,ϖ⟩,ϖ⟩,⟨Tryz.func104,⟨Tryz.func103,ϖ,ϖ⟩,ϖ⟩⟩⟩⟩⟩⟩,⟨Tryz.func156,⟨Tryz.func131,⟨Tryz.func118,⟨Tryz.func112,⟨Tryz.func109,⟨Tryz.func107,⟨xR,ϖ,ϖ⟩,⟨Tryz.func108,ϖ,ϖ⟩⟩,⟨Tryz.func111,⟨Tryz.func110,ϖ,ϖ⟩,ϖ⟩⟩,⟨Tryz.func115,⟨Tryz.func114,⟨Tryz.func113,ϖ,ϖ⟩,ϖ⟩,⟨Tryz.func117,⟨Tryz.func116,ϖ,ϖ⟩,ϖ⟩⟩⟩,⟨Tryz.func125,⟨Tryz.func122,⟨Tryz.func120,⟨Tryz.func119,ϖ,ϖ⟩,⟨Tryz.func121,ϖ,ϖ⟩⟩,⟨Tryz.func124,⟨Tryz.func123,ϖ,ϖ⟩,ϖ⟩⟩,⟨Tryz.func128,⟨Tryz.func127,⟨Tryz.func126,ϖ,ϖ⟩,ϖ⟩,⟨Tryz.func130,⟨Tryz.func129,ϖ,ϖ⟩,ϖ⟩⟩⟩⟩,⟨Tryz.func144,⟨Tryz.func138,⟨xU,⟨xW,⟨Tryz.func132,ϖ,ϖ⟩,⟨xX,ϖ,ϖ⟩⟩,⟨Tryz.func137,⟨Tryz.func136,ϖ,ϖ⟩,ϖ⟩⟩,⟨Tryz.func141,⟨Tryz.func140,⟨Tryz.func139,ϖ,ϖ⟩,ϖ⟩,⟨Tryz.func143,⟨Tryz.func142,ϖ,ϖ⟩,ϖ⟩⟩⟩,⟨Tryz.func150,⟨Tryz.func147,⟨Tryz.func146,⟨Tryz.func145,ϖ,ϖ⟩,ϖ⟩,⟨Tryz.func149,⟨Tryz.func148,ϖ,ϖ⟩,ϖ⟩⟩,⟨xY,⟨Tryz.func152,⟨Tryz.func151,ϖ,ϖ⟩,ϖ⟩,⟨xZ,⟨x9,ϖ,ϖ⟩,ϖ⟩⟩⟩⟩⟩,⟨Tryz.func184,⟨Tryz.func169,⟨Tryz.func163,⟨Tryz.func160,⟨Tryz.func158,⟨Tryz.func157,ϖ,ϖ⟩,⟨Tryz.func159,ϖ,ϖ⟩⟩,⟨Tryz.func162,⟨Tryz.func161,ϖ,ϖ⟩,ϖ⟩⟩,⟨Tryz.func166,⟨Tryz.func165,⟨Tryz.func164,ϖ,ϖ⟩,ϖ⟩,⟨Tryz.func168,⟨Tryz.func167,ϖ,ϖ⟩,ϖ⟩⟩⟩,⟨Tryz.func178,⟨Tryz.func173,⟨Tryz.func171,⟨Tryz.func170,ϖ,ϖ⟩,⟨Tryz.func172,ϖ,ϖ⟩⟩,⟨Tryz.func177,⟨yc,ϖ,ϖ⟩,ϖ⟩⟩,⟨Tryz.func181,⟨Tryz.func180,⟨Tryz.func179,ϖ,ϖ⟩,ϖ⟩,⟨Tryz.func183,⟨Tryz.func182,ϖ,ϖ⟩,ϖ⟩⟩⟩⟩,⟨yg,⟨yh,⟨Tryz.func188,⟨Tryz.func186,⟨Tryz.func185,ϖ,ϖ⟩,⟨Tryz.func187,ϖ,ϖ⟩⟩,⟨Tryz.func190,⟨Tryz.func189,ϖ,ϖ⟩,ϖ⟩⟩,⟨Tryz.func195,⟨Tryz.func193,⟨Tryz.func192,ϖ,ϖ⟩,ϖ⟩,⟨yj,⟨Tryz.func196,ϖ,ϖ⟩,ϖ⟩⟩⟩,⟨yt,⟨Tryz.func201,⟨yu,⟨yw,ϖ,ϖ⟩,ϖ⟩,⟨yx,⟨yA,ϖ,ϖ⟩,ϖ⟩⟩,⟨Tryz.func207,⟨yB,⟨yC,ϖ,ϖ⟩,ϖ⟩,⟨yE,⟨yF,ϖ,ϖ⟩,ϖ⟩⟩⟩⟩⟩⟩⟩
theorem Tryz.entersB_:ako Tryz.fns=ay:=by kernel_rfl
theorem Tryz.mixed_:ak.follows .mixedOrders=ay:=by kernel_rfl
end
end Go.Proofs
namespace Go.Sx
def agW(P:Program)(t:Nat):Bool:=
 (match P.underlying t with
  |some (.struct fs)=>match fs.toList with
   |[f,g]=>f.name != "_" && g.name != "_" && f.offset==0&&g.offset==1&&(match P.underlying f.type with|some (.int .i64)=>ay|_=>aA)&&(match P.underlying g.type with|some .string=>ay|_=>aA)
   |_=>aA
  |_=>aA) && !P.stoodInHeld t
section
variable{P:Program}
theorem akQ{t:Nat}{d:TypeDesc}(hu:P.underlying t=aj d)(hd:(match d with| .struct _| .array _ _=>ay|_=>aA)=aA){cs:Array Value}{j:Nat}{v:Value}(hj:cs[j]?=aj v)(w:World):(part t cs j).run P w=.ok v w:=by
 cases d<;>first|(simp at hd;done) |simp[part,isAgg,run_underlying hu,hj]
theorem aiv{t:Nat}(h:agW P t=ay):UY P t:=by
 unfold agW at h;rw[aB] at h;obtain ⟨h1,h2⟩:=h;have h2:P.stoodInHeld t=aA:=by grind
 split at h1
 ·rename_i fs hu
  split at h1
  ·rename_i f g hl
   simp only[aB,bne_iff_ne,ne_eq,ϡ] at h1;obtain ⟨⟨⟨⟨⟨a1,a2⟩,a3⟩,a4⟩,a5⟩,a6⟩:=h1;have uf:P.underlying f.type=aj (.int .i64):=by
    grind
   have ug:P.underlying g.type=aj .string:=by
    grind
   have hfs:fs=#[f,g]:=by
    grind
   have p0 (n:Ep) (w:World):(part f.type #[.int .i64 n.1,.string ⟨n.2.toArray⟩] 0).run P w=.ok (.int .i64 n.1) w:=akQ uf rfl rfl w;have p1 (n:Ep) (w:World):(part g.type #[.int .i64 n.1,.string ⟨n.2.toArray⟩] 1).run P w=.ok (.string ⟨n.2.toArray⟩) w:=akQ ug rfl rfl w;refine ⟨⟨fs,hu⟩,fun em n w=>?_,fun n m w=>?_⟩
   ·have ci:∀(d:Nat) (k:Int),(iq em (d+1) f.type (.int .i64 k)).run P w=.ok () w:=fun d k=>by simp[iq,run_underlying uf]
    have cs:∀(d:Nat) (s:ByteArray),(iq em (d+1) g.type (.string s)).run P w=.ok () w:=fun d s=>by simp[iq,run_underlying ug]
    have:∀d:Nat,(iq em (d+2) t (DZ n)).run P w=.ok () w:=fun d=>by
     unfold DZ;rw[iq];simp_all [run_underlying]
    grind
   ·have hf:P.fieldsOf t=fs:=by simp[Program.fieldsOf,hu]
    have he:=run_equalIn_struct (P:=P) w 9999 t #[.int .i64 n.1,.string ⟨n.2.toArray⟩] #[.int .i64 m.1,.string ⟨m.2.toArray⟩] (by simp_all) h2;have q1:=run_equalIn_int (P:=P) w 9998 f.type .i64 .i64 n.1 m.1 uf;have q2:=run_equalIn_string (P:=P) w 9998 g.type ⟨n.2.toArray⟩ ⟨m.2.toArray⟩ ug;show (Op.equalIn 10000 t (DZ n) (DZ m)).run P w=_;unfold DZ;rw[he,hf,hl];simp only[Op.eqFields,a1,a2,a3,a4,p0,p1,q1,q2,afS,ne_eq,not_false_eq_true,if_true,Sem.run_bind,Result.andThen_ok,Sem.run_ite,Sem.run_pure];obtain ⟨x,l⟩:=n;obtain ⟨y,k⟩:=m;by_cases q:x=y<;>by_cases q2:l=k<;>simp[q,q2]
  ·cases h1
 ·cases h1
end
end Go.Sx
namespace Go.Proofs
open Go Go.Sx
abbrev Wd:=Nat->Nat->List UInt8
def YW(W:Wd)(g:Nat)(n:Nat):List Sh:=match n with
 |3=>[.str (W g 0),.str (W g 1),.str (W g 2)] |4=>[.str (W g 0),.str (W g 1),.str (W g 2),.str (W g 3)] |7=>[.str (W g 0),.str (W g 1),.str (W g 2),.str (W g 3),.str (W g 4),.str (W g 5),.str (W g 6)] |9=>[.str (W g 0),.str (W g 1),.str (W g 2),.str (W g 3),.str (W g 4),.str (W g 5),.str (W g 6),.str (W g 7),.str (W g 8)] |_=>[]
def pow10:List Int:=[1,10,100,1000,10000,100000,1000000,10000000,100000000,1000000000,10000000000,100000000000,1000000000000,10000000000000,100000000000000,1000000000000000,10000000000000000,100000000000000000,1000000000000000000,10000000000000000000]
def AZ(W:Wd):List (Nat×Sh):=[(0,.er 0 322),(2,.er 2 322),(3,.er 3 322),(1,.er 1 322),(4,.er 4 322),(5,.er 5 322),(6,.er 6 322),(7,.er 7 322),(8,.er 8 322),(9,.er 9 322),(10,.er 10 322),(11,.er 11 322),(14,.er 14 322),(12,.er 12 322),(13,.er 13 322),
 (15,.Az (YW W 15 4)),(16,.Az (YW W 16 7)),(17,.Az (YW W 17 9)),(18,.Az (YW W 18 3)),(19,.Az (YW W 19 4)),(20,.Az (YW W 20 4)),(22,.Az (pow10.map (aQ .u64)))]
def W7:Wd:=fun g i=>(match g,i with
 |15,0=>[114,101,103,105,115,116,101,114] |15,1=>[99,111,117,110,116,101,114] |15,2=>[113,117,101,117,101] |15,3=>[109,97,112] |16,0=>[98,101,103,105,110] |16,1=>[99,97,108,108] |16,2=>[114,101,116,117,114,110] |16,3=>[116,114,121] |16,4=>[99,111,109,109,105,116] |16,5=>[97,98,111,114,116] |16,6=>[99,97,110,99,101,108] |17,0=>[114,101,97,100] |17,1=>[119,114,105,116,101] |17,2=>[97,100,100] |17,3=>[103,101,116] |17,4=>[101,110,113] |17,5=>[100,101,113] |17,6=>[112,117,116] |17,7=>[108,111,111,107] |17,8=>[100,101,108] |18,0=>[111,107] |18,1=>[110,111,110,101] |18,2=>[118,97,108] |19,0=>[108,105,118,101] |19,1=>[112,101,110,100,105,110,103] |19,2=>[99,111,109,109,105,116,116,101,100] |19,3=>[97,98,111,114,116,101,100] |20,0=>[115,101,114,105,97,108] |20,1=>[115,116,114,105,99,116] |20,2=>[102,105,110,97,108] |20,3=>[111,112,97,113,117,101] |_,_=>[])
def noSpec:ϕ:=fun _=>aF
def aph:Nat->Option VT
 |170=>aj .bool |197=>aj .int |_=>aF
theorem akR(t:Nat)(h:List.contains [145] t=ay):UY ak t:=by
 obtain rfl:t=145:=by simpa using h
 exact aiv (by kernel_rfl)
def C7(A:Prim)(W:Wd)(spec:ϕ)(stop:Nat->List Nat->Bool):Ctx:=
 {A,tys:=Tryz.tys,fns:=Tryz.fns,spec,eqs:=[261,89],Xg:=[322],L9:=stop,gls:=AZ W,live:=Tryz.live,pks:=[145],acU:=aph}
theorem atK:YM ak Tryz.tys [261,89]=ay:=by kernel_rfl
theorem atL:akx ak [322]=ay:=by kernel_rfl
def atM:Nat->Option Nat
 |186=>aj 261 |_=>aF
def anC:Nat->Option Nat
 |196=>aj 261 |_=>aF
def C7i(A:Prim)(W:Wd)(spec:ϕ)(stop:Nat->List Nat->Bool):Ctx:=
 {A,tys:=Tryz.tys,fns:=Tryz.fns,spec,eqs:=[261,89],Xg:=[322],L9:=stop,gls:=AZ W,live:=Tryz.live,pks:=[145],acU:=aph,ins:=atM,lend:=fun g=>g==185||g==188,grow:=anC}
instance C7.ok(spec:ϕ)(stop:Nat->List Nat->Bool):BP ak (C7 Ak W7 spec stop):=
 ⟨YH Tryz.tysB_,Px Tryz.fnsAre_,rfl,Tryz.mixed_,fun t i h hi xs ys w h1 h2 x y=>Wp (PE atK t i h hi) xs ys w h1 h2 x y,U8 atL,akR⟩
instance C7i.ok(spec:ϕ)(stop:Nat->List Nat->Bool):BP ak (C7i Ak W7 spec stop):=
 ⟨YH Tryz.tysB_,Px Tryz.fnsAre_,rfl,Tryz.mixed_,fun t i h hi xs ys w h1 h2 x y=>Wp (PE atK t i h hi) xs ys w h1 h2 x y,U8 atL,akR⟩
theorem C7.OG{spec:ϕ}{stop:Nat->List Nat->Bool}(hs:∀g F,spec g=aj F->AO ak (AZ W7) g F)(he:∀g,(spec g).isSome=ay->(Tryz.fns.get g).isSome=ay):BJ ak (C7 Ak W7 spec stop):=
 ⟨hs,fun g h=>by
  rcases h with h|h
  ·exact FY Tryz.fnsAre_ Tryz.entersB_ g (he g h)
  ·exact FY Tryz.fnsAre_ Tryz.entersB_ g h,fun _ _ _ h=>(by cases h),fun _ _ _ h=>(by cases h)⟩
theorem Ej(stop:Nat->List Nat->Bool):BJ ak (C7 Ak W7 noSpec stop):=C7.OG (fun _ _ h=>by cases h) (fun _ h=>by cases h)
def EP:Nat->Bool:=fun _=>aA
def Aw:Nat->List Nat->Bool:=fun _ _=>ay
abbrev L0:Nat:=1000000000000000000000000000000
def Ei:Nat->List Nat->Bool:=fun _ _=>aA
end Go.Proofs
namespace Go.Sx
open Go.RowKit (Below)
theorem adZ{H:Mem}{w w':World}{s:Sh}{v:Value}(hs:∀b0,(Dt s b0).2=([],b0))(hd:∀b0,Den H (fun _=>aF) (Dt s b0).1 v)(on:H.on w)(h:Below w.heap.size w w'):Dx H w s v H w':=by
 have hb (b:Nat) (o:Obj) (e:H b=aj o):b<w.heap.size:=(bC.1 (on b o e)).1;refine ⟨fun _ _ e=>e,fun b o e=>?_,h.os,h.tape,h.output,h.size,h.block,fun b hb=>.inl hb,fun b0=>⟨fun _=>aF,fun i hi=>(hi rfl).elim,fun i b hb=>by simp[bk] at hb,hd b0,?_⟩⟩
 ·rw[h.block b (hb b o e)];exact on b o e
 ·rw[hs b0]
  exact ⟨fun _ _ h=>by simp[Ed,Aq] at h,fun _ _ _ _ _ h=>by simp[Ed,Aq] at h⟩
theorem abH{P:Program}{gls:List (Nat×Sh)}{f:Nat}{F:ϵ}
  (h:∀(H:Mem) (w:World) (Bl:List Sh) (args:List Value) (φ:Sh->Prop),H.on w->DI gls H->EN H Bl args->(F Bl).All φ->
   ∃s v,φ s/\(∀b0,(Dt s b0).2=([],b0))/\(∀b0,Den H (fun _=>aF) (Dt s b0).1 v)/\Calls P f args.toArray w fun e w'=>e=.returned v/\Below w.heap.size w w'):AO P gls f F:=by
 intro H w Bl args φ on hg hr hφ;obtain ⟨s,v,hs,h1,h2,hc⟩:=h H w Bl args φ on hg hr hφ;exact hc.mono fun e w' ⟨he,hw⟩=>⟨v,s,H,he,hs,adZ h1 h2 on hw⟩
mutual
def WO:Sh->Sh
 | .os _ st n g=>.sl st n g | .agg l=>.agg (YX l) | .Az l=>.Az (YX l) |s=>s
def YX:List Sh->List Sh
 |[]=>[] |x::r=>WO x::YX r
end
def atN(H:Mem)(E:Env)(l:List (Nat×SB)):Prop:=∀i e st n g,(i,SB.own e st n g)∈l->∃v,E i=aj v/\Rep H (.sl st n g) v
theorem aap(x:Value):J3 (SV.lit x)=ay:=by cases x<;>rfl
mutual
theorem aq4:∀s:Sh,J3 (ZO s)=ay
 | .agg l=>by simpa[ZO,J3] using PK l | .Az l=>by simpa[ZO,J3] using PK l | .fn f l=>by simpa[ZO,J3] using PK l | .i _ _=>rfl | .b _=>rfl | .v x=>aap x | .pt _=>rfl | .str _=>rfl | .sl _ _ _=>rfl | .os _ _ _ _=>rfl | .DK _ _=>rfl | .er _ _=>rfl
theorem PK:∀l:List Sh,Oc (Un l)=ay
 |[]=>rfl |x::r=>by simp[Un,Oc,aq4 x,PK r]
end
theorem akS(f:Nat)(l:List Sh):J3 (.fn f (Un l))=ay:=by simpa[J3] using PK l
mutual
theorem akT{H:Mem}{E:Env}:∀(s:Sh) (b:Nat) (v:Value),atN H E (Dt s b).2.1->Den H E (Dt s b).1 v->∀b',Den H Ou (Dt (WO s) b').1 v/\(Dt (WO s) b').2=([],b')
 | .os e st n g,b,v,hf,h,b'=>by
  obtain ⟨h1,_⟩:=h;obtain ⟨u,h2,h3⟩:=hf b e st n g (by simp[Dt]);rw[h1] at h2;cases h2;exact ⟨h3,rfl⟩
 | .agg l,b,v,hf,h,b'=>by
  obtain ⟨vs,rfl,h⟩:=h;obtain ⟨h1,h2⟩:=aaq l b vs.toList hf h b';exact ⟨⟨vs,rfl,h1⟩,h2⟩
 | .Az l,b,v,hf,h,b'=>by
  obtain ⟨vs,rfl,h⟩:=h;obtain ⟨h1,h2⟩:=aaq l b vs.toList hf h b';exact ⟨⟨vs,rfl,h1⟩,h2⟩
 | .i k n,b,v,_,h,b'=>⟨h,rfl⟩ | .b x,b,v,_,h,b'=>⟨h,rfl⟩ | .v x,b,v,_,h,b'=>⟨OU (E:=E) (aap x) h,rfl⟩ | .str l,b,v,_,h,b'=>⟨h,rfl⟩ | .sl st n g,b,v,_,h,b'=>⟨h,rfl⟩ | .DK t x,b,v,_,h,b'=>⟨h,rfl⟩ | .fn f l,b,v,_,h,b'=>⟨OU (E:=E) (x:=.fn f (Un l)) (akS f l) h,rfl⟩ | .er g T,b,v,_,h,b'=>⟨h,rfl⟩ | .pt l,b,v,_,h,b'=>⟨h,rfl⟩
theorem aaq{H:Mem}{E:Env}:∀(l:List Sh) (b:Nat) (vs:List Value),atN H E (ES l b).2.1->AP H E (ES l b).1 vs->∀b',AP H Ou (ES (YX l) b').1 vs/\(ES (YX l) b').2=([],b')
 |[],_,[],_,_,_=>⟨ϖ,rfl⟩ |[],_,_::_,_,h,_=>h.elim |_::_,_,[],_,h,_=>h.elim |x::r,b,v::vs,hf,h,b'=>by
  obtain ⟨h1,h2⟩:=h;obtain ⟨q1,q2⟩:=akT x b v (fun i e st n g hm=>hf i e st n g (by simp[ES,hm])) h1 b';obtain ⟨q3,q4⟩:=aaq r _ vs (fun i e st n g hm=>hf i e st n g (by simp[ES,hm])) h2 b';simp only[YX,ES];rw[q2];simp only[ji];exact ⟨⟨q1,q3⟩,q4⟩
end
theorem Vk(hp:List (Nat×SB)):∀l l':List (Nat×SB),Ed hp (l++l')=Ed (Ed hp l) l'
 |[],_=>rfl |(i,b)::l,l'=>Vk (hins hp i b) l l'
theorem XK:∀(l:List (Nat×SB)) (i:Nat) (x:SB),Aq (Ed [] l) i=aj x->(i,x)∈l
 |[],_,_,h=>by simp[Ed,Aq] at h |(j,b)::l,i,x,h=>by
  rw[Ed,GL] at h;cases hq:Aq (Ed [] l) i with
  |some y=>
   rw[hq] at h;cases h;exact List.mem_cons_of_mem _ (XK l i _ hq)
  |none=>
   rw[hq] at h;simp only[Fb] at h;grind [Aq]
structure Vl(l:List (Nat×SB))(b c:Nat):Prop where
 le:b<=c
 rng:∀i x,(i,x)∈l->b<=i/\i<c
 own:∀i x,(i,x)∈l->∃e st n g,x=.own e st n g
 at_:∀i x,(i,x)∈l->Aq (Ed [] l) i=aj x
theorem Vl.nil(b:Nat):Vl [] b b:=⟨bM _,fun _ _ h=>by simp at h,fun _ _ h=>by simp at h,fun _ _ h=>by simp at h⟩
theorem Vl.append{l l':List (Nat×SB)}{b c d:Nat}(h:Vl l b c)(h':Vl l' c d):Vl (l++l') b d:=by
 refine ⟨Nat.le_trans h.le h'.le,fun i x hm=>?_,fun i x hm=>?_,fun i x hm=>?_⟩
 ·rcases bQ.1 hm with hm|hm
  ·have:=h.rng i x hm;have:=h'.le;omega
  ·have:=h'.rng i x hm;have:=h.le;omega
 ·rcases bQ.1 hm with hm|hm
  ·exact h.own i x hm
  ·exact h'.own i x hm
 ·rw[Vk,GL]
  rcases bQ.1 hm with hm|hm
  ·cases hq:Aq (Ed [] l') i with
   |none=>exact h.at_ i x hm |some y=>
    have h1:=h'.rng i y (XK l' i y hq);have h2:=h.rng i x hm;omega
  ·rw[h'.at_ i x hm]
mutual
theorem agX:∀(s:Sh) (b:Nat),Vl (Dt s b).2.1 b (Dt s b).2.2
 | .os e st n g,b=>by
  simp only[Dt];refine ⟨vY b,fun i x hm=>?_,fun i x hm=>?_,fun i x hm=>?_⟩<;>simp at hm<;>obtain ⟨rfl,rfl⟩:=hm
  ·omega
  ·exact ⟨_,_,_,_,rfl⟩
  ·simp[Ed,hins,Aq]
 | .agg l,b=>XL l b | .Az l,b=>XL l b | .i _ _,b=>.nil b | .b _,b=>.nil b | .v _,b=>.nil b | .str _,b=>.nil b | .sl _ _ _,b=>.nil b | .DK _ _,b=>.nil b | .fn _ _,b=>.nil b | .er _ _,b=>.nil b | .pt _,b=>.nil b
theorem XL:∀(l:List Sh) (b:Nat),Vl (ES l b).2.1 b (ES l b).2.2
 |[],b=>.nil b |x::r,b=>(agX x b).append (XL r _)
end
theorem XM:∀(ids:List Nat) (hp:List (Nat×SB)),(∀i x,Aq hp i=aj x->(∃e st n g,x=.own e st n g)\/∃st n g,x=.fz st n g)->(∀i,i∈ids->Aq hp i≠aF)->
  ∃hp',Gz ids.length hp ids=aj hp'/\(∀i st n g,Aq hp i=aj (.fz st n g)->Aq hp' i=aj (.fz st n g))/\∀i e st n g,i∈ids->Aq hp i=aj (.own e st n g)->Aq hp' i=aj (.fz st n g)
 |[],hp,_,_=>⟨hp,rfl,fun _ _ _ _ h=>h,fun _ _ _ _ _ h=>by simp at h⟩ |id::ids,hp,ho,hi=>by
  cases hl:Aq hp id with
  |none=>simp_all |some x=>
   rcases ho id x hl with ⟨e,st,n,g,rfl⟩ |⟨st,n,g,rfl⟩
   ·have look (i:Nat):Aq (hset hp id (.fz st n g)) i=bif id==i then aj (.fz st n g) else Aq hp i:=by rw[EC,hl];rfl
    obtain ⟨hp',h1,h2,h3⟩:=XM ids (hset hp id (.fz st n g)) (fun i x h=>by
     grind) (fun i hm=>by
     grind)
    grind [Gz]
   ·obtain ⟨hp',h1,h2,h3⟩:=XM ids hp ho (fun i hm=>hi i (by simp[hm]))
    grind [Gz]
theorem Dx.WO{H:Mem}{w:World}{s:Sh}{v:Value}{H':Mem}{w':World}(r:Dx H w s v H' w'):∃H2,Dx H w (WO s) v H2 w':=by
 obtain ⟨E1,h1,h2,h3,h4⟩:=r.res 0;have ids:=agX s 0;have CP:EF ⟨w,fun _=>False,H⟩ H' w':=⟨r.os,r.tape,r.output,r.size,fun b hb _=>r.old b hb,r.on,r.Ji,fun b hb=>(r.fresh b hb).imp id .inl⟩;obtain ⟨hp',a1,a2,a3⟩:=XM ((Dt s 0).2.1.map (·.1)) (Ed [] (Dt s 0).2.1) (fun i x h=>.inl (ids.own i x (XK _ i x h))) (fun i hm=>by
  obtain ⟨⟨j,x⟩,hm',rfl⟩:=eP.1 hm;show Aq _ j≠aF;rw[ids.at_ j x hm'];simp)
 obtain ⟨H2,b1,b2,b3,_⟩:=Jk a1 h4 CP;have fz:atN H2 E1 (Dt s 0).2.1:=fun i e st n g hm=>b2.ent i _ (a3 i e st n g (eP.2 ⟨_,hm,rfl⟩) (ids.at_ i _ hm));have hd:=akT s 0 v fz (Den.le b1 (fun _ _ e=>e) h3);refine ⟨H2,b3.le,b3.on,r.os,r.tape,r.output,r.size,r.old,fun b hb=>?_,fun b0=>⟨Ou,fun i hi=>(hi rfl).elim,fun i b hb=>by simp[bk,Ou] at hb,(hd b0).1,?_⟩⟩
 ·(rcases b3.fresh b hb with h|h|h)<;>simp_all
 ·rw[(hd b0).2]
  exact RP
theorem AO.WO{P:Program}{gls:List (Nat×Sh)}{f:Nat}{F F':ϵ}(h:AO P gls f F)(hF:∀Bl (φ:Sh->Prop),(F' Bl).All φ->(F Bl).All fun s=>φ (Go.Sx.WO s)):AO P gls f F':=
 fun H w Bl args φ on hg hr hφ=>(h H w Bl args _ on hg hr (hF Bl φ hφ)).mono fun _ _ ⟨v,_,_,he,hs,r⟩=>let ⟨H2,r2⟩:=r.WO;⟨v,_,H2,he,hs,r2⟩
end Go.Sx
namespace Go.Pl
open Go Go.Sx
structure Oj where
 kind:Int
 init:Int
 deriving DecidableEq,Inhabited
structure Pr where
 key:Int
 val:Int
 deriving DecidableEq,Inhabited
structure Cl where
 obj:Int
 op:Int
 key:Int
 val:Int
 deriving DecidableEq,Inhabited
def obR(o:Oj):List Sh:=[.i .i64 o.kind,.i .i64 o.init]
def prR(e:Pr):List Sh:=[.i .i64 e.key,.i .i64 e.val]
def clR(e:Cl):List Sh:=[.i .i64 e.obj,.i .i64 e.op,.i .i64 e.key,.i .i64 e.val]
def stR(s:List UInt8):List Sh:=[.str s]
def inR(n:Int):List Sh:=[.i .i64 n]
class Row(α:Type)where
 put:α->List Sh
 get:List Sh->Option α
 DL:∀l a,get l=aj a->put a=l
 get_put:∀a,get (put a)=aj a
 J4:α
instance:Row Oj where
 put:=obR
 get l:=match l with
  |[.i .i64 a,.i .i64 b]=>aj ⟨a,b⟩ |_=>aF
 DL l a h:=by
  split at h
  ·cases h;rfl
  ·cases h
 get_put a:=rfl
 J4:=⟨0,0⟩
instance:Row Pr where
 put:=prR
 get l:=match l with
  |[.i .i64 a,.i .i64 b]=>aj ⟨a,b⟩ |_=>aF
 DL l a h:=by
  split at h
  ·cases h;rfl
  ·cases h
 get_put a:=rfl
 J4:=⟨0,0⟩
instance:Row Cl where
 put:=clR
 get l:=match l with
  |[.i .i64 a,.i .i64 b,.i .i64 c,.i .i64 d]=>aj ⟨a,b,c,d⟩ |_=>aF
 DL l a h:=by
  split at h
  ·cases h;rfl
  ·cases h
 get_put a:=rfl
 J4:=⟨0,0,0,0⟩
instance:Row (List UInt8) where
 put:=stR
 get l:=match l with
  |[.str a]=>aj a |_=>aF
 DL l a h:=by
  split at h
  ·cases h;rfl
  ·cases h
 get_put a:=rfl
 J4:=[]
instance:Row Int where
 put:=inR
 get l:=match l with
  |[.i .i64 a]=>aj a |_=>aF
 DL l a h:=by
  split at h
  ·cases h;rfl
  ·cases h
 get_put a:=rfl
 J4:=0
def okB(α:Type)[Row α](n:Nat)(g:ϝ):Bool:=
 match n with
 |0=>ay |n+1=>okB α n g&&(Row.get (α:=α) (g n)).isSome
def Ap{α:Type}[Row α](g:ϝ)(i:Nat):α:=(Row.get (g i)).getD Row.J4
def lst(α:Type)[Row α](n:Nat)(g:ϝ):List α:=(aU n).map (Ap g)
def nth{α:Type}[Row α](l:List α)(i:Nat):α:=l.getD i Row.J4
def Am{α:Type}[Row α](o:Nat->α):ϝ:=fun j=>Row.put (o j)
section
variable{α:Type}[Row α]
theorem I5{n:Nat}{g:ϝ}(h:okB α n g=ay):∀i,i<n->g i=Row.put (Ap (α:=α) g i):=by
 induction n with
 |zero=>omega |succ n ih=>
  simp only[okB,aB] at h;grind [dO,Ap,Row.DL]
theorem Cb(o:Nat->α):∀n,okB α n (Am o)=ay
 |0=>rfl |n+1=>by simp[okB,Cb o n,Am,Row.get_put]
theorem Qr{g:ϝ}{o:Nat->α}:∀{n:Nat},(∀i,i<n->g i=Row.put (o i))->okB α n g=ay
 |0,_=>rfl |n+1,h=>by simp[okB,Qr (n:=n) fun i hi=>h i (by omega),h n (by omega),Row.get_put]
theorem MQ(o:Nat->α)(i:Nat):Ap (Am o) i=o i:=by simp[Ap,Am,Row.get_put]
@[simp] theorem FH (n:Nat) (g:ϝ):(lst α n g).length=n:=by simp[lst]
theorem YZ{n:Nat}{g:ϝ}{i:Nat}(h:i<n):nth (lst α n g) i=Ap g i:=by simp[nth,lst,h]
theorem ad1(o:Nat->α)(n:Nat):lst α n (Am o)=(aU n).map o:=by
 simp_all [lst,iJ,MQ]
theorem ad2(l:List α):(aU l.length).map (nth l)=l:=by
 (apply uT)<;>simp_all [nth]
theorem Hy(l:List α):lst α l.length (Am (nth l))=l:=by rw[ad1,ad2]
theorem ad3{n:Nat}{g g':ϝ}(h:∀i,i<n->g i=g' i):lst α n g=lst α n g':=by
 simp_all [lst,Ap,eF]
end
theorem DT{H:Mem}{st n:Nat}{g g':ϝ}{v:Value}(h:Rep H (.sl st n g) v)(hg:∀j,j<n->g j=g' j):Rep H (.sl st n g') v:=by
 cases h with
 |sl0 _ _ A cap hc=>exact .sl0 _ _ _ _ hc |sl _ _ _ b off cap c h1 h2 h3 h4 h5 h6=>exact .sl _ _ _ b off cap c h1 h2 (fun i hi=>by simp_all) h4 h5 fun i j s hi e=>h6 i j s hi (by simp_all)
theorem CY{α:Type}[Row α]{H:Mem}{st n:Nat}{g:ϝ}{v:Value}(h:Rep H (.sl st n g) v)(hg:okB α n g=ay):Rep H (.sl st n (Am (Ap (α:=α) g))) v:=
 DT h fun j hj=>I5 hg j hj
def len{α:Type}(l:List α):Nat:=l.length
open Go Go.Sx
theorem Ar(a b:Int):Ak.lt a b=decide (a<b):=rfl
theorem CS(a b:Int):Ak.le a b=decide (a<=b):=rfl
theorem AQ(a b:Int):Ak.eq a b=(a==b):=rfl
theorem AX(a:Int)(n:Nat):Ak.inB a n=decide (0<=a/\a<n):=rfl
theorem EX(a:Int)(n:Nat):Ak.upTo a n=decide (0<=a/\a<=n):=rfl
theorem Em(n b:Nat):Ak.room n b=decide (n*b<=140737488355328/\n<=maxLen):=rfl
theorem Cm(a:Int):Ak.toN a=a.toNat:=rfl
theorem AL(n:Nat):Ak.AV n=(n:Int):=rfl
theorem Dl(n m:Nat):Ak.addN n m=n+m:=rfl
theorem ad4(n m:Nat):Ak.E5 n m=n - m:=rfl
theorem aar(n m:Nat):Ak.leN n m=decide (n<=m):=rfl
theorem BG(b:Bool):Ak.nt b=!b:=rfl
theorem agY(a b c:Bool):Ak.ite a b c=bif a then b else c:=rfl
theorem aq5(a b:Bool):Ak.beq a b=(a==b):=rfl
theorem aq6(a b:List UInt8):Ak.seq a b=(a==b):=rfl
theorem Ef(a b:Int):Ak.add .i64 a b=bD.wrap (a+b):=rfl
theorem OV(a b:Int):Ak.sub .i64 a b=bD.wrap (a - b):=rfl
theorem JC(a b:Int):Ak.max a b=if b>a then b else a:=rfl
theorem Dn(g:ϝ)(n:Nat)(h:ϝ)(i:Nat):Ak.snoc g n h i=if i<n then g i else h (i - n):=rfl
theorem CU{a:Int}(h1:-9223372036854775808<=a)(h2:a<=9223372036854775807):bD.wrap a=a:=by
 rw[IntKind.wrap_i64];omega
theorem I7:ah 1=1:=rfl
theorem maxLen_eq:maxLen=9223372036854775807:=rfl
theorem aas{α:Type}[Row α]{k:Nat}{o:Nat->α}{l:List (List Sh)}(h:Bh l 0=Row.put (o k)):∀i,i<k+1->Ak.snoc (Am o) k (Bh l) i=Am o i:=fun i hi=>by
 rw[Dn];split
 ·rfl
 ·have:i=k:=by omega
  subst this;rw[gK,h];rfl
def Cc(n b:Nat):Bool:=Ak.room n b
structure A8 where
 kind:Int
 num:Int
 q:List Int
 ps:List Pr
 deriving DecidableEq,Inhabited
def DU(s:A8):List Sh:=[.i .i64 s.kind,.i .i64 s.num,.sl 1 (len s.q) (Am (nth s.q)),.sl 2 (len s.ps) (Am (nth s.ps))]
def Df(d:Nat->A8):ϝ:=fun j=>DU (d j)
end Go.Pl
namespace Go.Proofs
open Go.Shelf
def Tryz.lays156_ren:uU:=⟨fun|156=>106|165=>133|166=>134|169=>135|240=>154|241=>155|276=>175|277=>176|n=>n,fun|31=>229|9=>9|3=>3|4=>4|0=>0|20=>20|72=>266|76=>57|70=>263|37=>264|75=>46|127=>279|164=>292|5=>5|80=>202|n=>n,fun|n=>n⟩
theorem Tryz.lays156:yG ak Tryz.lays156_ren:={
 mixed:=by kernel_rfl
 f156:=xR.trans (congrArg aj (by kernel_rfl))
 f165:=xW.trans (congrArg aj (by kernel_rfl))
 f166:=xX.trans (congrArg aj (by kernel_rfl))
 f169:=xU.trans (congrArg aj (by kernel_rfl))
 f240:=x9.trans (congrArg aj (by kernel_rfl))
 f241:=xZ.trans (congrArg aj (by kernel_rfl))
 f276:=Tryz.func175.trans (congrArg aj (by kernel_rfl))
 f277:=Tryz.func176.trans (congrArg aj (by kernel_rfl))
 t0:=uV
 a0:=zk
 z0:=yH
 v0:=vZ
 t3:=lg
 a3:=zl
 z3:=yI
 v3:=wo
 t4:=uX
 a4:=zn
 z4:=yJ
 v4:=wu
 t9:=kR
 a9:=zo
 z9:=yK
 v9:=wz
 t20:=tV
 a20:=yL
 z20:=xA
 v20:=uY
 t31:=Tryz.underlying229
 a31:=Tryz.isAgg229
 z31:=Tryz.sizeOf229
 v31:=Tryz.zeroValue229
 t37:=su
 a37:=xB
 z37:=wM
 v37:=tX
 t70:=Tryz.underlying263
 a70:=Tryz.isAgg263
 z70:=Tryz.sizeOf263
 v70:=Tryz.zeroValue263
 t72:=Tryz.underlying266
 a72:=Tryz.isAgg266
 z72:=Tryz.sizeOf266
 v72:=Tryz.zeroValue266
 t75:=Tryz.underlying46
 a75:=Tryz.isAgg46
 z75:=Tryz.sizeOf46
 v75:=Tryz.zeroValue46
 t76:=Tryz.underlying57
 a76:=Tryz.isAgg57
 z76:=Tryz.sizeOf57
 v76:=Tryz.zeroValue57
 t127:=Tryz.underlying279
 a127:=Tryz.isAgg279
 z127:=Tryz.sizeOf279
 v127:=Tryz.zeroValue279
 t164:=Tryz.underlying292
 a164:=Tryz.isAgg292
 z164:=Tryz.sizeOf292
 v164:=Tryz.zeroValue292}
theorem Tryz.Builder_Extra_156:Builder.Extra ak Tryz.lays156_ren:={
 sizeBuilder:=by kernel_rfl
 liesBuilder:=by kernel_rfl
 t5:=uZ
 a5:=zq
 z5:=yM
 v5:=wB
 infoByte:=by kernel_rfl
 cellsByte:=by kernel_rfl
 sizeByte:=by kernel_rfl
 neB5:=by decide}
open Go.RowKit in
theorem Tryz.strings_Join_none(a:Option Addr)(c:Nat)(sep:ByteArray)(w:World):
  Calls ak 106 #[.slice a 0 c,.string sep] w fun e w'=>e=.returned (.string ⟨#[]⟩)/\w'=w:=Any.strings_Join_none Tryz.lays156 Tryz.Builder_Extra_156 a c sep w
open Go.RowKit in
theorem Tryz.strings_Join(bk o c:Nat)(xs:List ByteArray)(sep:ByteArray)(w:World)(hcells:∀(j:Nat) x,xs[j]?=aj x->w.cell? ⟨bk,o+j,aF⟩=aj (.string x))(hbk:bk<w.heap.size)(hN:xs.length<=140737488355328)(hcap:xs.length<=c)(hlen:(Lib.join (xs.map (·.data.toList)) sep.data.toList).length<=140737488355328):
  Calls ak 106 #[.slice (aj ⟨bk,o,aF⟩) xs.length c,.string sep] w fun e w'=>e=.returned (.string ⟨(Lib.join (xs.map (·.data.toList)) sep.data.toList).toArray⟩)/\Below w.heap.size w w':=Any.strings_Join Tryz.lays156 Tryz.Builder_Extra_156 bk o c xs sep w hcells hbk hN hcap hlen
def Tryz.laysM171_ren:uU:=⟨fun|171=>153|243=>174|246=>191|283=>197|284=>198|285=>199|286=>200|129=>203|317=>202|318=>204|319=>205|320=>206|337=>208|338=>209|n=>n,fun|3=>3|9=>9|2=>2|4=>4|171=>307|0=>0|53=>308|37=>264|5=>5|173=>311|212=>314|51=>315|20=>20|213=>316|46=>109|232=>320|233=>321|n=>n,fun|17=>22|18=>23|19=>24|n=>n⟩
theorem Tryz.laysM171:xC ak Tryz.laysM171_ren:={
 mixed:=by kernel_rfl
 f129:=yx.trans (congrArg aj (by kernel_rfl))
 f171:=xY.trans (congrArg aj (by kernel_rfl))
 f243:=yc.trans (congrArg aj (by kernel_rfl))
 f246:=yh.trans (congrArg aj (by kernel_rfl))
 f283:=yj.trans (congrArg aj (by kernel_rfl))
 f284:=yg.trans (congrArg aj (by kernel_rfl))
 f285:=yw.trans (congrArg aj (by kernel_rfl))
 f286:=yu.trans (congrArg aj (by kernel_rfl))
 f317:=yA.trans (congrArg aj (by kernel_rfl))
 f318:=yt.trans (congrArg aj (by kernel_rfl))
 f319:=yC.trans (congrArg aj (by kernel_rfl))
 f320:=yB.trans (congrArg aj (by kernel_rfl))
 f337:=yF.trans (congrArg aj (by kernel_rfl))
 f338:=yE.trans (congrArg aj (by kernel_rfl))
 t0:=uV
 a0:=zk
 z0:=yH
 v0:=vZ
 t2:=Tryz.underlying2
 a2:=Tryz.isAgg2
 z2:=Tryz.sizeOf2
 v2:=Tryz.zeroValue2
 t3:=lg
 a3:=zl
 z3:=yI
 v3:=wo
 t4:=uX
 a4:=zn
 z4:=yJ
 v4:=wu
 t5:=uZ
 a5:=zq
 z5:=yM
 v5:=wB
 t9:=kR
 a9:=zo
 z9:=yK
 v9:=wz
 t20:=tV
 a20:=yL
 z20:=xA
 v20:=uY
 t37:=su
 a37:=xB
 z37:=wM
 v37:=tX
 t46:=Tryz.underlying109
 a46:=Tryz.isAgg109
 z46:=Tryz.sizeOf109
 v46:=Tryz.zeroValue109
 t51:=Tryz.underlying315
 a51:=Tryz.isAgg315
 z51:=Tryz.sizeOf315
 v51:=Tryz.zeroValue315
 t53:=Tryz.underlying308
 a53:=Tryz.isAgg308
 z53:=Tryz.sizeOf308
 v53:=Tryz.zeroValue308
 t171:=Tryz.underlying307
 a171:=Tryz.isAgg307
 z171:=Tryz.sizeOf307
 v171:=Tryz.zeroValue307
 t173:=Tryz.underlying311
 a173:=Tryz.isAgg311
 z173:=Tryz.sizeOf311
 v173:=Tryz.zeroValue311
 t212:=Tryz.underlying314
 a212:=Tryz.isAgg314
 z212:=Tryz.sizeOf314
 v212:=Tryz.zeroValue314
 t213:=Tryz.underlying316
 a213:=Tryz.isAgg316
 z213:=Tryz.sizeOf316
 t232:=Tryz.underlying320
 a232:=Tryz.isAgg320
 z232:=Tryz.sizeOf320
 v232:=Tryz.zeroValue320
 t233:=Tryz.underlying321
 a233:=Tryz.isAgg321
 z233:=Tryz.sizeOf321
 v233:=Tryz.zeroValue321
 g17:=by kernel_rfl
 g18:=by kernel_rfl
 g19:=by kernel_rfl
 i0:=by kernel_rfl
 i2:=by kernel_rfl
 i3:=by kernel_rfl
 i4:=by kernel_rfl
 i5:=by kernel_rfl
 i9:=by kernel_rfl
 i20:=by kernel_rfl
 i37:=by kernel_rfl
 i46:=by kernel_rfl
 i51:=by kernel_rfl
 i53:=by kernel_rfl
 i171:=by kernel_rfl
 i173:=by kernel_rfl
 i212:=by kernel_rfl
 i232:=by kernel_rfl
 i233:=by kernel_rfl
 m17:=by kernel_rfl
 m18:=by kernel_rfl
 m19:=by kernel_rfl}
open Go.RowKit Go.Sort Go.Lib in
theorem Tryz.strconv_Itoa(n:Int)(h0:-9223372036854775808<=n)(h1:n<=9223372036854775807)(w:World)(htab:wC ak w "internal/strconv.uint64pow10" .u64 qj) :
  Calls ak 153 #[.int .i64 n] w fun e w'=>e=.returned (.string ⟨(Lib.itoa n).toArray⟩)/\∃k os,w'=grow (w.drewN k) os:=Any.strconv_Itoa Tryz.laysM171 n h0 h1 w htab
end Go.Proofs
namespace Go.Pl
open Go Go.Sx
def BK(n:Int):List UInt8:=Go.Lib.itoa n
def Eb(l:List (List UInt8))(sep:List UInt8):List UInt8:=Go.Lib.join l sep
def DN(n:Int):Bool:=decide (-9223372036854775808<=n/\n<=9223372036854775807)
def JD(l:List UInt8):Bool:=decide (l.length<=140737488355328)
end Go.Pl
namespace Go.Proofs
open Go Go.Sx Go.Pl Go.RowKit Go.Sort Go.Lib
theorem aq7{H:Mem}{k:IntKind}{n:Int}{v:Value}(h:Rep H (.i k n) v):v=.int k n:=by cases h;rfl
theorem akV{H:Mem}{l:List UInt8}{v:Value}(h:Rep H (.str l) v):v=.string ⟨l.toArray⟩:=by cases h;rfl
theorem af6(w:World)(k:Nat)(os:Array Obj):Below w.heap.size w (grow (w.drewN k) os):=
 ⟨rfl,rfl,rfl,by simp,fun j hj=>by
  show (w.heap++os)[j]?=w.heap[j]?;grind⟩
theorem aCt{H:Mem}{w:World}(on:H.on w)(hg:DI (AZ W7) H):wC ak w "internal/strconv.uint64pow10" .u64 qj:=by
 obtain ⟨⟨cs,e,f,h1,h2⟩,c,h3,h4⟩:GI H 22 (.Az (pow10.map (aQ .u64))):=hg.at_ 22 _ (by rfl);have hgl:ak.globalNamed "internal/strconv.uint64pow10" = aj 22:=by kernel_rfl
 unfold wC World.var?;rw[hgl];simp only[Option.bind_some];rw[on _ _ h1];simp only[jS];apply Array.ext
 ·rw[h2];rfl
 ·intro i hi hi2
  have hi':i<(pow10.map (aQ .u64)).length:=by omega
  obtain ⟨q1,_⟩:=h3 i hi';have q3:cs[i]?=aj (c i):=by simp_all [hcell]
  have hip:i<pow10.length:=by grind
  have q4:=h4 i (.i .u64 pow10[i]) (by simp);have q5:c i=.int .u64 pow10[i]:=aq7 q4;rw[Array.getElem?_eq_getElem hi] at q3;rw[bP q3,q5];have e:qj=pow10:=by decide
  simp[e]
def F92:ϵ
 |[.i .i64 n]=>.need (DN n) (.leaf (.str (BK n))) |_=>.fail
theorem O92:AO ak (AZ W7) 153 F92:=abH fun H w Bl args φ on hg hr h=>by
 unfold F92 at h;split at h
 ·obtain ⟨h1,h2⟩:=h
  match args,hr with
  |[v],⟨hv,_⟩=>
   cases hv;have h1:=ϑ h1;exact ⟨_,_,h2,fun _=>rfl,fun _=>.str _,(Tryz.strconv_Itoa _ h1.1 h1.2 w (aCt on hg)).mono fun e w' ⟨he,k,os,hw⟩=>⟨he,by simp_all [af6]⟩⟩
 ·exact h.elim
def F56:ϵ
 |[.sl 1 n g,.str sep]=>.need (okB (List UInt8) n g) (.need (Cc n 16) (.need (JD (Eb (lst (List UInt8) n g) sep)) (.leaf (.str (Eb (lst (List UInt8) n g) sep))))) |_=>.fail
theorem O56:AO ak (AZ W7) 106 F56:=abH fun H w Bl args φ on hg hr h=>by
 unfold F56 at h;split at h
 ·rename_i n g sep
  obtain ⟨h1,h2,h3,h4⟩:=h;match args,hr with
  |[v,u],⟨hv,hu,_⟩=>
   cases hu;have h3:=ϑ h3;refine ⟨_,_,h4,fun _=>rfl,fun _=>.str _,?_⟩;cases hv with
   |sl0 _ _ A cap hc=>
    refine (Tryz.strings_Join_none A cap ⟨sep.toArray⟩ w).mono fun e w' ⟨he,hw⟩=>⟨?_,hw ▸ zu _ _⟩;rw[he];rfl
   |sl _ _ _ b off cap c q1 q2 q3 q4 q5 q6=>
    have hs:∀i,i<n->c i 0=.string ⟨(Ap (α:=List UInt8) g i).toArray⟩:=fun i hi=>
     akV (q6 i 0 (.str (Ap (α:=List UInt8) g i)) hi (by rw[I5 h1 i hi];rfl))
    have hcell:∀i,i<n->w.cell? ⟨b,off+i,aF⟩=aj (.string ⟨(Ap (α:=List UInt8) g i).toArray⟩):=fun i hi=>by
     grind [OO]
    by_cases hn:n=0
    ·subst hn
     refine (Tryz.strings_Join_none _ cap ⟨sep.toArray⟩ w).mono fun e w' ⟨he,hw⟩=>⟨?_,hw ▸ zu _ _⟩;rw[he];rfl
    have hb:b<w.heap.size:=by
     have:=hcell 0 (by omega);grind [World.cell?,bC]
    have hl:(((lst (List UInt8) n g).map fun l=>(⟨l.toArray⟩:ByteArray)).map (·.data.toList))=lst (List UInt8) n g:=by
     simp_all [Function.comp_def]
    have hlen:((lst (List UInt8) n g).map fun l=>(⟨l.toArray⟩:ByteArray)).length=n:=by simp
    have:=Tryz.strings_Join b off cap ((lst (List UInt8) n g).map fun l=>(⟨l.toArray⟩:ByteArray)) ⟨sep.toArray⟩ w (fun j x hx=>by
     have hj:j<n:=by
      grind
     simp_all [lst]) hb (by rw[hlen];have:=ϑ h2;omega) (by omega) (by rw[hl];exact h3)
    rw[hl,hlen] at this;exact this
 ·exact h.elim
end Go.Proofs
namespace Go.Sx
mutual
def Wk:Sh->Sh->Prop
 | .os _ st n g,s'=>match s' with
  | .sl st' n' g'=>(n=0/\n'=0)\/(st=st'/\n=n'/\∀i,i<n->g i=g' i) |_=>False
 | .sl st n g,s'=>match s' with
  | .sl st' n' g'=>(n=0/\n'=0)\/(st=st'/\n=n'/\∀i,i<n->g i=g' i) |_=>False
 | .agg l,s'=>match s' with
  | .agg l'=>Qd l l' |_=>False
 | .Az l,s'=>match s' with
  | .Az l'=>Qd l l' |_=>False
 | .b x,s'=>s'=.b x\/s'=.v (.bool x) |s,s'=>s=s'
def Qd:List Sh->List Sh->Prop
 |[],[]=>True |x::l,y::r=>Wk x y/\Qd l r |_,_=>False
end
theorem Gg{H:Mem}{st n:Nat}{g:ϝ}{v:Value}(h:Rep H (.sl st n g) v){st' n':Nat}{g':ϝ}(hw:(n=0/\n'=0)\/(st=st'/\n=n'/\∀i,i<n->g i=g' i)):Rep H (.sl st' n' g') v:=by
 rcases hw with ⟨rfl,rfl⟩ |⟨rfl,rfl,hg⟩
 ·cases h with
  |sl0 _ _ A cap hc=>exact .sl0 _ _ _ _ hc |sl _ _ _ b off cap c h1 h2 h3 h4 h5 h6=>exact .sl0 _ _ _ _ h2
 ·cases h with
  |sl0 _ _ A cap hc=>exact .sl0 _ _ _ _ hc |sl _ _ _ b off cap c h1 h2 h3 h4 h5 h6=>exact .sl _ _ _ b off cap c h1 h2 (fun i hi=>by simp_all) h4 h5 fun i j s hi e=>h6 i j s hi (by simp_all)
mutual
theorem aiw{H:Mem}:∀(s s':Sh) (b b':Nat) (v:Value),Wk s s'->Den H Ou (Dt (WO s) b).1 v->Den H Ou (Dt s' b').1 v/\(Dt s' b').2=([],b')
 | .os e st n g,s',b,b',v,hw,h=>by
  cases s'<;>simp only[Wk] at hw
  rename_i st' n' g';exact ⟨Gg (show Rep H (.sl st n g) v from h) hw,rfl⟩
 | .sl st n g,s',b,b',v,hw,h=>by
  cases s'<;>simp only[Wk] at hw
  rename_i st' n' g';exact ⟨Gg (show Rep H (.sl st n g) v from h) hw,rfl⟩
 | .agg l,s',b,b',v,hw,h=>by
  cases s'<;>simp only[Wk] at hw
  rename_i l';obtain ⟨vs,rfl,h⟩:=h;obtain ⟨q1,q2⟩:=ad5 l l' b b' vs.toList hw h;exact ⟨⟨vs,rfl,q1⟩,q2⟩
 | .Az l,s',b,b',v,hw,h=>by
  cases s'<;>simp only[Wk] at hw
  rename_i l';obtain ⟨vs,rfl,h⟩:=h;obtain ⟨q1,q2⟩:=ad5 l l' b b' vs.toList hw h;exact ⟨⟨vs,rfl,q1⟩,q2⟩
 | .b x,s',b,b',v,hw,h=>by
  simp only[Wk] at hw;rcases hw with rfl|rfl
  ·exact ⟨h,rfl⟩
  ·exact ⟨h,rfl⟩
 | .i k n,s',b,b',v,hw,h=>by simp only[Wk] at hw;subst hw;exact ⟨h,rfl⟩ | .v x,s',b,b',v,hw,h=>by simp only[Wk] at hw;subst hw;exact ⟨h,rfl⟩ | .str l,s',b,b',v,hw,h=>by simp only[Wk] at hw;subst hw;exact ⟨h,rfl⟩ | .DK t x,s',b,b',v,hw,h=>by simp only[Wk] at hw;subst hw;exact ⟨h,rfl⟩ | .fn f l,s',b,b',v,hw,h=>by simp only[Wk] at hw;subst hw;exact ⟨h,rfl⟩ | .er g T,s',b,b',v,hw,h=>by simp only[Wk] at hw;subst hw;exact ⟨h,rfl⟩ | .pt l,s',b,b',v,hw,h=>by simp only[Wk] at hw;subst hw;exact ⟨h,rfl⟩
theorem ad5{H:Mem}:∀(l l':List Sh) (b b':Nat) (vs:List Value),Qd l l'->AP H Ou (ES (YX l) b).1 vs->AP H Ou (ES l' b').1 vs/\(ES l' b').2=([],b')
 |[],[],_,_,[],_,_=>⟨ϖ,rfl⟩ |[],_::_,_,_,_,hw,_=>by simp[Qd] at hw |_::_,[],_,_,_,hw,_=>by simp[Qd] at hw |[],[],_,_,_::_,_,h=>h.elim |_::_,_::_,_,_,[],_,h=>h.elim |x::l,y::r,b,b',v::vs,hw,h=>by
  simp only[Qd] at hw;obtain ⟨h1,h2⟩:=h;obtain ⟨q1,q2⟩:=aiw x y b b' v hw.1 h1;obtain ⟨q3,q4⟩:=ad5 l r _ b' vs hw.2 h2;simp only[ES];rw[q2];simp only[ji];exact ⟨⟨q1,q3⟩,q4⟩
end
mutual
theorem agZ:∀(s:Sh) (b:Nat),J3 (Dt (WO s) b).1=ay
 | .os _ _ _ _,_=>rfl | .agg l,b=>by simpa[WO,Dt,J3] using XO l b | .Az l,b=>by simpa[WO,Dt,J3] using XO l b | .i _ _,_=>rfl | .b _,_=>rfl | .v x,_=>aap x | .str _,_=>rfl | .sl _ _ _,_=>rfl | .DK _ _,_=>rfl | .fn f l,_=>akS f l | .er _ _,_=>rfl | .pt _,_=>rfl
theorem XO:∀(l:List Sh) (b:Nat),Oc (ES (YX l) b).1=ay
 |[],_=>rfl |x::r,b=>by simp[YX,ES,Oc,agZ x b,XO r]
end
theorem Dx.wk{H:Mem}{w:World}{s s':Sh}{v:Value}{H':Mem}{w':World}(r:Dx H w s v H' w')(hw:Wk s s'):∃H2,Dx H w s' v H2 w':=by
 obtain ⟨H2,r⟩:=r.WO;obtain ⟨E1,h1,h2,h3,h4⟩:=r.res 0;have hd0:Den H2 Ou (Dt (Go.Sx.WO s) 0).1 v:=OU (E:=E1) (agZ s 0) h3;refine ⟨H2,r.Ji,r.on,r.os,r.tape,r.output,r.size,r.old,r.fresh,fun b0=>⟨Ou,fun i hi=>(hi rfl).elim,fun i b hb=>by simp[bk,Ou] at hb,(aiw s s' 0 b0 v hw hd0).1,?_⟩⟩;rw[(aiw s s' 0 b0 v hw hd0).2];exact RP
def up(φ:Sh->Prop)(s:Sh):Prop:=∃s',Wk s s'/\φ s'
def Dy:Nat->Bool:=fun _=>aA
theorem UE{P:Program}{C:Ctx}{H0:Mem}{w0:World}[hC:BP P C](hF:BJ P C)(m n:Nat)(ts:List Py){g:Nat}{td:List It}{c:Core}{stk:List Fr}{R:Hp->Prop}{φ:Sh->Prop}(h:(BD C Dy m n g td c stk ts).All (IV P C (K0 H0 w0) ts R φ)):AB P C (K0 H0 w0) g td c stk R φ:=CW _ hF m n ts h
section
variable{P:Program}{C:Ctx}
theorem Y0(hC:BP P C){g:Nat}{fn:Func}(hfn:C.fns.get g=aj fn)(hb:fn.body.isSome=ay){H:Mem}{w:World}{FD:List Sh}{args:List Value}{φ:Sh->Prop}{L:Nat}(hon:H.on w)(hg:DI C.gls H)(hr:EN H FD args)
  (hgo:AB P C (K0 H w) g [.code []] (BH fn.ntmps FD L) [] emp φ):Calls P g args.toArray w fun e w'=>∃v s H',e=.returned v/\φ s/\Dx H w s v H' w':=by
 obtain ⟨body,hbody⟩:=dO.1 hb;have hP:=hC.fn g fn hfn;intro cs;let a:Act:={tmps:=args.toArray++Array.replicate (fn.ntmps - args.toArray.size) undef,defers:=[]}
 have hlen:=hr.length;have st:St C (K0 H w) H E0 w (BH fn.ntmps FD L) a:=by
  refine ⟨?_,⟨fun _ _ h=>by simp[BH,Aq] at h,fun _ _ _ _ _ h=>by simp[BH,Aq] at h⟩,⟨rfl,rfl,rfl,bM _,fun _ _ _=>rfl,hon,fun _ _ h=>h,fun _ h=>.inl h⟩,fun _ _ _=>rfl,hg,rfl⟩;have:a.tmps.toList=args++dD (fn.ntmps - FD.length) undef:=by simp[a,hlen]
  rw[this];exact (Md hr).append (AP.any _ _ (by simp))
 have hit:Dp (AU fn) [.code []] [.code body]:=by
  have:=Dp.code (body:=AU fn) [] Dp.nil;simp_all [BA,AU]
 obtain ⟨a',w',v,s,H',todo,fn0,q0,q1,q2,q3,q4,q5⟩:=hgo H E0 w a [.code body] [] cs fn hfn st hit trivial U7;exact ⟨.returned v,w',_,⟨v,s,H',rfl,q3,q4⟩,by rw[Qp hP hbody];exact q1,rfl,rfl,q2,rfl,fn,hP,by cases hfn.symm.trans q0;exact q5⟩
theorem CG(C:Ctx)[hC:BP P C](fn:Func){g:Nat}{F:ϵ}
  (h:∀(H:Mem) (w:World) (Bl:List Sh) (args:List Value) (φ:Sh->Prop),EN H Bl args->(F Bl).All φ->∃FD:List Sh,EN H FD args/\∃L,AB P C (K0 H w) g [.code []] (BH fn.ntmps FD L) [] emp (up φ)) (hfn:C.fns.get g=aj fn:=by kernel_rfl) (hb:fn.body.isSome=ay:=by kernel_rfl):AO P C.gls g F:=by
 intro H w Bl args φ hon hg hr hφ;obtain ⟨FD,hr',L,hgo⟩:=h H w Bl args φ hr hφ;refine (Y0 hC hfn hb hon hg hr' hgo).mono fun e w' ⟨v,s,H',he,⟨s',hw,hs⟩,r⟩=>?_;obtain ⟨H2,r2⟩:=r.wk hw;grind
theorem CV[hC:BP P C](hF:BJ P C)(m n L:Nat)(fn:Func){g:Nat}{F:ϵ}
  (h:∀(H:Mem) (w:World) (Bl:List Sh) (args:List Value) (φ:Sh->Prop),EN H Bl args->(F Bl).All φ->∃FD:List Sh,EN H FD args/\(BD C Dy m n g [.code []] (BH fn.ntmps FD L) [] []).All (IV P C (K0 H w) [] emp (up φ))) (hfn:C.fns.get g=aj fn:=by kernel_rfl) (hb:fn.body.isSome=ay:=by kernel_rfl):AO P C.gls g F:=
 CG C fn (hfn:=hfn) (hb:=hb) fun H w Bl args φ hr hφ=>let ⟨FD,hr',ha⟩:=h H w Bl args φ hr hφ;⟨FD,hr',L,CW _ hF _ _ _ ha (hC:=hC)⟩
end
end Go.Sx
namespace Go.Proofs
open Go Go.Sx Go.Pl
def ag0(n:Nat)(o:Nat->Int)(i:Int)(k:Nat)(gg:ϝ):Core:={tm:=[.sh (.sl 1 n (Am o)),.any,.any,.gs 0,.sym .i64 i]++rep [.any] 17,hp:=[(0,.own 3 1 k gg)],nx:=1,lim:=L0,tc:=[]}
def LZ:List It:=[aK [0,1,0,1,1],aX 0,aK [1,1,1]]
def Y1:List It:=[aK [0,0,1,0,1,1],aK [0,1,0,1,1],aX 0,aK [1,1,1]]
def Ov:List It:=[aK [0,1,0,1,1],aX 0,aK [1,1,1]]
def ay8:List It:=[aK [0,0,1,0,1,1],aK [0,1,0,1,1],aX 0,aK [1,1,1]]
theorem a13(A:Prim)(W:Wd)(n:Nat)(o:Nat->Int)(i':Int)(k':Nat)(Je:ϝ):BD (C7 A W noSpec Aw) EP 300 200 92 [.code []] (BH 22 [.sl 1 n (Am o)] L0) [] [⟨92,LZ,ag0 n o i' k' Je,[]⟩]=aH (A.le (ah 0) (A.AV n)) (aH (A.room (A.toN (A.AV n)) 8) (aJ (bU 0 [aW (aG 1 n (Am o)) (aG 1 n (Am o)),aC (ah 0) i',aZ 0 k',bY 0 (fun _=>[]) Je]))):=by kernel_rfl
theorem b13(A:Prim)(W:Wd)(n:Nat)(o:Nat->Int)(i i':Int)(k k':Nat)(gg Je:ϝ):BD (C7 A W noSpec Aw) EP 300 200 92 Y1 (ag0 n o i k gg) [] [⟨92,LZ,ag0 n o i' k' Je,[]⟩]=aP (A.lt i (A.AV n)) (aH (A.inB i n) (aH (A.room (A.addN k 1) 8) (aJ (bU 0 [aW (aG 1 n (Am o)) (aG 1 n (Am o)),aC (A.add .i64 i (ah 1)) i',aZ (A.addN k 1) k',bY (A.addN k 1) (A.snoc gg k (Bh [[aQ .i64 (o (A.toN i))]])) Je])))) (aJ (aN (fF 3 1 k gg))):=by kernel_rfl
end Go.Proofs
namespace Go.Pl
open Go Go.Sx
end Go.Pl
namespace Go.Proofs
open Go Go.Sx Go.Pl
def F13:ϵ
 |[.sl 1 n g]=>.need (okB Int n g) (.need (Cc n 8) (.leaf (.os 3 1 n (Am (Ap (α:=Int) g))))) |_=>.fail
theorem apj{H0:Mem}{w0:World}{n:Nat}{o:Nat->Int}{φ:Sh->Prop}(hr:Ak.room n 8=ay)(hφ:φ (.os 3 1 n (Am o))):
  ∀m k,k+m=n->AB ak (C7 Ak W7 noSpec Aw) (K0 H0 w0) 92 LZ (ag0 n o k k (Am o)) [] emp φ
 |m,k,hk=>by
  obtain ⟨hr1,hr2⟩:=Fg hr;rw[maxLen_eq] at hr2;refine D6 qx Y1 ?_;refine CW EP (Ej _) 300 200 [⟨92,LZ,ag0 n o (k+1:Nat) (k+1) (Am o),[]⟩] ?_;rw[b13 Ak W7 n o k (k+1:Nat) k (k+1) (Am o) (Am o)];refine ⟨fun h=>⟨?_,?_,⟨rfl,?_,rfl,?_,ϖ⟩,_,rfl,?_⟩,fun h=>?_⟩
  ·simp_all [Ar,AL,AX]
  ·grind [Ar,AL,Dl,Em,maxLen_eq]
  ·grind [Ar,AL,xE,Ef,I7,CU]
  ·exact aas rfl
  ·simp[Ar,AL] at h
   match m,hk with
   |0,hk=>omega |m+1,hk=>exact apj hr hφ m (k+1) (by omega)
  ·simp[Ar,AL] at h
   obtain rfl:k=n:=by omega
   exact hφ
theorem O13:AO ak (AZ W7) 92 F13:=by
 refine JA (C7 Ak W7 noSpec Aw) qx fun H w Bl args φ hrep h=>?_
 unfold F13 at h;split at h
 ·rename_i n g
  obtain ⟨h1,h2,h3⟩:=h;have h2:Ak.room n 8=ay:=h2;match args,hrep with
  |[v],⟨hv,_⟩=>
   refine ⟨[.sl 1 n (Am (Ap (α:=Int) g))],⟨CY hv h1,ϖ⟩,L0,?_⟩;refine CW EP (Ej _) 300 200 [⟨92,LZ,ag0 n (Ap g) (0:Nat) 0 (Am (Ap (α:=Int) g)),[]⟩] ?_;have hn:qx.ntmps=22:=by kernel_rfl
   rw[hn,a13 Ak W7 n (Ap g) (0:Nat) 0 (Am (Ap (α:=Int) g))];refine ⟨by rfl,by assumption,⟨rfl,rfl,rfl,fun j hj=>by omega,ϖ⟩,_,rfl,apj h2 h3 n 0 (by omega)⟩
 ·exact h.elim
end Go.Proofs
namespace Go.Pl
open Go Go.Sx
def Bd:Sh->Option Int
 | .i .i64 c=>aj c | .v (.int .i64 c)=>aj c |_=>aF
def Fh(c:Int):List UInt8:=if c=1 then Go.Proofs.W7 15 0 else if c=2 then Go.Proofs.W7 15 1 else if c=3 then Go.Proofs.W7 15 2 else if c=4 then Go.Proofs.W7 15 3 else []
end Go.Pl
namespace Go.Proofs
open Go Go.Sx Go.Pl
def F58:ϵ
 |[t,s]=>match Bd t,Bd s with
  |some b,aj c=>.need (b==1) (.need (DN c) (.leaf (.str (Fh c)))) |_,_=>.fail
 |_=>.fail
def G5:ϕ
 |153=>aj F92 |106=>aj F56 |119=>aj F58 |_=>aF
theorem a65(A:Prim)(W:Wd)(k i:Int):BD (C7 A W G5 Aw) Dy 300 400 94 [.code []] (BH 36 [.agg [.i .i64 k,.i .i64 i]] L0) [] []=aP (A.eq k (ah 1)) (aH ay (aH (DN k) (aP (A.seq (Fh k) []) (aJ (aN (dP 6 322))) (aP (A.lt i (gZ 999999999)) (aJ (aN (dP 6 322))) (aP (A.lt (ah 1000000000) i) (aJ (aN (dP 6 322))) (aJ (aN (ni cZ)))))))) (aH ay (aH (DN k) (aP (A.seq (Fh k) []) (aJ (aN (dP 6 322))) (aP (A.lt i (gZ 999999999)) (aJ (aN (dP 6 322))) (aP (A.lt (ah 1000000000) i) (aJ (aN (dP 6 322))) (aP (A.nt (A.eq k (ah 2))) (aP (A.nt (A.eq i (ah 0))) (aJ (aN (dP 6 322))) (aJ (aN (ni cZ)))) (aJ (aN (ni cZ))))))))):=by kernel_rfl
theorem a50(A:Prim)(W:Wd)(n a b:Nat)(g h l:ϝ)(x y:Int):BD (C7 A W G5 Aw) Dy 300 400 103 [.code []] (BH 11 [.agg [.sl 4 n g],.agg [.i .i64 x,.i .i64 y,.sl 1 a h,.sl 2 b l]] L0) [] []=aH (A.le (ah 0) (A.AV n)) (aH (A.room (A.toN (A.AV n)) 64) (aH (A.room (A.addN 0 n) 64) (aH (A.room (A.addN (A.addN 0 n) 1) 64) (aH (A.le (ah 0) (A.AV n)) (aH (A.room (A.toN (A.AV n)) 64) (aH (A.room (A.addN 0 n) 64) (aH (A.room (A.addN (A.addN 0 n) 1) 64) (Tree.must [aW (aG 4 n g) (aG 4 n g),aC x x,aC y y,aW (aG 1 a h) (aG 1 a h),aW (aG 2 b l) (aG 2 b l),aW (aG 4 n g) (aG 4 n g),aC x x,aC y y,aW (aG 1 a h) (aG 1 a h),aW (aG 2 b l) (aG 2 b l),aC x x,aC y y,aW (aG 1 a h) (aG 1 a h),aW (aG 2 b l) (aG 2 b l),aZ (A.addN (A.addN 0 n) 1) (A.addN (A.addN 0 n) 1),BL.Um (A.snoc (A.snoc (fun _=>[]) 0 g) (A.addN 0 n) (Bh [[aQ .i64 x,aQ .i64 y,aG 1 a h,aG 2 b l]])) (A.snoc (A.snoc (fun _=>[]) 0 g) (A.addN 0 n) (Bh [[aQ .i64 x,aQ .i64 y,aG 1 a h,aG 2 b l]]))] (aJ (aN (bG [fF 224 4 (A.addN (A.addN 0 n) 1) (A.snoc (A.snoc (fun _=>[]) 0 g) (A.addN 0 n) (Bh [[aQ .i64 x,aQ .i64 y,aG 1 a h,aG 2 b l]]))]))))))))))):=by kernel_rfl
theorem a33(A:Prim)(W:Wd)(n:Nat)(d:Nat->A8)(i:Int):BD (C7 A W G5 Aw) Dy 300 400 136 [.code []] (BH 12 [.agg [.sl 4 n (Df d)],.i .i64 i] L0) [] []=aP (A.lt i (ah 0)) (aJ (aN (bF [bG [aQ .i64 (ah 0),aQ .i64 (ah 0),aG 0 0 fun _=>[],aG 0 0 fun _=>[]],iL aA]))) (aP (A.le (A.AV n) i) (aJ (aN (bF [bG [aQ .i64 (ah 0),aQ .i64 (ah 0),aG 0 0 fun _=>[],aG 0 0 fun _=>[]],iL aA]))) (aH (A.inB i n) (aJ (aN (bF [bG [aQ .i64 (d (A.toN i)).kind,aQ .i64 (d (A.toN i)).num,aG 1 (len (d (A.toN i)).q) (Am (nth (d (A.toN i)).q)),aG 2 (len (d (A.toN i)).ps) (Am (nth (d (A.toN i)).ps))],iL ay]))))):=by kernel_rfl
theorem a54(A:Prim)(W:Wd)(n a b:Nat)(g h l:ϝ)(i x y:Int):BD (C7 A W G5 Aw) Dy 300 400 138 [.code []] (BH 27 [.agg [.sl 4 n g],.i .i64 i,.agg [.i .i64 x,.i .i64 y,.sl 1 a h,.sl 2 b l]] L0) [] []=aP (A.lt i (ah 0)) (aJ (aN (bG [aG 4 n g]))) (aP (A.le (A.AV n) i) (aJ (aN (bG [aG 4 n g]))) (aH (A.le (ah 0) (A.AV n)) (aH (A.room (A.toN (A.AV n)) 64) (aH (A.room (A.addN 0 n) 64) (aH (A.inB i (A.addN 0 n)) (aJ (aN (bG [fF 224 4 (A.addN 0 n) (A.upd (A.snoc (fun _=>[]) 0 g) (A.toN i) 0 [aQ .i64 x,aQ .i64 y,aG 1 a h,aG 2 b l])])))))))):=by kernel_rfl
theorem a64(A:Prim)(W:Wd)(n:Nat)(g:ϝ):BD (C7 A W G5 Aw) Dy 300 400 129 [.code []] (BH 10 [.agg [.sl 4 n g]] L0) [] []=aH (A.le (ah 0) (A.AV n)) (aH (A.room (A.toN (A.AV n)) 64) (aH (A.room (A.addN 0 n) 64) (aJ (aN (fF 224 4 (A.addN 0 n) (A.snoc (fun _=>[]) 0 g)))))):=by kernel_rfl
theorem a59(A:Prim)(W:Wd)(x:Int):BD (C7 A W G5 Aw) Dy 300 400 131 [.code []] (BH 5 [.i .i64 x] L0) [] []=aH (DN x) (aJ (aN (dN (BK x)))):=by kernel_rfl
theorem a60(A:Prim)(W:Wd)(n:Nat)(g:ϝ):BD (C7 A W G5 Aw) Dy 300 400 132 [.code []] (BH 5 [.sl 1 n g] L0) [] []=aH (okB (List UInt8) n g) (aH (Cc n 16) (aH (JD (Eb (lst (List UInt8) n g) [32])) (aJ (aN (dN (Eb (lst (List UInt8) n g) [32])))))):=by kernel_rfl
theorem a66(A:Prim)(W:Wd)(x:Int):BD (C7 A W G5 Aw) Dy 300 400 97 [.code []] (BH 17 [.i .i64 x] L0) [] []=aP (A.eq x (ah 1)) (aJ (aN (aQ .i64 (ah 1)))) (aP (A.eq x (ah 2)) (aJ (aN (aQ .i64 (ah 1)))) (aP (A.eq x (ah 3)) (aJ (aN (aQ .i64 (ah 2)))) (aP (A.eq x (ah 4)) (aJ (aN (aQ .i64 (ah 2)))) (aP (A.eq x (ah 5)) (aJ (aN (aQ .i64 (ah 3)))) (aP (A.eq x (ah 6)) (aJ (aN (aQ .i64 (ah 3)))) (aP (A.eq x (ah 7)) (aJ (aN (aQ .i64 (ah 4)))) (aP (A.eq x (ah 8)) (aJ (aN (aQ .i64 (ah 4)))) (aP (A.eq x (ah 9)) (aJ (aN (aQ .i64 (ah 4)))) (aJ (aN (aQ .i64 (ah 0)))))))))))):=by kernel_rfl
theorem a67(A:Prim)(W:Wd)(x:Int):BD (C7 A W G5 Aw) Dy 300 400 147 [.code []] (BH 13 [.i .i64 x] L0) [] []=aP (A.eq x (ah 7)) (aJ (aN (iL ay))) (aP (A.eq x (ah 8)) (aJ (aN (iL ay))) (aJ (aN (iL (A.eq x (ah 9)))))):=by kernel_rfl
theorem a68(A:Prim)(W:Wd)(x:Int):BD (C7 A W G5 Aw) Dy 300 400 149 [.code []] (BH 17 [.i .i64 x] L0) [] []=aP (A.eq x (ah 2)) (aJ (aN (iL ay))) (aP (A.eq x (ah 3)) (aJ (aN (iL ay))) (aP (A.eq x (ah 5)) (aJ (aN (iL ay))) (aJ (aN (iL (A.eq x (ah 7))))))):=by kernel_rfl
theorem a69(A:Prim)(W:Wd)(k x y:Int):BD (C7 A W G5 Aw) Dy 300 400 157 [.code []] (BH 27 [.i .i64 k,.i .i64 x,.i .i64 y] L0) [] []=aP (A.eq k (ah 2)) (aP (A.lt x (ah 0)) (aJ (aN (iL ay))) (aP (A.lt (ah 1000) x) (aJ (aN (iL ay))) (aP (A.lt y (gZ 999999999999999)) (aJ (aN (iL ay))) (aJ (aN (iL (A.lt (ah 1000000000000000) y))))))) (aP (A.lt x (ah 0)) (aJ (aN (iL ay))) (aP (A.lt (ah 1000) x) (aJ (aN (iL ay))) (aP (A.lt y (gZ 999999999)) (aJ (aN (iL ay))) (aJ (aN (iL (A.lt (ah 1000000000) y))))))):=by kernel_rfl
theorem w58(A:Prim)(W:Wd)(c:Int):BD (C7 A W noSpec Aw) Dy 300 400 119 [.code []] (BH 16 [.v (.int .i64 1),.i .i64 c] L0) [] []=aP (A.lt (A.sub .i64 (A.max c (ah 0)) (ah 1)) (ah 0)) (aJ (aN (dN []))) (aP (A.le (ah 4) (A.sub .i64 (A.max c (ah 0)) (ah 1))) (aJ (aN (dN []))) (aH (A.inB (A.sub .i64 (A.max c (ah 0)) (ah 1)) 4) (aP (A.eq (A.sub .i64 (A.max c (ah 0)) (ah 1)) (ah 0)) (aJ (aN (dN (W 15 0)))) (aP (A.eq (A.sub .i64 (A.max c (ah 0)) (ah 1)) (ah 1)) (aJ (aN (dN (W 15 1)))) (aP (A.eq (A.sub .i64 (A.max c (ah 0)) (ah 1)) (ah 2)) (aJ (aN (dN (W 15 2)))) (aP (A.eq (A.sub .i64 (A.max c (ah 0)) (ah 1)) (ah 3)) (aJ (aN (dN (W 15 3)))) jP)))))):=by kernel_rfl
end Go.Proofs
namespace Go.Pl
open Go Go.Sx
theorem le0(n:Nat):Ak.le (ah 0) (Ak.AV n)=ay:=by rfl
theorem PL(n:Nat):Ak.toN (Ak.AV n)=n:=rfl
theorem Jp(n:Nat):Ak.addN 0 n=n:=Nat.zero_add n
theorem ad6(n m:Nat):Ak.addN n m=n+m:=rfl
theorem QX(h g:ϝ):Ak.snoc h 0 g=g:=by
 rfl
theorem Ny{n m b:Nat}(h:Cc n b=ay)(hm:m<=n):Cc m b=ay:=by
 have:=ϑ (show decide (n*b<=140737488355328/\n<=maxLen)=ay from h);have h2:m*b<=n*b:=bW b hm;exact ϱ (show m*b<=140737488355328/\m<=maxLen from ⟨by omega,by omega⟩)
theorem AY{φ:Sh->Prop}{s s':Sh}(hw:Wk s s')(h:φ s'):up φ s:=⟨s',hw,h⟩
def Hz(n:Nat)(g:ϝ)(r:List Sh):ϝ:=fun j=>if j<n then g j else r
theorem ag1{n:Nat}{g:ϝ}{r:List Sh}:∀j,j<n+1->Ak.snoc g n (Bh [r]) j=Hz n g r j:=fun j hj=>by
 rw[Dn];unfold Hz;split
 ·rfl
 ·have:j=n:=by omega
  subst this;rw[gK];rfl
def Gw(n:Nat)(i:Int):Bool:=decide (0<=i/\i<n)
def L6(n:Nat)(g:ϝ)(i:Int)(r:List Sh):ϝ:=fun j=>if Gw n i=ay/\j=i.toNat then r else g j
def stB(n:Nat)(g:ϝ):Bool:=@decide (∃d:Nat->A8,∀j,j<n->g j=DU (d j)) (aI _)
def Ec(n:Nat)(g:ϝ):Nat->A8:=@dite _ (∃d:Nat->A8,∀j,j<n->g j=DU (d j)) (aI _) (fun h=>h.choose) fun _ _=>⟨0,0,[],[]⟩
theorem TB{n:Nat}{g:ϝ}(h:stB n g=ay):∀j,j<n->g j=Df (Ec n g) j:=by
 unfold stB at h;have h:=@ϑ _ (aI _) h;unfold Ec;rw[dif_pos h];exact h.choose_spec
theorem ad7(n:Nat)(d:Nat->A8):stB n (Df d)=ay:=by unfold stB;exact @ϱ _ (aI _) ⟨d,fun _ _=>rfl⟩
theorem apk{n:Nat}{g:ϝ}{d:Nat->A8}(h:∀j,j<n->g j=DU (d j)):stB n g=ay:=by unfold stB;exact @ϱ _ (aI _) ⟨d,h⟩
theorem ara{α:Type}[Row α]{l m:List α}{st:Nat}(h:aG st (len l) (Am (nth l))=aG st (len m) (Am (nth m))):l=m:=by
 simp only[Sh.sl.injEq,true_and] at h;obtain ⟨h1,h2⟩:=h;rw[<-Hy l,<-Hy m];have h1:l.length=m.length:=h1;rw[h1,h2]
theorem RQ{s t:A8}(h:DU s=DU t):s=t:=by
 obtain ⟨a,b,c,d⟩:=s;obtain ⟨a',b',c',d'⟩:=t;simp only[DU,dF,Sh.i.injEq,true_and,and_true] at h;grind [ara]
theorem atO{n:Nat}{d:Nat->A8}:∀j,j<n->Ec n (Df d) j=d j:=fun j hj=>RQ (TB (ad7 n d) j hj).symm
theorem apl{n:Nat}{g:ϝ}{d:Nat->A8}(h:∀j,j<n->g j=DU (d j)):∀j,j<n->Ec n g j=d j:=fun j hj=>RQ ((TB (apk h) j hj).symm.trans (h j hj))
def PN:A8:=⟨0,0,[],[]⟩
def atT(n:Nat)(d:Nat->A8)(i:Int):A8:=bif Gw n i then d i.toNat else PN
def En(k i:Int):Bool:=!(decide (1<=k)&&decide (k<=4))||decide (i < -1000000000)||decide (1000000000<i)||(!(decide (k=1)||decide (k=2)) && !decide (i=0))
def Fp(op:Int):Int:=if op=1\/op=2 then 1 else if op=3\/op=4 then 2 else if op=5\/op=6 then 3 else if op=7\/op=8\/op=9 then 4 else 0
def keyed(op:Int):Bool:=decide (op=7)||decide (op=8)||decide (op=9)
def valued(op:Int):Bool:=decide (op=2)||decide (op=3)||decide (op=5)||decide (op=7)
def J5(k x y:Int):Bool:=decide (x<0)||decide (1000<x)||decide (y < -(if k=2 then 1000000000000000 else 1000000000))||decide ((if k=2 then 1000000000000000 else 1000000000)<y)
def Dj(st:Nat):Sh->Option (Nat×(ϝ))
 | .sl st' n g=>bif dK st' st then aj (n,g) else bif dK n 0 then aj (0,fun _=>[]) else aF |_=>aF
theorem Bz{H:Mem}{st n:Nat}{s:Sh}{g:ϝ}{v:Value}(hs:Dj st s=aj (n,g))(h:Rep H s v):Rep H (.sl st n g) v:=by
 cases s<;>simp only[Dj] at hs<;>try cases hs
 rename_i st' n' g';cases h1:dK st' st<;>simp only[h1,ϰ,ϗ] at hs
 ·cases h2:dK n' 0<;>simp only[h2,ϰ,ϗ] at hs
  ·cases hs
  ·cases hs
   exact Gg h (.inl ⟨Nat.eq_of_beq_eq_true h2,rfl⟩)
 simp_all
theorem OW{H:Mem}{s s':Sh}{v:Value}(hv:Rep H (.agg [s]) v)(h0:∀u,Rep H s u->Rep H s' u):Rep H (.agg [s']) v:=by
 cases hv with
 |agg _ vs h2 h3=>
  refine .agg _ vs h2 fun j s v' e1 e2=>?_
  grind
theorem OX{H:Mem}{s2 s3 s2' s3':Sh}{v:Value}(hv:Rep H (.agg [s2,s3]) v)(h0:∀u,Rep H s2 u->Rep H s2' u)(h1:∀u,Rep H s3 u->Rep H s3' u):Rep H (.agg [s2',s3']) v:=by
 cases hv with
 |agg _ vs h2 h3=>
  refine .agg _ vs h2 fun j s v' e1 e2=>?_
  grind
theorem HY{H:Mem}{x y:Sh}{s2 s3 s2' s3':Sh}{v:Value}(hv:Rep H (.agg [x,y,s2,s3]) v)(h0:∀u,Rep H s2 u->Rep H s2' u)(h1:∀u,Rep H s3 u->Rep H s3' u):Rep H (.agg [x,y,s2',s3']) v:=by
 cases hv with
 |agg _ vs h2 h3=>
  refine .agg _ vs h2 fun j s v' e1 e2=>?_
  grind
theorem OY(g:ϝ)(i off:Nat)(l:List Sh)(j:Nat):Ak.upd g i off l j=if j=i then (g j).take off++l++(g j).drop (off+l.length) else g j:=rfl
theorem Dz{H:Mem}{s:Sh}{c:Int}{v:Value}(h:Bd s=aj c)(r:Rep H s v):Rep H (.i .i64 c) v:=by
 unfold Bd at h;split at h
 ·simp_all
 ·cases h;cases r;exact .i _ _
 ·cases h
theorem ad8{H:Mem}{s:Sh}{c:Int}{v:Value}(h:Bd s=aj c)(r:Rep H s v):Rep H (.v (.int .i64 c)) v:=by
 have:=Dz h r;cases this;exact .v _ rfl
end Go.Pl
namespace Go.Proofs
open Go Go.Sx Go.Pl
theorem O58:AO ak (AZ W7) 119 F58:=by
 refine JA (C7 Ak W7 noSpec Aw) uN fun H w Bl args φ hrep h=>?_
 have hn:uN.ntmps=16:=by kernel_rfl
 unfold F58 at h;split at h
 ·rename_i t s
  split at h
  ·rename_i b c ht hs
   obtain ⟨h1,h2,hφ⟩:=h;have h1:b=1:=by grind
   subst h1;have h2:=ϑ h2;match args,hrep with
   |[v,u],⟨hv,hu,_⟩=>
    refine ⟨[.v (.int .i64 1),.i .i64 c],⟨ad8 ht hv,Dz hs hu,ϖ⟩,L0,?_⟩;refine UE (Ej _) 300 400 [] ?_;rw[hn,w58 Ak W7 c];obtain ⟨m,e,hm⟩:∃m:Int,Ak.sub .i64 (Ak.max c (ah 0)) (ah 1)=m/\((c<=0/\m=-1)\/(1<=c/\m=c - 1)):=by
     refine ⟨_,rfl,?_⟩;grind [OV,JC,CU]
    rw[e];have key (X:List UInt8) (hX:Fh c=X):φ (.str X):=hX ▸ hφ;have q0:ah 0=0:=rfl;have q1:ah 1=1:=rfl;have q2:ah 2=2:=rfl;have q3:ah 3=3:=rfl;have q4:ah 4=4:=rfl;simp only[Ar,CS,AQ,AX,q0,q1,q2,q3,q4];refine ⟨fun h=>key _ ?_,fun h=>⟨fun h2=>key _ ?_,fun h2=>⟨?_,fun h3=>key _ ?_,fun h3=>⟨fun h4=>key _ ?_,fun h4=>⟨fun h5=>key _ ?_,fun h5=>⟨fun h6=>key _ ?_,fun h6=>?_⟩⟩⟩⟩⟩⟩;all_goals simp only[ϟ,decide_eq_false_iff_not,ϡ,beq_eq_false_iff_ne,ne_eq] at *
    all_goals (try unfold Fh)
    all_goals grind
  ·exact h.elim
 ·exact h.elim
theorem OAs:∀g F,G5 g=aj F->AO ak (AZ W7) g F:=fun g F h=>by
 unfold G5 at h;grind [O92,O56,O58]
theorem Ox(stop:Nat->List Nat->Bool):BJ ak (C7 Ak W7 G5 stop):=C7.OG OAs fun g h=>by
 unfold G5 at h;split at h;all_goals first|(cases h;done) |kernel_rfl
def F50:ϵ
 |[.agg [s0],.agg [.i .i64 x,.i .i64 y,s2,s3]]=>match Dj 4 s0,Dj 1 s2,Dj 2 s3 with
  |some (n,g),aj (a,h),aj (b,l)=>.need (Cc (n+1) 64) (.leaf (.agg [.sl 4 (n+1) (Hz n g [.i .i64 x,.i .i64 y,.sl 1 a h,.sl 2 b l])])) |_,_,_=>.fail
 |_=>.fail
theorem O50:AO ak (AZ W7) 103 F50:=by
 refine CV (Ox Aw) 300 400 L0 uM fun H w Bl args φ hrep h=>?_
 have hn:uM.ntmps=11:=by kernel_rfl
 unfold F50 at h;split at h
 ·rename_i s0 x y s2 s3
  split at h
  ·rename_i n g a hh b l hs0 hs2 hs3
   obtain ⟨h1,hφ⟩:=h;match args,hrep with
   |[v,u1],⟨hv,r1,_⟩=>
    refine ⟨[.agg [.sl 4 n g],.agg [.i .i64 x,.i .i64 y,.sl 1 a hh,.sl 2 b l]],⟨OW hv fun u hu=>Bz hs0 hu,HY r1 (fun u hu=>Bz hs2 hu) (fun u hu=>Bz hs3 hu),ϖ⟩,?_⟩;have h0:=Ny h1 (vY n);rw[hn,a50 Ak W7 n a b g hh l x y,Jp,QX,PL,ad6];refine ⟨le0 n,h0,h0,h1,le0 n,h0,h0,h1,?_,AY (s':=.agg [.sl 4 (n+1) (Hz n g [.i .i64 x,.i .i64 y,.sl 1 a hh,.sl 2 b l])]) ⟨.inr ⟨rfl,rfl,ag1⟩,ϖ⟩ hφ⟩;repeat' (first|exact ϖ|exact rfl|refine And.intro ?_ ?_)
  ·exact h.elim
 ·exact h.elim
theorem apm{n:Nat}{i:Int}(h:Ak.lt i (ah 0)=ay):Gw n i=aA:=by grind [Ar,Gw]
theorem apn{n:Nat}{i:Int}(h:Ak.le (Ak.AV n) i=ay):Gw n i=aA:=by simp_all [CS,AL,Gw]
theorem aiy{n:Nat}{i:Int}(h:Ak.lt i (ah 0)=aA)(h3:Ak.le (Ak.AV n) i=aA):Gw n i=ay:=by
 simp_all [Ar,CS,AL,Gw]
def F33:ϵ
 |[.agg [s0],t]=>match Dj 4 s0,Bd t with
  |some (n,g),aj i=>.need (stB n g) (.leaf (.Az [.agg (DU (atT n (Ec n g) i)),.b (Gw n i)])) |_,_=>.fail
 |_=>.fail
theorem O33:AO ak (AZ W7) 136 F33:=by
 refine CV (Ox Aw) 300 400 L0 uQ fun H w Bl args φ hrep h=>?_
 have hn:uQ.ntmps=12:=by kernel_rfl
 unfold F33 at h;split at h
 ·rename_i s0 t
  split at h
  ·rename_i n g i hs ht
   obtain ⟨h1,hφ⟩:=h;match args,hrep with
   |[v,u1],⟨hv,r1,_⟩=>
    refine ⟨[.agg [.sl 4 n (Df (Ec n g))],.i .i64 i],⟨OW hv fun u hu=>DT (Bz hs hu) (TB h1),Dz ht r1,ϖ⟩,?_⟩;generalize Ec n g=d at *;have out (hi:Gw n i=aA):up φ (.Az [.agg [.i .i64 (ah 0),.i .i64 (ah 0),.sl 0 0 fun _=>[],.sl 0 0 fun _=>[]],.b aA]):=
     AY (s':=.Az [.agg (DU (atT n d i)),.b (Gw n i)]) ⟨by simp[atT,hi,DU,PN,Wk,Qd,len],by simp[hi,Wk],ϖ⟩ hφ
    rw[hn,a33 Ak W7 n d i];refine ⟨fun h=>out (apm h),fun h=>⟨fun h3=>out (apn h3),fun h3=>⟨aiy h h3,?_⟩⟩⟩;have hi:=aiy h h3;exact AY (s':=.Az [.agg (DU (atT n d i)),.b (Gw n i)]) ⟨by simp[atT,hi,DU,Wk,Qd,Cm],by simp[hi,Wk],ϖ⟩ hφ
  ·exact h.elim
 ·exact h.elim
def F54:ϵ
 |[.agg [s0],t,.agg [.i .i64 x,.i .i64 y,s2,s3]]=>match Dj 4 s0,Bd t,Dj 1 s2,Dj 2 s3 with
  |some (n,g),aj i,aj (a,h),aj (b,l)=>.need (Cc n 64) (.need (stB n g) (.leaf (.agg [.sl 4 n (L6 n g i [.i .i64 x,.i .i64 y,.sl 1 a h,.sl 2 b l])]))) |_,_,_,_=>.fail
 |_=>.fail
theorem O54:AO ak (AZ W7) 138 F54:=by
 refine CV (Ox Aw) 300 400 L0 uS fun H w Bl args φ hrep h=>?_
 have hn:uS.ntmps=27:=by kernel_rfl
 unfold F54 at h;split at h
 ·rename_i s0 t x y s2 s3
  split at h
  ·rename_i n g i a hh b l hs0 ht hs2 hs3
   obtain ⟨h1,h2,hφ⟩:=h;match args,hrep with
   |[v,u1,u2],⟨hv,r1,r2,_⟩=>
    refine ⟨[.agg [.sl 4 n g],.i .i64 i,.agg [.i .i64 x,.i .i64 y,.sl 1 a hh,.sl 2 b l]],⟨OW hv fun u hu=>Bz hs0 hu,Dz ht r1,HY r2 (fun u hu=>Bz hs2 hu) (fun u hu=>Bz hs3 hu),ϖ⟩,?_⟩;have same (hi:Gw n i=aA):up φ (.agg [.sl 4 n g]):=AY (s':=.agg [.sl 4 n (L6 n g i [.i .i64 x,.i .i64 y,.sl 1 a hh,.sl 2 b l])]) ⟨.inr ⟨rfl,rfl,fun j hj=>by simp[L6,hi]⟩,ϖ⟩ hφ;rw[hn,a54 Ak W7 n a b g hh l i x y,Jp,QX,PL];refine ⟨fun h=>same (apm h),fun h=>⟨fun h3=>same (apn h3),fun h3=>⟨le0 n,h1,h1,aiy h h3,AY (s':=.agg [.sl 4 n (L6 n g i [.i .i64 x,.i .i64 y,.sl 1 a hh,.sl 2 b l])]) ⟨.inr ⟨rfl,rfl,fun j hj=>?_⟩,ϖ⟩ hφ⟩⟩⟩;have hi:=aiy h h3;simp only[L6,hi,true_and,OY,Cm];by_cases e:j=i.toNat
    ·have hl:(g j).length=4:=by rw[TB h2 j hj];rfl
     simp_all
    ·simp[e]
  ·exact h.elim
 ·exact h.elim
def F65:ϵ
 |[.agg [.i .i64 k,.i .i64 i]]=>.need (DN k) (.node (En k i) (.leaf (.er 6 322)) (.leaf (.v .nilIface))) |_=>.fail
theorem anD{k:Int}:Ak.seq (Fh k) []=!(decide (1<=k)&&decide (k<=4)):=by
 by_cases h1:k=1
 ·subst h1;rfl
 by_cases h2:k=2
 ·subst h2;rfl
 by_cases h3:k=3
 ·subst h3;rfl
 by_cases h4:k=4
 ·subst h4;rfl
 grind [Fh,aq6]
theorem O65:AO ak (AZ W7) 94 F65:=by
 refine JA (C7 Ak W7 G5 Aw) qh fun H w Bl args φ hrep h=>?_
 have hn:qh.ntmps=36:=by kernel_rfl
 unfold F65 at h;split at h
 ·rename_i k i
  obtain ⟨h1,hb,hg⟩:=h;refine ⟨_,hrep,L0,UE (Ox _) 300 400 [] ?_⟩;rw[hn,a65 Ak W7 k i,anD];have q0:ah 0=0:=rfl;have q1:ah 1=1:=rfl;have q2:ah 2=2:=rfl;have q3:ah 1000000000=1000000000:=rfl;have q4:gZ 999999999=-1000000000:=rfl;simp only[Ar,AQ,BG,q0,q1,q2,q3,q4];have bad (h:En k i=ay):φ (.er 6 322):=hb h;have good (h:En k i=aA):φ (.v .nilIface):=hg h;refine ⟨fun e=>⟨rfl,h1,fun e1=>bad ?_,fun e1=>⟨fun e2=>bad ?_,fun e2=>⟨fun e3=>bad ?_,fun e3=>good ?_⟩⟩⟩,fun e=>⟨rfl,h1,fun e1=>bad ?_,fun e1=>⟨fun e2=>bad ?_,fun e2=>⟨fun e3=>bad ?_,fun e3=>⟨fun e4=>⟨fun e5=>bad ?_,fun e5=>good ?_⟩,fun e4=>good ?_⟩⟩⟩⟩⟩;all_goals (simp at *;simp[En];omega)
 ·exact h.elim
end Go.Proofs
namespace Go.Pl
open Go Go.Sx
def DF(n:Nat)(l:List (Nat×SV)):List SV:=l.foldl (fun t p=>t.set p.1 p.2) (dD n .any)
end Go.Pl
namespace Go.Proofs
open Go Go.Sx Go.Pl
def F60:ϵ
 |[.sl 1 n g]=>.need (okB (List UInt8) n g) (.need (Cc n 16) (.need (JD (Eb (lst (List UInt8) n g) [32])) (.leaf (.str (Eb (lst (List UInt8) n g) [32]))))) |_=>.fail
def JL:ϕ
 |119=>aj F58 |131=>aj F92 |132=>aj F60 |94=>aj F65 |_=>aF
def Wu:Nat->Bool:=fun g=>dK g 96
def ag2(n:Nat)(o:Nat->Oj)(e:ϝ)(i:Int):Core:={tm:=DF 78 [(1,.ptr 0 0),(21,.sh (.sl 2 n (Am o))),(22,.sym .i64 (n:Int)),(23,.sym .i64 i)],hp:=[(0,.box [.sh (.sl 2 n (Am o)),.sh (.sl 8 0 e)] 25)],nx:=1,lim:=L0,tc:=[]}
def anE(_n:Nat)(_o:Nat->Oj)(_e:ϝ):Core:={tm:=DF 78 [(38,.sym .i64 0),(39,.sym .i64 0)],hp:=[],nx:=0,lim:=L0,tc:=[]}
def anF:List It:=[aK [0,1,0,1,1,1],aX 2,aK [1,1,1,1]]
def atP:List It:=aK [0,0,1,0,1,1,1]::anF
def aat(a:Nat)(o:Nat->Int)(i:Int)(k:Nat)(gg:ϝ):Core:={tm:=DF 61 [(3,.gs 0),(26,.sh (.sl 1 a (Am o))),(27,.sym .i64 (a:Int)),(28,.sym .i64 i)],hp:=[(0,.own 9 1 k gg)],nx:=1,lim:=L0,tc:=[]}
def aau(b:Nat)(p:Nat->Pr)(i:Int)(k:Nat)(gg:ϝ):Core:={tm:=DF 61 [(3,.gs 0),(41,.sh (.sl 2 b (Am p))),(42,.sym .i64 (b:Int)),(43,.sym .i64 i)],hp:=[(0,.own 9 1 k gg)],nx:=1,lim:=L0,tc:=[]}
def aav:List It:=[aK [0,1,0,1,1,1,0,1,0,1,1],aX 1,aX 0,aK [1,1,1]]
def aaw:List It:=[aK [0,1,0,1,1,1,1,1,0,1,0,1,1],aX 3,aX 0,aK [1,1,1]]
def atU:List It:=aK [0,0,1,0,1,1,1,0,1,0,1,1]::aav
def atV:List It:=aK [0,0,1,0,1,1,1,1,1,0,1,0,1,1]::aaw
theorem a41(A:Prim)(W:Wd)(k i:Int):BD (C7 A W JL Aw) Dy 300 400 102 [.code []] (BH 16 [.agg [.i .i64 k,.i .i64 i]] L0) [] []=aH (DN k) (aP (En k i) (aJ (aN (bF [bG [aQ .i64 (ah 0),aQ .i64 (ah 0),aG 0 0 fun _=>[],aG 0 0 fun _=>[]],dP 6 322]))) (aJ (aN (bF [bG [aQ .i64 k,aQ .i64 i,aG 0 0 fun _=>[],aG 0 0 fun _=>[]],ni cZ])))):=by kernel_rfl
theorem a49(A:Prim)(W:Wd)(n:Nat)(o:Nat->Oj)(e:ϝ)(i':Int):BD (C7 A W JL Aw) Wu 300 400 75 [.code []] (BH 78 [.agg [.sl 2 n (Am o),.sl 8 0 e]] L0) [] [⟨75,LZ,ag2 n o e i',[]⟩]=aP (A.lt (ah 8) (A.AV n)) (aJ (aN (dP 5 322))) (aP (A.lt (ah 400) (A.AV 0)) (aJ (aN (dP 5 322))) (aJ (bU 0 [aW (aG 2 n (Am o)) (aG 2 n (Am o)),aC (A.AV n) (ah n),aC (ah 0) i',aW (aG 2 n (Am o)) (aG 2 n (Am o)),aW (aG 8 0 e) (aG 8 0 e)]))):=by kernel_rfl
theorem b49(A:Prim)(W:Wd)(n:Nat)(o:Nat->Oj)(e:ϝ)(i i':Int):BD (C7 A W JL Aw) Wu 300 400 75 Y1 (ag2 n o e i) [] [⟨75,LZ,ag2 n o e i',[]⟩,⟨75,anF,anE n o e,[]⟩]=aP (A.lt i (ah n)) (aH (A.inB i n) (aH (DN (o (A.toN i)).kind) (aP (En (o (A.toN i)).kind (o (A.toN i)).init) (aJ (aN (Sh.DK 184 (Sh.pt [aQ .i64 i,dP 6 322])))) (aJ (bU 0 [aW (aG 2 n (Am o)) (aG 2 n (Am o)),aC (ah n) (ah n),aC (A.add .i64 i (ah 1)) i',aW (aG 2 n (Am o)) (aG 2 n (Am o)),aW (aG 8 0 e) (aG 8 0 e)]))))) (aJ (bU 1 [aC (A.AV 0) (ah 0),aC (ah 0) (ah 0)])):=by kernel_rfl
theorem c49(A:Prim)(W:Wd)(n:Nat)(o:Nat->Oj)(e:ϝ):BD (C7 A W JL Aw) Wu 300 400 75 atP (anE n o e) [] []=aP (A.lt (ah 0) (ah 0)) jP (aJ (aN (ni cZ))):=by kernel_rfl
theorem a35(A:Prim)(W:Wd)(x y:Int)(a b:Nat)(o:Nat->Int)(p:Nat->Pr)(i':Int)(k':Nat)(Je:ϝ):BD (C7 A W JL Aw) Dy 300 400 105 [.code []] (BH 61 [.agg [.i .i64 x,.i .i64 y,.sl 1 a (Am o),.sl 2 b (Am p)]] L0) [] [⟨105,aav,aat a o i' k' Je,[]⟩,⟨105,aaw,aau b p i' k' Je,[]⟩]=aH ay (aH (DN x) (aP (A.eq x (ah 1)) (aH (DN y) (aH (okB (List UInt8) 2 (Bh (chunks 1 (1+1) [dN (Fh x),dN (BK y)]))) (aH (Cc 2 16) (aH (JD (Eb (lst (List UInt8) 2 (Bh (chunks 1 (1+1) [dN (Fh x),dN (BK y)]))) [32])) (aJ (aN (dN (Eb (lst (List UInt8) 2 (Bh (chunks 1 (1+1) [dN (Fh x),dN (BK y)]))) [32])))))))) (aP (A.eq x (ah 2)) (aH (DN y) (aH (okB (List UInt8) 2 (Bh (chunks 1 (1+1) [dN (Fh x),dN (BK y)]))) (aH (Cc 2 16) (aH (JD (Eb (lst (List UInt8) 2 (Bh (chunks 1 (1+1) [dN (Fh x),dN (BK y)]))) [32])) (aJ (aN (dN (Eb (lst (List UInt8) 2 (Bh (chunks 1 (1+1) [dN (Fh x),dN (BK y)]))) [32])))))))) (aP (A.eq x (ah 3)) (aJ (bU 0 [aW (aG 1 a (Am o)) (aG 1 a (Am o)),aC (A.AV a) (ah a),aC (ah 0) i',aZ 1 k',bY 1 (Bh [[dN (Fh x)]]) Je])) (aP (A.eq x (ah 4)) (aJ (bU 1 [aW (aG 2 b (Am p)) (aG 2 b (Am p)),aC (A.AV b) (ah b),aC (ah 0) i',aZ 1 k',bY 1 (Bh [[dN (Fh x)]]) Je])) (aH (okB (List UInt8) 1 (Bh (chunks 1 1 [dN (Fh x)]))) (aH (Cc 1 16) (aH (JD (Eb (lst (List UInt8) 1 (Bh (chunks 1 1 [dN (Fh x)]))) [32])) (aJ (aN (dN (Eb (lst (List UInt8) 1 (Bh (chunks 1 1 [dN (Fh x)]))) [32])))))))))))):=by kernel_rfl
theorem aCw(A:Prim)(W:Wd)(a:Nat)(o:Nat->Int)(i i':Int)(k k':Nat)(gg Je:ϝ):BD (C7 A W JL Aw) Dy 300 400 105 atU (aat a o i k gg) [] [⟨105,aav,aat a o i' k' Je,[]⟩]=aP (A.lt i (ah a)) (aH (A.inB i a) (aH (DN (o (A.toN i))) (aH (A.room (A.addN k 1) 16) (aJ (bU 0 [aW (aG 1 a (Am o)) (aG 1 a (Am o)),aC (ah a) (ah a),aC (A.add .i64 i (ah 1)) i',aZ (A.addN k 1) k',bY (A.addN k 1) (A.snoc gg k (Bh [[dN (BK (o (A.toN i)))]])) Je]))))) (aH (okB (List UInt8) k gg) (aH (Cc k 16) (aH (JD (Eb (lst (List UInt8) k gg) [32])) (aJ (aN (dN (Eb (lst (List UInt8) k gg) [32]))))))):=by kernel_rfl
theorem aCx(A:Prim)(W:Wd)(b:Nat)(p:Nat->Pr)(i i':Int)(k k':Nat)(gg Je:ϝ):BD (C7 A W JL Aw) Dy 300 400 105 atV (aau b p i k gg) [] [⟨105,aaw,aau b p i' k' Je,[]⟩]=aP (A.lt i (ah b)) (aH (A.inB i b) (aH (DN (p (A.toN i)).key) (aH (A.leN (A.addN (A.len (BK (p (A.toN i)).key)) (A.len [58])) 9223372036854775807) (aH (DN (p (A.toN i)).val) (aH (A.leN (A.addN (A.len (A.app (BK (p (A.toN i)).key) [58])) (A.len (BK (p (A.toN i)).val))) 9223372036854775807) (aH (A.room (A.addN k 1) 16) (aJ (bU 0 [aW (aG 2 b (Am p)) (aG 2 b (Am p)),aC (ah b) (ah b),aC (A.add .i64 i (ah 1)) i',aZ (A.addN k 1) k',bY (A.addN k 1) (A.snoc gg k (Bh [[dN (A.app (A.app (BK (p (A.toN i)).key) [58]) (BK (p (A.toN i)).val))]])) Je])))))))) (aH (okB (List UInt8) k gg) (aH (Cc k 16) (aH (JD (Eb (lst (List UInt8) k gg) [32])) (aJ (aN (dN (Eb (lst (List UInt8) k gg) [32]))))))):=by kernel_rfl
end Go.Proofs
namespace Go.Pl
open Go Go.Sx
def La(s:A8):List (List UInt8):=Fh s.kind::(if s.kind=1\/s.kind=2 then [BK s.num] else if s.kind=3 then s.q.map BK else if s.kind=4 then s.ps.map (fun p=>BK p.key++[58]++BK p.val) else [])
def FB:ϝ:=Am (nth ([]:List Int))
def noP:ϝ:=Am (nth ([]:List Pr))
def keyS(s:A8):List UInt8:=Eb (La s) [32]
def Vm(n:Nat):Bool:=decide (8<n)
def PO(n:Nat)(o:Nat->Oj):Bool:=(aU n).all fun j=>!En (o j).kind (o j).init
def Nz(n:Nat)(o:Nat->Oj):Nat:=((aU n).find? fun j=>En (o j).kind (o j).init).getD 0
def TD(n:Nat)(o:Nat->Oj):Bool:=(aU n).all fun j=>DN (o j).kind
theorem G6{n:Nat}{p:Nat->Bool}(h:(aU n).all p=ay):∀j,j<n->p j=ay:=fun j hj=>dh.1 h j (eF.2 hj)
theorem akY{n:Nat}{o:Nat->Oj}(h:∀j,j<n->En (o j).kind (o j).init=aA):PO n o=ay:=dh.2 fun j hj=>by simp_all
theorem atX{n k:Nat}{o:Nat->Oj}(hk:k<n)(h:En (o k).kind (o k).init=ay):PO n o=aA:=by
 grind [PO,List.all_eq_false]
theorem find_range{n k:Nat}{p:Nat->Bool}(hk:k<n)(h:p k=ay)(hb:∀j,j<k->p j=aA):(aU n).find? p=aj k:=by
 simp_all
theorem akZ{n k:Nat}{o:Nat->Oj}(hk:k<n)(h:En (o k).kind (o k).init=ay)(hb:∀j,j<k->En (o j).kind (o j).init=aA):Nz n o=k:=by
 unfold Nz;rw[find_range hk h hb];rfl
def atY(n:Nat)(o:Nat->Int):Bool:=(aU n).all fun j=>DN (o j)
def ay9(n:Nat)(o:Nat->Pr):Bool:=(aU n).all fun j=>DN (o j).key&&DN (o j).val
end Go.Pl
namespace Go.Proofs
open Go Go.Sx Go.Pl
theorem O59:AO ak (AZ W7) 131 F92:=by
 refine CV (Ox Aw) 300 400 L0 uO fun H w Bl args φ hrep h=>?_
 have hn:uO.ntmps=5:=by kernel_rfl
 unfold F92 at h;split at h
 ·obtain ⟨h1,hφ⟩:=h
  refine ⟨_,hrep,?_⟩;rw[hn,a59 Ak W7];exact ⟨h1,AY (s':=.str _) rfl hφ⟩
 ·exact h.elim
theorem O60:AO ak (AZ W7) 132 F60:=by
 refine CV (Ox Aw) 300 400 L0 uP fun H w Bl args φ hrep h=>?_
 have hn:uP.ntmps=5:=by kernel_rfl
 unfold F60 at h;split at h
 ·obtain ⟨h1,h2,h3,hφ⟩:=h
  refine ⟨_,hrep,?_⟩;rw[hn,a60 Ak W7];exact ⟨h1,h2,h3,AY (s':=.str _) rfl hφ⟩
 ·exact h.elim
theorem OBs:∀g F,JL g=aj F->AO ak (AZ W7) g F:=fun g F h=>by
 unfold JL at h;grind [O58,O59,O60,O65]
theorem ad9(stop:Nat->List Nat->Bool):BJ ak (C7 Ak W7 JL stop):=C7.OG OBs fun g h=>by
 unfold JL at h;split at h;all_goals first|(cases h;done) |kernel_rfl
def F41:ϵ
 |[.agg [.i .i64 k,.i .i64 i]]=>.need (DN k) (.node (En k i) (.leaf (.Az [.agg (DU PN),.er 6 322])) (.leaf (.Az [.agg [.i .i64 k,.i .i64 i,.sl 1 0 FB,.sl 2 0 noP],.v .nilIface]))) |_=>.fail
theorem O41:AO ak (AZ W7) 102 F41:=by
 refine CV (ad9 Aw) 300 400 L0 uK fun H w Bl args φ hrep h=>?_
 have hn:uK.ntmps=16:=by kernel_rfl
 unfold F41 at h;split at h
 ·rename_i k i
  obtain ⟨h1,hb,hg⟩:=h;refine ⟨_,hrep,?_⟩;rw[hn,a41 Ak W7 k i];refine ⟨h1,fun e=>AY (s':=.Az [.agg (DU PN),.er 6 322]) ?_ (hb e),fun e=>AY (s':=.Az [.agg [.i .i64 k,.i .i64 i,.sl 1 0 FB,.sl 2 0 noP],.v .nilIface]) ?_ (hg e)⟩
  ·simp[DU,PN,Wk,Qd,len]
  ·simp[Wk,Qd]
 ·exact h.elim
def F49:ϵ
 |[.agg [s0,s1]]=>match Dj 2 s0,Dj 8 s1 with
  |some (n,g),aj (0,_)=>.need (okB Oj n g) (.need (TD n (Ap g)) (.node (Vm n) (.leaf (.er 5 322)) (.node (PO n (Ap g)) (.leaf (.v .nilIface)) (.leaf (.DK 184 (.pt [.i .i64 (Nz n (Ap g)),.er 6 322])))))) |_,_=>.fail
 |_=>.fail
theorem apo{H0:Mem}{w0:World}{n:Nat}{o:Nat->Oj}{e:ϝ}{φ:Sh->Prop}(hn:n<=8)(hk:∀j,j<n->DN (o j).kind=ay)(hT:(∀j,j<n->En (o j).kind (o j).init=aA)->φ (.v .nilIface))
  (hF:∀k,k<n->En (o k).kind (o k).init=ay->(∀j,j<k->En (o j).kind (o j).init=aA)->φ (.DK 184 (.pt [.i .i64 k,.er 6 322]))) :
  ∀r k,k+r=n->(∀j,j<k->En (o j).kind (o j).init=aA)->AB ak (C7 Ak W7 JL Aw) (K0 H0 w0) 75 LZ (ag2 n o e (k:Int)) [] emp φ
 |r,k,hkr,hE=>by
  refine D6 iG Y1 ?_;refine CW Wu (ad9 _) 300 400 [⟨75,LZ,ag2 n o e (k+1:Nat),[]⟩,⟨75,anF,anE n o e,[]⟩] ?_;rw[b49 Ak W7 n o e k (k+1:Nat)];simp only[Ar,AX,Cm,Ef,I7,dA];refine ⟨fun h=>?_,fun h=>?_⟩
  ·have hlt:k<n:=by simp_all
   refine ⟨by simp;omega,hk k hlt,fun hb=>hF k hlt hb hE,fun hb=>⟨⟨rfl,rfl,?_,rfl,rfl,ϖ⟩,_,rfl,?_⟩⟩
   ·grind [xE,CU]
   ·match r,hkr with
    |0,hkr=>omega |r+1,hkr=>
     refine apo hn hk hT hF r (k+1) (by omega) fun j hj=>?_
     grind
  ·have:k=n:=by grind
   subst this;refine ⟨⟨rfl,rfl,ϖ⟩,_,rfl,?_⟩;refine D6 iG atP ?_;refine CW Wu (ad9 _) 300 400 [] ?_;rw[c49 Ak W7 k o e];exact ⟨fun h=>by simp[Ar] at h,fun _=>hT hE⟩
theorem O49:AO ak (AZ W7) 75 F49:=by
 refine JA (C7 Ak W7 JL Aw) iG fun H w Bl args φ hrep h=>?_
 have hn:iG.ntmps=78:=by kernel_rfl
 unfold F49 at h;split at h
 ·rename_i s0 s1
  split at h
  ·rename_i n g e hs0 hs1
   obtain ⟨h1,h2,hbig,hsm⟩:=h;have hbig:Vm n=ay->φ (.er 5 322):=hbig;have hsm:Vm n=aA->(PO n (Ap g)=ay->φ (.v .nilIface))/\(PO n (Ap g)=aA->φ (.DK 184 (.pt [.i .i64 (Nz n (Ap g)),.er 6 322]))):=hsm;match args,hrep with
   |[v],⟨hv,_⟩=>
    refine ⟨[.agg [.sl 2 n (Am (Ap (α:=Oj) g)),.sl 8 0 e]],⟨OX hv (fun u hu=>CY (Bz hs0 hu) h1) (fun u hu=>Bz hs1 hu),ϖ⟩,L0,?_⟩;generalize Ap (α:=Oj) g=o at *;refine CW Wu (ad9 _) 300 400 [⟨75,LZ,ag2 n o e (0:Nat),[]⟩] ?_;rw[hn,a49 Ak W7 n o e (0:Nat)];refine ⟨fun h=>hbig ?_,fun h=>⟨fun h=>?_,fun _=>⟨⟨rfl,rfl,rfl,rfl,rfl,ϖ⟩,_,rfl,?_⟩⟩⟩
    ·grind [Ar,AL,Vm]
    ·simp[Ar,AL] at h
    ·have hn8:n<=8:=by grind [Ar,AL]
     obtain ⟨q1,q2⟩:=hsm (by simp[Vm];omega);refine apo hn8 (G6 h2) (fun hE=>q1 (akY hE)) (fun k hk hb hE=>?_) n 0 (by omega) fun j hj=>by omega
     grind [atX,akZ]
  ·exact h.elim
 ·exact h.elim
end Go.Proofs
namespace Go.Pl
open Go Go.Sx Go.Proofs
theorem atZ{a b:List UInt8}:lst (List UInt8) 2 (Bh (chunks 1 (1+1) [dN a,dN b]))=[a,b]:=rfl
theorem at1{a:List UInt8}:lst (List UInt8) 1 (Bh (chunks 1 1 [dN a]))=[a]:=rfl
theorem MR{n:Int}(h:DN n=ay):(BK n).length<=21:=by
 have h:=ϑ h;exact Go.Lib.itoa_length_le n h.1 h.2
theorem aiz{α:Type}[Row α](l:List α){k:Nat}(h:l.length=k):lst α k (Am (nth l))=l:=by grind [Hy]
theorem RS{α:Type}[Row α](l:List α)(a:α){r:List (List Sh)}(h:Bh r 0=Row.put a):∀i,i<l.length+1->Ak.snoc (Am (nth l)) l.length (Bh r) i=Am (nth (l++[a])) i:=fun i hi=>by
 rw[Dn];split
 ·simp_all [Am,nth,List.getD_eq_getElem?_getD]
 ·have:i=l.length:=by omega
  simp_all [gK,Am,nth]
end Go.Pl
namespace Go.Proofs
open Go Go.Sx Go.Pl
def F35:ϵ
 |[.agg [.i .i64 x,.i .i64 y,s2,s3]]=>match Dj 1 s2,Dj 2 s3 with
  |some (a,h),aj (b,l)=>.need (okB Int a h) (.need (okB Pr b l) (.need (DN x) (.need (DN y) (.need (atY a (Ap h)) (.need (ay9 b (Ap l)) (.need (decide (a<=100000/\b<=100000)) (.leaf (.str (keyS ⟨x,y,lst Int a h,lst Pr b l⟩))))))))) |_,_=>.fail
 |_=>.fail
theorem aax(l:List (List UInt8))(sep:List UInt8){m:Nat}(h:∀x∈l,x.length<=m):(Eb l sep).length<=l.length*(m+sep.length):=by
 induction l with
 |nil=>simp[Eb,Go.Lib.join_nil] |cons x r ih=>
  have h1:=h x (by simp);have h2:(kQ sep r).length<=r.length*(m+sep.length):=by
   clear ih;induction r with
   |nil=>simp[kQ] |cons y r ih2=>
    have h3:=ih2 fun z hz=>h z (by
     grind)
    have h4:=h y (by simp);simp only[kQ,List.map_cons,List.flatten_cons,cO,jk,oU,oJ] at h3 ⊢;omega
  unfold Eb;rw[Go.Lib.join_cons,cO,jk,oU,oJ];omega
theorem Qs{l:List (List UInt8)}(hl:l.length<=200000)(h:∀x∈l,x.length<=50):JD (Eb l [32])=ay:=by
 have:=aax l [32] h;have h2:l.length*(50+[(32:UInt8)].length)<=200000*51:=bW _ hl;exact ϱ (by omega)
theorem room_le{n b:Nat}(h:n<=1000000)(hb:b<=1000):Cc n b=ay:=by
 show decide (n*b<=140737488355328/\n<=maxLen)=ay;rw[maxLen_eq];have:n*b<=1000000*1000:=Nat.mul_le_mul h hb;grind
theorem aea(k:Int):(Fh k).length<=50:=by
 unfold Fh;repeat' split
 all_goals decide
theorem ak0{H0:Mem}{w0:World}{q:List Int}{W:List UInt8}{φ:Sh->Prop}(hq:q.length<=100000)(h64:∀x∈q,DN x=ay)(hW:W.length<=50)(hφ:φ (.str (Eb (W::q.map BK) [32]))):
  ∀r k,k+r=q.length->AB ak (C7 Ak W7 JL Aw) (K0 H0 w0) 105 aav (aat q.length (nth q) (k:Int) (k+1) (Am (nth (W::(q.take k).map BK)))) [] emp φ
 |r,k,hkr=>by
  refine D6 mZ atU ?_;refine UE (ad9 _) 300 400 [⟨105,aav,aat q.length (nth q) (k+1:Nat) (k+1+1) (Am (nth (W::(q.take (k+1)).map BK))),[]⟩] ?_;rw[aCw Ak W7 q.length (nth q) k (k+1:Nat) (k+1) (k+1+1) (Am (nth (W::(q.take k).map BK))) (Am (nth (W::(q.take (k+1)).map BK)))];have hlen:(W::(q.take k).map BK).length=k+1:=by simp;omega
  simp only[Ar,AX,Cm,Ef,I7,dA,ad6];refine ⟨fun h=>?_,fun h=>?_⟩
  ·have hlt:k<q.length:=by simp_all
   have hx:nth q k=q[k]:=by simp[nth,hlt]
   refine ⟨by simp;omega,by simp_all,room_le (by omega) (by omega),⟨rfl,rfl,?_,rfl,?_,ϖ⟩,_,rfl,?_⟩
   ·grind [xE,CU]
   ·have e:W::(q.take (k+1)).map BK=(W::(q.take k).map BK)++[BK (nth q k)]:=by
     grind [lY]
    have:=RS (W::(q.take k).map BK) (BK (nth q k)) (r:=[[.str (BK (nth q k))]]) rfl;rw[hlen] at this;rw[e];exact this
   ·match r,hkr with
    |0,hkr=>omega |r+1,hkr=>exact ak0 hq h64 hW hφ r (k+1) (by omega)
  ·have hk:k=q.length:=by simp_all
   subst hk;rw[vg] at hlen ⊢;rw[aiz _ hlen];refine ⟨Cb _ _,room_le (by omega) (by omega),Qs (by simp;omega) fun x hx=>?_,hφ⟩;grind [MR]
theorem ag3{p:Pr}(h1:DN p.key=ay)(h2:DN p.val=ay):(BK p.key++[58]++BK p.val).length<=50:=by
 grind [MR]
theorem ak1{H0:Mem}{w0:World}{q:List Pr}{W:List UInt8}{φ:Sh->Prop}(hq:q.length<=100000)(h64:∀x∈q,DN x.key=ay/\DN x.val=ay)(hW:W.length<=50)(hφ:φ (.str (Eb (W::q.map (fun p=>BK p.key++[58]++BK p.val)) [32]))):
  ∀r k,k+r=q.length->AB ak (C7 Ak W7 JL Aw) (K0 H0 w0) 105 aaw (aau q.length (nth q) (k:Int) (k+1) (Am (nth (W::(q.take k).map (fun p=>BK p.key++[58]++BK p.val))))) [] emp φ
 |r,k,hkr=>by
  refine D6 mZ atV ?_;refine UE (ad9 _) 300 400 [⟨105,aaw,aau q.length (nth q) (k+1:Nat) (k+1+1) (Am (nth (W::(q.take (k+1)).map (fun p=>BK p.key++[58]++BK p.val)))),[]⟩] ?_;rw[aCx Ak W7 q.length (nth q) k (k+1:Nat) (k+1) (k+1+1) (Am (nth (W::(q.take k).map (fun p=>BK p.key++[58]++BK p.val)))) (Am (nth (W::(q.take (k+1)).map (fun p=>BK p.key++[58]++BK p.val))))];have hlen:(W::(q.take k).map (fun p=>BK p.key++[58]++BK p.val)).length=k+1:=by simp;omega
  simp only[Ar,AX,Cm,Ef,I7,dA,ad6];refine ⟨fun h=>?_,fun h=>?_⟩
  ·have hlt:k<q.length:=by simp_all
   have hx:nth q k=q[k]:=by simp[nth,hlt]
   obtain ⟨p1,p2⟩:=h64 _ (List.getElem_mem hlt);rw[<-hx] at p1 p2;have l1:=MR p1;have l2:=MR p2;refine ⟨by simp;omega,p1,?_,p2,?_,room_le (by omega) (by omega),⟨rfl,rfl,?_,rfl,?_,ϖ⟩,_,rfl,?_⟩
   ·show decide ((BK (nth q k).key).length+1<=9223372036854775807)=ay
    grind
   ·show decide ((BK (nth q k).key++[58]).length+(BK (nth q k).val).length<=9223372036854775807)=ay
    grind
   ·grind [xE,CU]
   ·have e:W::(q.take (k+1)).map (fun p=>BK p.key++[58]++BK p.val)=(W::(q.take k).map (fun p=>BK p.key++[58]++BK p.val))++[BK (nth q k).key++[58]++BK (nth q k).val]:=by
     grind [lY]
    have:=RS (W::(q.take k).map (fun p=>BK p.key++[58]++BK p.val)) (BK (nth q k).key++[58]++BK (nth q k).val) (r:=[[.str (BK (nth q k).key++[58]++BK (nth q k).val)]]) rfl;rw[hlen] at this;rw[e];exact this
   ·match r,hkr with
    |0,hkr=>omega |r+1,hkr=>exact ak1 hq h64 hW hφ r (k+1) (by omega)
  ·have hk:k=q.length:=by simp_all
   subst hk;rw[vg] at hlen ⊢;rw[aiz _ hlen];refine ⟨Cb _ _,room_le (by omega) (by omega),Qs (by simp;omega) fun x hx=>?_,hφ⟩;grind [ag3]
theorem ak2{α:Type}[Row α]{n:Nat}{g:ϝ}{x:α}(h:x∈lst α n g):∃j,j<n/\x=Ap g j:=by
 obtain ⟨j,hj,rfl⟩:=eP.1 h;grind
theorem IQ{α:Type}[Row α]{H:Mem}{st n:Nat}{g:ϝ}{v:Value}(h:Rep H (.sl st n g) v)(hg:okB α n g=ay):Rep H (.sl st (lst α n g).length (Am (nth (lst α n g)))) v:=by
 grind [FH,DT,I5,Am,YZ]
theorem O35:AO ak (AZ W7) 105 F35:=by
 refine JA (C7 Ak W7 JL Aw) mZ fun H w Bl args φ hrep h=>?_
 have hn:mZ.ntmps=61:=by kernel_rfl
 unfold F35 at h;split at h
 ·rename_i x y s2 s3
  split at h
  ·rename_i a hh b l hs2 hs3
   obtain ⟨h1,h2,h3,h4,h5,h6,h7,hφ⟩:=h;have h7:=ϑ h7;match args,hrep with
   |[v],⟨hv,_⟩=>
    have l1:(lst Int a hh).length=a:=FH _ _;have l2:(lst Pr b l).length=b:=FH _ _;have m1:∀z∈lst Int a hh,DN z=ay:=fun z hz=>by
     obtain ⟨j,hj,rfl⟩:=ak2 hz;exact G6 h5 j hj
    have m2:∀z∈lst Pr b l,DN z.key=ay/\DN z.val=ay:=fun z hz=>by
     obtain ⟨j,hj,rfl⟩:=ak2 hz;simpa using G6 h6 j hj
    refine ⟨[.agg [.i .i64 x,.i .i64 y,.sl 1 (lst Int a hh).length (Am (nth (lst Int a hh))),.sl 2 (lst Pr b l).length (Am (nth (lst Pr b l)))]],⟨HY hv (fun u hu=>IQ (Bz hs2 hu) h1) (fun u hu=>IQ (Bz hs3 hu) h2),ϖ⟩,L0,?_⟩;generalize lst Int a hh=q at *;generalize lst Pr b l=ps at *;have hφ:φ (.str (Eb (La ⟨x,y,q,ps⟩) [32])):=hφ;refine UE (ad9 _) 300 400 [⟨105,aav,aat q.length (nth q) (0:Nat) 1 (Am (nth [Fh x])),[]⟩,⟨105,aaw,aau ps.length (nth ps) (0:Nat) 1 (Am (nth [Fh x])),[]⟩] ?_;rw[hn,a35 Ak W7 x y q.length ps.length (nth q) (nth ps) (0:Nat) 1 (Am (nth [Fh x])),atZ,at1];have hw:=aea x;have hy:=MR h4;have two:JD (Eb [Fh x,BK y] [32])=ay:=Qs (by simp) fun z hz=>by
     grind
    refine ⟨rfl,h3,fun e=>⟨h4,rfl,room_le (by omega) (by omega),two,?_⟩,fun e1=>⟨fun e=>⟨h4,rfl,room_le (by omega) (by omega),two,?_⟩,fun e2=>⟨fun e=>⟨⟨rfl,rfl,rfl,rfl,fun j hj=>?_,ϖ⟩,_,rfl,?_⟩,fun e3=>⟨fun e=>⟨⟨rfl,rfl,rfl,rfl,fun j hj=>?_,ϖ⟩,_,rfl,?_⟩,fun e4=>⟨rfl,room_le (by omega) (by omega),Qs (by simp) fun z hz=>?_,?_⟩⟩⟩⟩⟩
    ·have e:x=1:=by grind [AQ]
     subst e;exact hφ
    ·have e:x=2:=by grind [AQ]
     subst e;exact hφ
    ·obtain rfl:j=0:=by omega
     rfl
    ·have e:x=3:=by grind [AQ]
     subst e;exact ak0 (by omega) m1 hw hφ q.length 0 (by omega)
    ·obtain rfl:j=0:=by omega
     rfl
    ·have e:x=4:=by grind [AQ]
     subst e;exact ak1 (by omega) m2 hw hφ ps.length 0 (by omega)
    ·simp_all
    ·have e1:¬x=1:=by grind [AQ]
     have e2:¬x=2:=by grind [AQ]
     have e3:¬x=3:=by grind [AQ]
     have e4:¬x=4:=by grind [AQ]
     have e:La ⟨x,y,q,ps⟩=[Fh x]:=by simp_all [La]
     rw[e] at hφ;exact hφ
  ·exact h.elim
 ·exact h.elim
end Go.Proofs
