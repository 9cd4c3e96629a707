/- Own work. -/
import Derived.Test.YthehnhaoiijkhaaGreatDoorS07
import Derived.Test.YthehnhaoiijkhaaGreatDoorProg
import Derived.Shelf.Strings.Builder1
import Derived.Shelf.Strings.Builder2
import Derived.Shelf.Strings.OnBuilder
import Derived.Shelf.Strconv.Itoa0
import Derived.Shelf.Strconv.Itoa1
import Derived.Shelf.LaysM
import Derived.Shelf.Strconv.Itoa2
import Derived.Shelf.Strconv.Itoa3
import Derived.Ground.Names2Prog
open Int (ofNat)
open Array renaming getElem?_eq_some_iff->bH
open Bool renaming false->aA,true->aF,and_eq_true->aJ
open Classical renaming propDecidable->bG
open Go.Instr renaming checkKey->jc
open Go.IntKind renaming i64->aW
open Go.Lib renaming TabIs->wK,pow10Tab->rJ
open Go.Proofs.Lays renaming n156->yK
open Go.Proofs.LaysM renaming n171->xJ
open Go.Proofs.Tryz renaming f96->wZ,f99->kS,f119->vC,f121->vF,f122->dK,prog->aB,func117->xZ,func148->x9,func147->yc,func149->yg,func170->yh,func172->yj,func171->yt,func201->yu,func209->yw,func217->yx,func214->yA,func212->yB,func211->yC,func213->yD,func216->yE,func220->yF,func219->yG,func218->yH,func222->yI,func221->yJ,underlying0->vH,isAgg0->zo,sizeOf0->yL,zeroValue0->wF,underlying3->mQ,isAgg3->zq,sizeOf3->yM,zeroValue3->wG,underlying4->vI,isAgg4->zu,sizeOf4->yN,zeroValue4->wH,underlying9->lY,isAgg9->zx,sizeOf9->yO,zeroValue9->wI,underlying20->uN,isAgg20->yP,sizeOf20->xH,zeroValue20->vJ,underlying275->tX,isAgg275->xI,sizeOf275->xg,zeroValue275->uO,underlying5->vK,isAgg5->zy,sizeOf5->yQ,zeroValue5->wJ
open Go.RowKit.Below renaming refl->zA
open Go.Shelf renaming Ren->vG
open Go.Sx.BQ renaming sh->aP,int->ak,nat->aK,get->aV
open Go.Sx.Eo renaming ret->aU,at_->bJ
open Go.Sx.It renaming code->bD,inBlock->dh
open Go.Sx.Sh renaming i->aZ,er->bC,v->jF,sl->aH,agg->bU,os->jv,Ba->cZ,b->gq,str->dA
open Go.Sx.Tree renaming node->aG,need->aI,leaf->aC,fail->dJ
open Go.Value renaming nilIface->bM
open Int renaming ofNat->ah,negSucc->fG
open List renaming nil_append->jK,mem_append->bK,length_cons->iT,mem_map->dL,range->aY,map_congr_left->lF,replicate->dU
open List.cons renaming injEq->qK
open Nat renaming le_refl->dw,le_succ->wE,zero_add->gU,beq->fC,eq_of_beq_eq_true->fH
open Option renaming some->ay,none->aN,isSome_iff_exists->gI
open Option.some renaming injEq->kU,inj->dH
namespace Go.Tb
open Go Go.Sx
abbrev L{α:Type}(k:Nat)(v:α):BT α:=.node .nil k v .nil
abbrev N{α:Type}(l:BT α)(k:Nat)(v:α)(r:BT α):BT α:=.node l k v r
abbrev z:SV:=.int .i64 0
abbrev tF:Kr:=⟨.fn,1,8,[.GN]⟩
abbrev tS(n:Nat):Kr:=⟨.slice n,1,24,[.Bj]⟩
abbrev tP(n:Nat):Kr:=⟨.ptr n,1,8,[.Fg]⟩
end Go.Tb
namespace Go.Proofs
section
open Go Go.Sx Go.Tb
def Tryz.tys:BT Kr:=(N (N (N (N (N (N (N (N (L 1 tF) 2 ⟨.int .i64,1,8,[z]⟩ .nil) 3 ⟨.int .i64,1,8,[z]⟩ (L 4 ⟨.bool,1,1,[.bool aA]⟩)) 5 ⟨.int .u8,1,1,[.int .u8 0]⟩ (N (N (L 7 ⟨.struct [(0,1,aA),(1,1,aA),(2,1,aA),(3,1,aA)],4,24,[z,z,.bool aA,.int .u8 0]⟩) 9 ⟨.str,1,16,[.str []]⟩ .nil) 12 ⟨.int .u64,1,8,[.int .u64 0]⟩ (L 13 ⟨.struct [(0,1,aA),(1,1,aA)],2,24,[.str [],.int .u64 0]⟩))) 15 (tP 331) (N (N (N (L 16 (tP 334)) 17 (tP 341) .nil) 18 ⟨.struct [(0,1,aA)],1,8,[.Fg]⟩ (L 20 ⟨.iface,1,16,[.Ed]⟩)) 21 ⟨.int .i32,1,4,[.int .i32 0]⟩ (N (L 22 (tS 140)) 23 (tS 71) (L 24 ⟨.struct [(0,1,aA),(1,1,aA)],2,48,[.Bj,.Bj]⟩)))) 25 ⟨.struct [(0,1,aA),(1,1,aA)],2,48,[.Bj,.Bj]⟩ (N (N (N (N (L 26 tF) 27 tF .nil) 28 (tS 115) (L 29 (tS 3))) 30 (tS 147) (N (N (L 31 ⟨.struct [(0,1,aA),(1,1,aA),(2,1,aA),(3,1,aA),(4,1,aA)],5,104,[z,.Bj,.Bj,.Bj,.Bj]⟩) 32 ⟨.struct [(0,1,aA),(1,1,aA),(2,1,aA),(3,1,aA),(4,1,aA)],5,104,[z,.Bj,.Bj,.Bj,.Bj]⟩ .nil) 33 ⟨.struct [(0,1,aA),(1,1,aA)],2,32,[z,.Bj]⟩ (L 34 ⟨.struct [(0,1,aA),(1,1,aA)],2,32,[z,.Bj]⟩))) 36 tF (N (N (N (L 38 tF) 39 ⟨.struct [(0,1,aA),(1,1,aA)],2,32,[z,.Bj]⟩ .nil) 40 ⟨.struct [(0,1,aA),(1,1,aA)],2,32,[z,.Bj]⟩ (L 41 (tP 3))) 42 (tS 55) (N (L 43 ⟨.struct [(0,1,aA),(1,1,aA),(2,1,aA)],3,40,[.bool aA,.Bj,z]⟩) 44 ⟨.struct [(0,1,aA),(1,1,aA),(2,1,aA)],3,40,[.bool aA,.Bj,z]⟩ (L 45 ⟨.iface,1,16,[.Ed]⟩))))) 46 ⟨.iface,1,16,[.Ed]⟩ (N (N (N (N (N (L 48 tF) 49 tF .nil) 51 tF (L 52 tF)) 53 tF (N (N (L 54 ⟨.struct [(0,1,aA),(1,1,aA)],2,16,[z,.bool aA]⟩) 55 ⟨.struct [(0,1,aA),(1,1,aA)],2,16,[z,.bool aA]⟩ .nil) 56 tF (L 57 tF))) 58 tF (N (N (N (L 60 tF) 61 tF .nil) 62 tF (L 64 tF)) 65 (tS 42) (N (L 66 ⟨.struct [(0,1,aA),(1,1,aA),(2,1,aA),(3,1,aA),(4,1,aA)],5,72,[.bool aA,.Bj,.Bj,z,z]⟩) 67 ⟨.struct [(0,1,aA),(1,1,aA),(2,1,aA),(3,1,aA),(4,1,aA)],5,72,[.bool aA,.Bj,.Bj,z,z]⟩ (L 69 tF)))) 70 ⟨.struct [(0,1,aA),(1,1,aA),(2,1,aA),(3,1,aA),(4,1,aA),(5,1,aA),(6,1,aA),(7,1,aA)],8,64,[z,z,z,z,z,z,z,z]⟩ (N (N (N (N (L 71 ⟨.struct [(0,1,aA),(1,1,aA),(2,1,aA),(3,1,aA),(4,1,aA),(5,1,aA),(6,1,aA),(7,1,aA)],8,64,[z,z,z,z,z,z,z,z]⟩) 72 tF .nil) 73 tF (L 74 tF)) 75 (tS 76) (N (L 76 ⟨.struct [(0,1,aA),(1,1,aA),(2,1,aA)],3,40,[.bool aA,.Bj,z]⟩) 78 tF (L 79 tF))) 80 tF (N (N (N (L 82 tF) 83 tF .nil) 85 tF (L 87 tF)) 88 tF (N (L 89 tF) 91 tF (L 92 tF)))))) 93 (tP 102) (N (N (N (N (N (N (L 95 tF) 96 (tS 211) .nil) 97 ⟨.struct [(0,1,aA)],1,24,[.Bj]⟩ (L 98 ⟨.struct [(0,1,aA)],1,24,[.Bj]⟩)) 99 ⟨.struct [(0,1,aF)],1,24,[.Bj]⟩ (N (N (L 100 ⟨.struct [(0,1,aF)],1,24,[.Bj]⟩) 101 ⟨.struct [(0,1,aA),(1,1,aA),(2,1,aA),(3,1,aF)],4,80,[z,.Bj,.Bj,.Bj]⟩ .nil) 102 ⟨.struct [(0,1,aA),(1,1,aA),(2,1,aA),(3,1,aF)],4,80,[z,.Bj,.Bj,.Bj]⟩ (L 103 ⟨.struct [(0,1,aA),(1,1,aF)],2,32,[z,.Bj]⟩))) 104 ⟨.struct [(0,1,aA),(1,1,aF)],2,32,[z,.Bj]⟩ (N (N (N (L 105 (tS 108)) 106 tF .nil) 107 ⟨.struct [(0,2,aF),(2,2,aF)],4,48,[z,.bool aA,z,.Bj]⟩ (L 108 ⟨.struct [(0,2,aF),(2,2,aF)],4,48,[z,.bool aA,z,.Bj]⟩)) 109 (tP 111) (N (L 110 ⟨.struct [(0,1,aA),(1,1,aA)],2,24,[z,.Ed]⟩) 111 ⟨.struct [(0,1,aA),(1,1,aA)],2,24,[z,.Ed]⟩ (L 112 tF)))) 113 (tS 197) (N (N (N (N (L 114 ⟨.struct [(0,1,aA),(1,1,aA),(2,1,aA),(3,1,aA),(4,1,aA),(5,1,aA),(6,1,aA)],7,72,[z,z,z,z,z,z,.Bj]⟩) 115 ⟨.struct [(0,1,aA),(1,1,aA),(2,1,aA),(3,1,aA),(4,1,aA),(5,1,aA),(6,1,aA)],7,72,[z,z,z,z,z,z,.Bj]⟩ .nil) 116 (tP 181) (L 118 tF)) 119 tF (N (L 120 tF) 122 tF (L 123 tF))) 124 tF (N (N (N (L 125 tF) 126 tF .nil) 127 tF (L 128 tF)) 129 ⟨.struct [(0,3,aF),(3,1,aA)],4,56,[.bool aA,.Bj,z,.Ed]⟩ (N (L 130 ⟨.struct [(0,3,aF),(3,1,aA)],4,56,[.bool aA,.Bj,z,.Ed]⟩) 131 (tS 40) (L 133 tF))))) 134 (tS 4) (N (N (N (N (N (L 135 tF) 136 tF .nil) 137 tF (L 138 tF)) 139 ⟨.struct [(0,1,aA),(1,1,aA)],2,16,[z,z]⟩ (N (N (L 140 ⟨.struct [(0,1,aA),(1,1,aA)],2,16,[z,z]⟩) 141 tF .nil) 142 ⟨.struct [(0,1,aA),(1,1,aA),(2,1,aA),(3,1,aA)],4,80,[.Bj,.Bj,.Bj,z]⟩ (L 143 ⟨.struct [(0,1,aA),(1,1,aA),(2,1,aA),(3,1,aA)],4,80,[.Bj,.Bj,.Bj,z]⟩))) 144 tF (N (N (N (L 145 tF) 146 ⟨.struct [(0,1,aA),(1,1,aA),(2,1,aA),(3,1,aA)],4,64,[z,z,.Bj,.Bj]⟩ .nil) 147 ⟨.struct [(0,1,aA),(1,1,aA),(2,1,aA),(3,1,aA)],4,64,[z,z,.Bj,.Bj]⟩ (L 149 tF)) 150 tF (N (L 151 ⟨.int .u64,1,8,[.int .u64 0]⟩) 152 tF (L 154 (tP 204))))) 155 tF (N (N (N (N (L 156 ⟨.struct [(0,1,aA),(1,1,aA)],2,24,[z,.str []]⟩) 157 ⟨.struct [(0,1,aA),(1,1,aA)],2,24,[z,.str []]⟩ .nil) 158 (tS 104) (L 159 ⟨.struct [(0,1,aA),(1,1,aA)],2,32,[.Bj,z]⟩)) 160 ⟨.struct [(0,1,aA),(1,1,aA)],2,32,[.Bj,z]⟩ (N (L 162 tF) 163 tF (L 164 tF))) 165 tF (N (N (N (L 167 tF) 168 tF .nil) 169 ⟨.map 157 4,1,8,[.F6]⟩ (L 170 tF)) 171 tF (N (L 172 tF) 174 tF (L 175 tF))))))) 176 tF (N (N (N (N (N (N (N (L 177 tF) 178 (tS 182) .nil) 179 ⟨.map 3 182,1,8,[.F6]⟩ (L 180 ⟨.struct [(0,1,aA),(1,1,aA),(2,1,aA),(3,1,aA),(4,1,aA)],5,72,[.Bj,z,.Bj,.F6,.F6]⟩)) 181 ⟨.struct [(0,1,aA),(1,1,aA),(2,1,aA),(3,1,aA),(4,1,aA)],5,72,[.Bj,z,.Bj,.F6,.F6]⟩ (N (N (L 182 (tP 184)) 183 ⟨.struct [(0,7,aF),(7,1,aA)],8,80,[z,z,z,z,z,z,.Bj,z]⟩ .nil) 184 ⟨.struct [(0,7,aF),(7,1,aA)],8,80,[z,z,z,z,z,z,.Bj,z]⟩ (L 185 tF))) 186 tF (N (N (N (L 187 tF) 188 tF .nil) 189 tF (L 190 tF)) 191 tF (N (L 192 tF) 193 (tP 143) (L 194 tF)))) 195 tF (N (N (N (N (L 196 ⟨.struct [(0,1,aA),(1,1,aA),(2,1,aA),(3,1,aA),(4,1,aA),(5,1,aA),(6,1,aA),(7,1,aA)],8,64,[z,z,z,z,z,z,z,z]⟩) 197 ⟨.struct [(0,1,aA),(1,1,aA),(2,1,aA),(3,1,aA),(4,1,aA),(5,1,aA),(6,1,aA),(7,1,aA)],8,64,[z,z,z,z,z,z,z,z]⟩ .nil) 199 tF (L 200 tF)) 201 ⟨.map 157 3,1,8,[.F6]⟩ (N (L 202 (tS 157)) 203 ⟨.struct [(0,1,aA),(1,1,aA),(2,1,aA)],3,40,[z,.F6,.Bj]⟩ (L 204 ⟨.struct [(0,1,aA),(1,1,aA),(2,1,aA)],3,40,[z,.F6,.Bj]⟩))) 205 tF (N (N (N (L 206 tF) 207 (tP 160) .nil) 208 ⟨.struct [],0,0,[]⟩ (L 209 (tS 272))) 210 ⟨.struct [(0,1,aA),(1,1,aA),(2,1,aA),(3,1,aA)],4,64,[z,z,.Bj,.Bj]⟩ (N (L 211 ⟨.struct [(0,1,aA),(1,1,aA),(2,1,aA),(3,1,aA)],4,64,[z,z,.Bj,.Bj]⟩) 213 tF (L 214 tF))))) 216 tF (N (N (N (N (N (L 217 tF) 218 tF .nil) 219 tF (L 220 tF)) 222 tF (N (N (L 223 ⟨.struct [(0,1,aA),(1,1,aA)],2,32,[.Bj,.GN]⟩) 224 ⟨.struct [(0,1,aA),(1,1,aA)],2,32,[.Bj,.GN]⟩ .nil) 225 ⟨.map 3 224,1,8,[.F6]⟩ (L 226 tF))) 227 tF (N (N (N (L 228 tF) 229 tF .nil) 230 tF (L 231 tF)) 232 tF (N (L 234 tF) 236 (tS 9) (L 237 tF)))) 238 tF (N (N (N (N (L 239 tF) 240 tF .nil) 241 tF (L 243 tF)) 245 tF (N (L 246 tF) 247 tF (L 248 tF))) 249 ⟨.map 3 248,1,8,[.F6]⟩ (N (N (N (L 250 tF) 251 tF .nil) 252 ⟨.struct [(0,1,aA),(1,1,aA),(2,1,aA),(3,1,aA)],4,32,[.GN,z,z,z]⟩ (L 253 ⟨.struct [(0,1,aA),(1,1,aA),(2,1,aA),(3,1,aA)],4,32,[.GN,z,z,z]⟩)) 255 (tP 71) (N (L 256 tF) 257 (tP 197) (L 258 tF)))))) 259 tF (N (N (N (N (N (N (L 260 tF) 261 tF .nil) 262 tF (L 263 tF)) 264 tF (N (N (L 265 tF) 266 tF .nil) 267 tF (L 268 tF))) 269 tF (N (N (N (L 270 tF) 271 ⟨.struct [(0,1,aA),(1,1,aA)],2,16,[z,z]⟩ .nil) 272 ⟨.struct [(0,1,aA),(1,1,aA)],2,16,[z,z]⟩ (L 273 tF)) 274 (tP 277) (N (L 275 (tS 5)) 276 ⟨.struct [(0,1,aA),(1,1,aA)],2,32,[.Fg,.Bj]⟩ (L 277 ⟨.struct [(0,1,aA),(1,1,aA)],2,32,[.Fg,.Bj]⟩)))) 278 tF (N (N (N (N (L 279 tF) 280 tF .nil) 282 tF (L 283 tF)) 284 ⟨.map 3 283,1,8,[.F6]⟩ (N (L 285 tF) 286 tF (L 288 tF))) 289 (tS 253) (N (N (N (L 290 tF) 291 tF .nil) 292 tF (L 293 (tP 5))) 294 tF (N (L 295 tF) 297 tF (L 298 tF))))) 299 tF (N (N (N (N (N (L 300 ⟨.arr 4 9,4,64,[.str [],.str [],.str [],.str []]⟩) 301 ⟨.arr 7 9,7,112,[.str [],.str [],.str [],.str [],.str [],.str [],.str []]⟩ .nil) 302 ⟨.arr 9 9,9,144,[.str [],.str [],.str [],.str [],.str [],.str [],.str [],.str [],.str []]⟩ (L 303 ⟨.arr 3 9,3,48,[.str [],.str [],.str []]⟩)) 305 tF (N (N (L 306 tF) 307 tF .nil) 308 tF (L 309 tF))) 310 tF (N (N (N (L 311 (tS 209)) 312 tF .nil) 313 tF (L 314 ⟨.arr 24 5,24,24,[.int .u8 0,.int .u8 0,.int .u8 0,.int .u8 0,.int .u8 0,.int .u8 0,.int .u8 0,.int .u8 0,.int .u8 0,.int .u8 0,.int .u8 0,.int .u8 0,.int .u8 0,.int .u8 0,.int .u8 0,.int .u8 0,.int .u8 0,.int .u8 0,.int .u8 0,.int .u8 0,.int .u8 0,.int .u8 0,.int .u8 0,.int .u8 0]⟩)) 315 ⟨.int .u64,1,8,[.int .u64 0]⟩ (N (L 316 tF) 317 tF (L 319 tF)))) 320 tF (N (N (N (N (L 321 tF) 322 ⟨.arr 20 315,20,160,[.int .u64 0,.int .u64 0,.int .u64 0,.int .u64 0,.int .u64 0,.int .u64 0,.int .u64 0,.int .u64 0,.int .u64 0,.int .u64 0,.int .u64 0,.int .u64 0,.int .u64 0,.int .u64 0,.int .u64 0,.int .u64 0,.int .u64 0,.int .u64 0,.int .u64 0,.int .u64 0]⟩ .nil) 323 ⟨.int .u32,1,4,[.int .u32 0]⟩ (L 324 ⟨.arr 65 5,65,65,[.int .u8 0,.int .u8 0,.int .u8 0,.int .u8 0,.int .u8 0,.int .u8 0,.int .u8 0,.int .u8 0,.int .u8 0,.int .u8 0,.int .u8 0,.int .u8 0,.int .u8 0,.int .u8 0,.int .u8 0,.int .u8 0,.int .u8 0,.int .u8 0,.int .u8 0,.int .u8 0,.int .u8 0,.int .u8 0,.int .u8 0,.int .u8 0,.int .u8 0,.int .u8 0,.int .u8 0,.int .u8 0,.int .u8 0,.int .u8 0,.int .u8 0,.int .u8 0,.int .u8 0,.int .u8 0,.int .u8 0,.int .u8 0,.int .u8 0,.int .u8 0,.int .u8 0,.int .u8 0,.int .u8 0,.int .u8 0,.int .u8 0,.int .u8 0,.int .u8 0,.int .u8 0,.int .u8 0,.int .u8 0,.int .u8 0,.int .u8 0,.int .u8 0,.int .u8 0,.int .u8 0,.int .u8 0,.int .u8 0,.int .u8 0,.int .u8 0,.int .u8 0,.int .u8 0,.int .u8 0,.int .u8 0,.int .u8 0,.int .u8 0,.int .u8 0,.int .u8 0]⟩)) 325 tF (N (L 326 tF) 327 ⟨.arr 32 5,32,32,[.int .u8 0,.int .u8 0,.int .u8 0,.int .u8 0,.int .u8 0,.int .u8 0,.int .u8 0,.int .u8 0,.int .u8 0,.int .u8 0,.int .u8 0,.int .u8 0,.int .u8 0,.int .u8 0,.int .u8 0,.int .u8 0,.int .u8 0,.int .u8 0,.int .u8 0,.int .u8 0,.int .u8 0,.int .u8 0,.int .u8 0,.int .u8 0,.int .u8 0,.int .u8 0,.int .u8 0,.int .u8 0,.int .u8 0,.int .u8 0,.int .u8 0,.int .u8 0]⟩ (L 328 ⟨.arr 64 5,64,64,[.int .u8 0,.int .u8 0,.int .u8 0,.int .u8 0,.int .u8 0,.int .u8 0,.int .u8 0,.int .u8 0,.int .u8 0,.int .u8 0,.int .u8 0,.int .u8 0,.int .u8 0,.int .u8 0,.int .u8 0,.int .u8 0,.int .u8 0,.int .u8 0,.int .u8 0,.int .u8 0,.int .u8 0,.int .u8 0,.int .u8 0,.int .u8 0,.int .u8 0,.int .u8 0,.int .u8 0,.int .u8 0,.int .u8 0,.int .u8 0,.int .u8 0,.int .u8 0,.int .u8 0,.int .u8 0,.int .u8 0,.int .u8 0,.int .u8 0,.int .u8 0,.int .u8 0,.int .u8 0,.int .u8 0,.int .u8 0,.int .u8 0,.int .u8 0,.int .u8 0,.int .u8 0,.int .u8 0,.int .u8 0,.int .u8 0,.int .u8 0,.int .u8 0,.int .u8 0,.int .u8 0,.int .u8 0,.int .u8 0,.int .u8 0,.int .u8 0,.int .u8 0,.int .u8 0,.int .u8 0,.int .u8 0,.int .u8 0,.int .u8 0,.int .u8 0]⟩))) 329 (tP 343) (N (N (N (L 330 ⟨.struct [(0,1,aA),(1,1,aA),(2,1,aA),(3,1,aA)],4,40,[.Fg,.Fg,.Fg,.str []]⟩) 332 ⟨.arr 0 16,0,0,[]⟩ .nil) 333 ⟨.struct [(0,0,aF)],0,0,[]⟩ (L 337 tF)) 340 ⟨.struct [(0,1,aA),(1,1,aA),(2,1,aA),(3,1,aA),(4,1,aA),(5,1,aA),(6,1,aA),(7,1,aA),(8,1,aA),(9,1,aA),(10,1,aA)],11,48,[.int .u64 0,.int .u64 0,.int .u32 0,.int .u8 0,.int .u8 0,.int .u8 0,.int .u8 0,.GN,.Fg,.int .i32 0,.int .i32 0]⟩ (N (L 342 ⟨.struct [(0,1,aA)],1,16,[.str []]⟩) 343 ⟨.struct [(0,1,aA)],1,16,[.str []]⟩ (L 344 tF))))))))
noncomputable def Tryz.fns:BT Func:=(N (N (N (N (N (N (N (L 3 Tryz.f3) 4 Tryz.f4 (L 5 Tryz.f5)) 6 Tryz.f6 (N (L 7 Tryz.f7) 8 Tryz.f8 .nil)) 9 Tryz.f9 (N (N (L 10 Tryz.f10) 11 Tryz.f11 (L 12 Tryz.f12)) 13 Tryz.f13 (N (L 14 Tryz.f14) 15 Tryz.f15 .nil))) 16 Tryz.f16 (N (N (N (L 17 Tryz.f17) 18 Tryz.f18 (L 19 Tryz.f19)) 20 Tryz.f20 (N (L 21 Tryz.f21) 22 Tryz.f22 .nil)) 23 Tryz.f23 (N (N (L 24 Tryz.f24) 25 Tryz.f25 (L 26 Tryz.f26)) 27 Tryz.f27 (N (L 28 Tryz.f28) 29 Tryz.f29 .nil)))) 30 Tryz.f30 (N (N (N (N (L 31 Tryz.f31) 32 Tryz.f32 (L 33 Tryz.f33)) 34 Tryz.f34 (N (L 35 Tryz.f35) 36 Tryz.f36 .nil)) 37 Tryz.f37 (N (N (L 38 Tryz.f38) 39 Tryz.f39 (L 40 Tryz.f40)) 41 Tryz.f41 (N (L 42 Tryz.f42) 43 Tryz.f43 .nil))) 44 Tryz.f44 (N (N (N (L 45 Tryz.f45) 46 Tryz.f46 (L 47 Tryz.f47)) 48 Tryz.f48 (N (L 49 Tryz.f49) 50 Tryz.f50 .nil)) 51 Tryz.f51 (N (N (L 52 Tryz.f52) 53 Tryz.f53 .nil) 54 Tryz.f54 (N (L 55 Tryz.f55) 56 Tryz.f56 .nil))))) 57 Tryz.f57 (N (N (N (N (N (L 58 Tryz.f58) 59 Tryz.f59 (L 60 Tryz.f60)) 61 Tryz.f61 (N (L 62 Tryz.f62) 63 Tryz.f63 .nil)) 64 Tryz.f64 (N (N (L 65 Tryz.f65) 66 Tryz.f66 (L 67 Tryz.f67)) 68 Tryz.f68 (N (L 69 Tryz.f69) 70 Tryz.f70 .nil))) 71 Tryz.f71 (N (N (N (L 72 Tryz.f72) 73 Tryz.f73 (L 74 Tryz.f74)) 75 Tryz.f75 (N (L 76 Tryz.f76) 77 Tryz.f77 .nil)) 78 Tryz.f78 (N (N (L 79 Tryz.f79) 80 Tryz.f80 .nil) 81 Tryz.f81 (N (L 82 Tryz.f82) 83 Tryz.f83 .nil)))) 84 Tryz.f84 (N (N (N (N (L 85 Tryz.f85) 86 Tryz.f86 (L 87 Tryz.f87)) 88 Tryz.f88 (N (L 89 Tryz.f89) 90 Tryz.f90 .nil)) 91 Tryz.f91 (N (N (L 92 Tryz.f92) 93 Tryz.f93 (L 94 Tryz.f94)) 95 Tryz.f95 (N (L 96 wZ) 97 Tryz.f97 .nil))) 98 Tryz.f98 (N (N (N (L 99 kS) 100 Tryz.f100 (L 101 Tryz.f101)) 102 Tryz.f102 (N (L 103 Tryz.f103) 104 Tryz.f104 .nil)) 105 Tryz.f105 (N (N (L 106 Tryz.f106) 107 Tryz.f107 .nil) 108 Tryz.f108 (N (L 109 Tryz.f109) 110 Tryz.f110 .nil)))))) 111 Tryz.f111 (N (N (N (N (N (N (L 112 Tryz.f112) 113 Tryz.f113 (L 114 Tryz.f114)) 115 Tryz.f115 (N (L 116 Tryz.f116) 117 Tryz.f117 .nil)) 118 Tryz.f118 (N (N (L 119 vC) 120 Tryz.f120 (L 121 vF)) 122 dK (N (L 123 Tryz.f123) 124 Tryz.f124 .nil))) 125 Tryz.f125 (N (N (N (L 126 Tryz.f126) 127 Tryz.f127 (L 128 Tryz.f128)) 129 Tryz.f129 (N (L 130 Tryz.f130) 131 Tryz.f131 .nil)) 132 Tryz.f132 (N (N (L 133 Tryz.f133) 134 Tryz.f134 (L 135 Tryz.f135)) 136 Tryz.f136 (N (L 137 Tryz.f137) 138 Tryz.f138 .nil)))) 139 Tryz.f139 (N (N (N (N (L 140 Tryz.f140) 141 Tryz.f141 (L 142 Tryz.f142)) 143 Tryz.f143 (N (L 144 Tryz.f144) 145 Tryz.f145 .nil)) 146 Tryz.f146 (N (N (L 147 Tryz.f147) 148 Tryz.f148 (L 149 Tryz.f149)) 150 Tryz.f150 (N (L 151 Tryz.f151) 152 Tryz.f152 .nil))) 153 Tryz.f153 (N (N (N (L 154 Tryz.f154) 155 Tryz.f155 (L 156 Tryz.f156)) 157 Tryz.f157 (N (L 158 Tryz.f158) 159 Tryz.f159 .nil)) 160 Tryz.f160 (N (N (L 161 Tryz.f161) 162 Tryz.f162 .nil) 163 Tryz.f163 (N (L 164 Tryz.f164) 165 Tryz.f165 .nil))))) 166 Tryz.f166 (N (N (N (N (N (L 167 Tryz.f167) 168 Tryz.f168 (L 169 Tryz.f169)) 170 Tryz.f170 (N (L 171 Tryz.f171) 172 Tryz.f172 .nil)) 173 Tryz.f173 (N (N (L 174 Tryz.f174) 175 Tryz.f175 (L 176 Tryz.f176)) 177 Tryz.f177 (N (L 178 Tryz.f178) 179 Tryz.f179 .nil))) 180 Tryz.f180 (N (N (N (L 181 Tryz.f181) 182 Tryz.f182 (L 183 Tryz.f183)) 184 Tryz.f184 (N (L 185 Tryz.f185) 186 Tryz.f186 .nil)) 187 Tryz.f187 (N (N (L 188 Tryz.f188) 189 Tryz.f189 .nil) 190 Tryz.f190 (N (L 191 Tryz.f191) 192 Tryz.f192 .nil)))) 193 Tryz.f193 (N (N (N (N (L 194 Tryz.f194) 195 Tryz.f195 (L 196 Tryz.f196)) 197 Tryz.f197 (N (L 198 Tryz.f198) 199 Tryz.f199 .nil)) 200 Tryz.f200 (N (N (L 201 Tryz.f201) 204 Tryz.f204 (L 205 Tryz.f205)) 207 Tryz.f207 (N (L 208 Tryz.f208) 209 Tryz.f209 .nil))) 210 Tryz.f210 (N (N (N (L 211 Tryz.f211) 212 Tryz.f212 (L 213 Tryz.f213)) 214 Tryz.f214 (N (L 215 Tryz.f215) 216 Tryz.f216 .nil)) 217 Tryz.f217 (N (N (L 218 Tryz.f218) 219 Tryz.f219 .nil) 220 Tryz.f220 (N (L 221 Tryz.f221) 222 Tryz.f222 .nil)))))))
def Tryz.live:BT Nat:=(N (N (N (N (N (N (N (L 3 35218732883959) 4 81130257423585920070131644399567 (L 5 20282409603656282110240556613407)) 6 8797166791631 (N (L 7 9445021196115443195903) 8 1284520576830907153924047 .nil)) 9 2251937269424119 (N (N (L 10 4083471642060274948278853338158436843503) 11 8175 (L 12 7)) 13 17303031 (N (L 14 4612812064639959007) 15 207 .nil))) 16 70845017306208267517903 (N (N (N (L 17 33685943) 18 31 (L 19 268470387)) 20 4159 (N (L 21 23) 22 23 .nil)) 23 14335 (N (N (L 24 7) 25 36524002295 (L 26 33557455)) 27 31 (N (L 28 638777136133500232728028643279) 29 23 .nil)))) 30 15 (N (N (N (N (L 31 2077) 32 2149585151 (L 33 5)) 34 540925 (N (L 35 9007203621079027) 36 263283 .nil)) 37 7 (N (N (L 38 2785366273595414553384992575) 39 20282565482478322020874687348527 (L 40 295219962791579485687)) 41 1237940113072357669249454075 (N (L 42 131191) 43 69226996735 .nil))) 44 983149 (N (N (N (L 45 7) 46 2566129655 (L 47 268470387)) 48 36031478185920503 (N (L 49 2099007) 50 31 .nil)) 51 76561194806677495 (N (N (L 52 4611826824635484151) 53 536871483 .nil) 54 2077 (N (L 55 5) 56 5 .nil))))) 57 4504703438225535 (N (N (N (N (N (L 58 5488420038750559896029471567983428603) 59 83 (L 60 287)) 61 31 (N (L 62 45035996290519027) 63 5 .nil)) 64 33023 (N (N (L 65 262459) 66 7 (L 67 11)) 68 9007199254773821 (N (L 69 77) 70 5 .nil))) 71 16106194419 (N (N (N (L 72 1101690831219) 73 119 (L 74 4620196376434196339)) 75 538854333 (N (L 76 17867066114039) 77 9445318576492100452863 .nil)) 78 541 (N (N (L 79 2899107766173950474215390087288321352934114299) 80 268439295 .nil) 81 7 (N (L 82 19) 83 1073741831 .nil)))) 84 571 (N (N (N (N (L 85 1) 86 9444769005542164140283 (L 87 262707)) 88 7 (N (L 89 2199090887711) 90 2077 .nil)) 91 91 (N (N (L 92 943) 93 5 (L 94 31)) 95 287 (N (L 96 31) 97 2199158520895 .nil))) 98 65615 (N (N (N (L 99 17179869199) 100 19 (L 101 9481627579855335850495)) 102 9373 (N (L 103 21) 104 3 .nil)) 105 19 (N (N (L 106 131339) 107 1099511693427 .nil) 108 92522022212955275391 (N (L 109 4198555) 110 67109427 .nil)))))) 111 17660955854071 (N (N (N (N (N (N (L 112 34387) 113 2077 (L 114 77928346935781219122975)) 115 7 (N (L 116 33261241786543) 117 138351151749653378483 .nil)) 118 7 (N (N (L 119 55) 120 2361471471810991128351 (L 121 65775)) 122 51 (N (L 123 61463) 124 7 .nil))) 125 143 (N (N (N (L 126 87) 127 268435671 (L 128 525363)) 129 71 (N (L 130 67) 131 66483 .nil)) 132 127 (N (N (L 133 1037) 134 35787119 (L 135 71582839)) 136 66099 (N (L 137 275955859571) 138 131635 .nil)))) 139 15 (N (N (N (N (L 140 5) 141 73788102194745311519 (L 142 2077)) 143 83010348331718212735 (N (L 144 264091) 145 5 .nil)) 146 5 (N (N (L 147 2097283) 148 51 (L 149 5)) 150 32887 (N (L 151 5) 152 5 .nil))) 153 711 (N (N (N (L 154 3) 155 5 (L 156 4432676798715)) 157 7 (N (L 158 1127) 159 1 .nil)) 160 1 (N (N (L 161 2113775) 162 1 .nil) 163 1 (N (L 164 1) 165 1 .nil))))) 166 8431 (N (N (N (N (N (L 167 1) 168 5 (L 169 1048695)) 170 5 (N (L 171 524353) 172 19 .nil)) 173 457 (N (N (L 174 461) 175 461 (L 176 461)) 177 21 (N (L 178 9161) 179 2099151 .nil))) 180 21 (N (N (N (L 181 55) 182 295147905181504570311 (L 183 1995)) 184 16631 (N (L 185 33562571) 186 504373101 .nil)) 187 16583 (N (N (L 188 3) 189 3 .nil) 190 3 (N (L 191 3) 192 3 .nil)))) 193 3 (N (N (N (N (L 194 5) 195 5 (L 196 5)) 197 5 (N (L 198 5) 199 5 .nil)) 200 5 (N (N (L 201 5) 204 2147618759 (L 205 23)) 207 3 (N (L 208 65619) 209 17188391667 .nil))) 210 3 (N (N (N (L 211 21) 212 13 (L 213 2923003971560093291123168138537876760321514930163)) 214 20426010943356750102455122975 (N (L 215 525) 216 5 .nil)) 217 16661 (N (N (L 218 13) 219 5 .nil) 220 5 (N (L 221 21) 222 21 .nil)))))))
theorem Tryz.tysB_:asL aB Tryz.tys=aF:=by kernel_rfl
theorem Tryz.fnsAre_:ae9 aB Tryz.fns:=⟨Tryz.func111,⟨Tryz.func57,⟨Tryz.func30,⟨Tryz.func16,⟨Tryz.func9,⟨Tryz.func6,⟨Tryz.func4,⟨Tryz.func3,trivial,trivial⟩,⟨Tryz.func5,trivial,trivial⟩⟩,⟨Tryz.func8,⟨Tryz.func7,trivial,trivial⟩,trivial⟩⟩,⟨Tryz.func13,⟨Tryz.func11,⟨Tryz.func10,trivial,trivial⟩,⟨Tryz.func12,trivial,trivial⟩⟩,⟨Tryz.func15,⟨Tryz.func14,trivial,trivial⟩,trivial⟩⟩⟩,⟨Tryz.func23,⟨Tryz.func20,⟨Tryz.func18,⟨Tryz.func17,trivial,trivial⟩,⟨Tryz.func19,trivial,trivial⟩⟩,⟨Tryz.func22,⟨Tryz.func21,trivial,trivial⟩,trivial⟩⟩,⟨Tryz.func27,⟨Tryz.func25,⟨Tryz.func24,trivial,trivial⟩,⟨Tryz.func26,trivial,trivial⟩⟩,⟨Tryz.func29,⟨Tryz.func28,trivial,trivial⟩,trivial⟩⟩⟩⟩,⟨Tryz.func44,⟨Tryz.func37,⟨Tryz.func34,⟨Tryz.func32,⟨Tryz.func31,trivial,trivial⟩,⟨Tryz.func33,trivial,trivial⟩⟩,⟨Tryz.func36,⟨Tryz.func35,trivial,trivial⟩,trivial⟩⟩,⟨Tryz.func41,⟨Tryz.func39,⟨Tryz.func38,trivial,trivial⟩,⟨Tryz.func40,trivial,trivial⟩⟩,⟨Tryz.func43,⟨Tryz.func42,trivial,trivial⟩,trivial⟩⟩⟩,⟨Tryz.func51,⟨Tryz.func48,⟨Tryz.func46,⟨Tryz.func45,trivial,trivial⟩,⟨Tryz.func47,trivial,trivial⟩⟩,⟨Tryz.func50,⟨Tryz.func49,trivial,trivial⟩,trivial⟩⟩,⟨Tryz.func54,⟨Tryz.func53,⟨Tryz.func52,trivial,trivial⟩,trivial⟩,⟨Tryz.func56,⟨Tryz.func55,trivial,trivial⟩,trivial⟩⟩⟩⟩⟩,⟨Tryz.func84,⟨Tryz.func71,⟨Tryz.func64,⟨Tryz.func61,⟨Tryz.func59,⟨Tryz.func58,trivial,trivial⟩,⟨Tryz.func60,trivial,trivial⟩⟩,⟨Tryz.func63,⟨Tryz.func62,trivial,trivial⟩,trivial⟩⟩,⟨Tryz.func68,⟨Tryz.func66,⟨Tryz.func65,trivial,trivial⟩,⟨Tryz.func67,trivial,trivial⟩⟩,⟨Tryz.func70,⟨Tryz.func69,trivial,trivial⟩,trivial⟩⟩⟩,⟨Tryz.func78,⟨Tryz.func75,⟨Tryz.func73,⟨Tryz.func72,trivial,trivial⟩,⟨Tryz.func74,trivial,trivial⟩⟩,⟨Tryz.func77,⟨Tryz.func76,trivial,trivial⟩,trivial⟩⟩,⟨Tryz.func81,⟨Tryz.func80,⟨Tryz.func79,trivial,trivial⟩,trivial⟩,⟨Tryz.func83,⟨Tryz.func82,trivial,trivial⟩,trivial⟩⟩⟩⟩,⟨Tryz.func98,⟨Tryz.func91,⟨Tryz.func88,⟨Tryz.func86,⟨Tryz.func85,trivial,trivial⟩,⟨Tryz.func87,trivial,trivial⟩⟩,⟨Tryz.func90,⟨Tryz.func89,trivial,trivial⟩,trivial⟩⟩,⟨Tryz.func95,⟨Tryz.func93,⟨Tryz.func92,trivial,trivial⟩,⟨Tryz.func94,trivial,trivial⟩⟩,⟨Tryz.func97,⟨Tryz.func96,trivial,trivial⟩,trivial⟩⟩⟩,⟨Tryz.func105,⟨Tryz.func102,⟨Tryz.func100,⟨Tryz.func99,trivial,trivial⟩,⟨Tryz.func101,trivial,trivial⟩⟩,⟨Tryz.func104,⟨Tryz.func103,trivial,trivial⟩,trivial⟩⟩,⟨Tryz.func108,⟨Tryz.func107,⟨Tryz.func106,trivial,trivial⟩,trivial⟩,⟨Tryz.func110,⟨Tryz.func109,trivial,trivial⟩,trivial⟩⟩⟩⟩⟩⟩,⟨Tryz.func166,⟨Tryz.func139,⟨Tryz.func125,⟨Tryz.func118,⟨Tryz.func115,⟨Tryz.func113,⟨Tryz.func112,trivial,trivial⟩,⟨Tryz.func114,trivial,trivial⟩⟩,⟨xZ,⟨Tryz.func116,trivial,trivial⟩,trivial⟩⟩,⟨Tryz.func122,⟨Tryz.func120,⟨Tryz.func119,trivial,trivial⟩,⟨Tryz.func121,trivial,trivial⟩⟩,⟨Tryz.func124,⟨Tryz.func123,trivial,trivial⟩,trivial⟩⟩⟩,⟨Tryz.func132,⟨Tryz.func129,⟨Tryz.func127,⟨Tryz.func126,trivial,trivial⟩,⟨Tryz.func128,trivial,trivial⟩⟩,⟨Tryz.func131,⟨Tryz.func130,trivial,trivial⟩,trivial⟩⟩,⟨Tryz.func136,⟨Tryz.func134,⟨Tryz.func133,trivial,trivial⟩,⟨Tryz.func135,trivial,trivial⟩⟩,⟨Tryz.func138,⟨Tryz.func137,trivial,trivial⟩,trivial⟩⟩⟩⟩,⟨Tryz.func153,⟨Tryz.func146,⟨Tryz.func143,⟨Tryz.func141,⟨Tryz.func140,trivial,trivial⟩,⟨Tryz.func142,trivial,trivial⟩⟩,⟨Tryz.func145,⟨Tryz.func144,trivial,trivial⟩,trivial⟩⟩,⟨Tryz.func150,⟨x9,⟨yc,trivial,trivial⟩,⟨yg,trivial,trivial⟩⟩,⟨Tryz.func152,⟨Tryz.func151,trivial,trivial⟩,trivial⟩⟩⟩,⟨Tryz.func160,⟨Tryz.func157,⟨Tryz.func155,⟨Tryz.func154,trivial,trivial⟩,⟨Tryz.func156,trivial,trivial⟩⟩,⟨Tryz.func159,⟨Tryz.func158,trivial,trivial⟩,trivial⟩⟩,⟨Tryz.func163,⟨Tryz.func162,⟨Tryz.func161,trivial,trivial⟩,trivial⟩,⟨Tryz.func165,⟨Tryz.func164,trivial,trivial⟩,trivial⟩⟩⟩⟩⟩,⟨Tryz.func193,⟨Tryz.func180,⟨Tryz.func173,⟨yh,⟨Tryz.func168,⟨Tryz.func167,trivial,trivial⟩,⟨Tryz.func169,trivial,trivial⟩⟩,⟨yj,⟨yt,trivial,trivial⟩,trivial⟩⟩,⟨Tryz.func177,⟨Tryz.func175,⟨Tryz.func174,trivial,trivial⟩,⟨Tryz.func176,trivial,trivial⟩⟩,⟨Tryz.func179,⟨Tryz.func178,trivial,trivial⟩,trivial⟩⟩⟩,⟨Tryz.func187,⟨Tryz.func184,⟨Tryz.func182,⟨Tryz.func181,trivial,trivial⟩,⟨Tryz.func183,trivial,trivial⟩⟩,⟨Tryz.func186,⟨Tryz.func185,trivial,trivial⟩,trivial⟩⟩,⟨Tryz.func190,⟨Tryz.func189,⟨Tryz.func188,trivial,trivial⟩,trivial⟩,⟨Tryz.func192,⟨Tryz.func191,trivial,trivial⟩,trivial⟩⟩⟩⟩,⟨Tryz.func210,⟨Tryz.func200,⟨Tryz.func197,⟨Tryz.func195,⟨Tryz.func194,trivial,trivial⟩,⟨Tryz.func196,trivial,trivial⟩⟩,⟨Tryz.func199,⟨Tryz.func198,trivial,trivial⟩,trivial⟩⟩,⟨Tryz.func207,⟨Tryz.func204,⟨yu,trivial,trivial⟩,⟨Tryz.func205,trivial,trivial⟩⟩,⟨yw,⟨Tryz.func208,trivial,trivial⟩,trivial⟩⟩⟩,⟨yx,⟨yA,⟨yB,⟨yC,trivial,trivial⟩,⟨yD,trivial,trivial⟩⟩,⟨yE,⟨Tryz.func215,trivial,trivial⟩,trivial⟩⟩,⟨yF,⟨yG,⟨yH,trivial,trivial⟩,trivial⟩,⟨yI,⟨yJ,trivial,trivial⟩,trivial⟩⟩⟩⟩⟩⟩⟩
theorem Tryz.entersB_:agM Tryz.fns=aF:=by kernel_rfl
theorem Tryz.mixed_:aB.follows .mixedOrders=aF:=by kernel_rfl
end
end Go.Proofs
namespace Go.Sx
def ad1(P:Program)(t:Nat):Bool:=
 (match P.underlying t with
  |some (.struct fs)=>match fs.toList with
   |[f,g]=>f.name != "_" && g.name != "_" && f.offset==0&&g.offset==1&&(match P.underlying f.type with|some (.int .i64)=>aF|_=>aA)&&(match P.underlying g.type with|some .string=>aF|_=>aA)
   |_=>aA
  |_=>aA) && !P.stoodInHeld t
section
variable{P:Program}
theorem ahd{t:Nat}{d:TypeDesc}(hu:P.underlying t=ay d)(hd:(match d with| .struct _| .array _ _=>aF|_=>aA)=aA){cs:Array Value}{j:Nat}{v:Value}(hj:cs[j]?=ay v)(w:World):(part t cs j).run P w=.ok v w:=by
 cases d<;>first|(simp at hd;done) |simp[part,isAgg,run_underlying hu,hj]
theorem afj{t:Nat}(h:ad1 P t=aF):RN P t:=by
 unfold ad1 at h;rw[aJ] at h;obtain ⟨h1,h2⟩:=h;have h2:P.stoodInHeld t=aA:=by simpa using h2
 split at h1
 ·rename_i fs hu
  split at h1
  ·rename_i f g hl
   simp only[aJ,bne_iff_ne,ne_eq,beq_iff_eq] at h1;obtain ⟨⟨⟨⟨⟨a1,a2⟩,a3⟩,a4⟩,a5⟩,a6⟩:=h1;have uf:P.underlying f.type=ay (.int .i64):=by
    split at a5
    ·assumption
    ·cases a5
   have ug:P.underlying g.type=ay .string:=by
    split at a6
    ·assumption
    ·cases a6
   have hfs:fs=#[f,g]:=by
    obtain ⟨l⟩:=fs;have hl:l=[f,g]:=hl;rw[hl]
   have p0 (n:Ea) (w:World):(part f.type #[.int .i64 n.1,.string ⟨n.2.toArray⟩] 0).run P w=.ok (.int .i64 n.1) w:=ahd uf rfl rfl w;have p1 (n:Ea) (w:World):(part g.type #[.int .i64 n.1,.string ⟨n.2.toArray⟩] 1).run P w=.ok (.string ⟨n.2.toArray⟩) w:=ahd ug rfl rfl w;refine ⟨⟨fs,hu⟩,fun em n w=>?_,fun n m w=>?_⟩
   ·have ci:∀(d:Nat) (k:Int),(jc em (d+1) f.type (.int .i64 k)).run P w=.ok () w:=fun d k=>by simp[jc,run_underlying uf]
    have cs:∀(d:Nat) (s:ByteArray),(jc em (d+1) g.type (.string s)).run P w=.ok () w:=fun d s=>by simp[jc,run_underlying ug]
    have:∀d:Nat,(jc em (d+2) t (Dz n)).run P w=.ok () w:=fun d=>by
     unfold Dz;rw[jc];simp[run_underlying hu,hfs,a1,a2,a3,a4,p0,p1,ci,cs]
    exact this 9998
   ·have hf:P.fieldsOf t=fs:=by simp[Program.fieldsOf,hu]
    have he:=run_equalIn_struct (P:=P) w 9999 t #[.int .i64 n.1,.string ⟨n.2.toArray⟩] #[.int .i64 m.1,.string ⟨m.2.toArray⟩] (by rw[hf];exact hu) h2;have q1:=run_equalIn_int (P:=P) w 9998 f.type .i64 .i64 n.1 m.1 uf;have q2:=run_equalIn_string (P:=P) w 9998 g.type ⟨n.2.toArray⟩ ⟨m.2.toArray⟩ ug;show (Op.equalIn 10000 t (Dz n) (Dz m)).run P w=_;unfold Dz;rw[he,hf,hl];simp only[Op.eqFields,a1,a2,a3,a4,p0,p1,q1,q2,ac8,ne_eq,not_false_eq_true,if_true,Sem.run_bind,Result.andThen_ok,Sem.run_ite,Sem.run_pure];obtain ⟨x,l⟩:=n;obtain ⟨y,k⟩:=m;by_cases q:x=y<;>by_cases q2:l=k<;>simp[q,q2]
  ·cases h1
 ·cases h1
end
end Go.Sx
namespace Go.Proofs
open Go Go.Sx
abbrev Wd:=Nat->Nat->List UInt8
def Xg(W:Wd)(g:Nat)(n:Nat):List Sh:=match n with
 |3=>[.str (W g 0),.str (W g 1),.str (W g 2)] |4=>[.str (W g 0),.str (W g 1),.str (W g 2),.str (W g 3)] |7=>[.str (W g 0),.str (W g 1),.str (W g 2),.str (W g 3),.str (W g 4),.str (W g 5),.str (W g 6)] |9=>[.str (W g 0),.str (W g 1),.str (W g 2),.str (W g 3),.str (W g 4),.str (W g 5),.str (W g 6),.str (W g 7),.str (W g 8)] |_=>[]
def pow10:List Int:=[1,10,100,1000,10000,100000,1000000,10000000,100000000,1000000000,10000000000,100000000000,1000000000000,10000000000000,100000000000000,1000000000000000,10000000000000000,100000000000000000,1000000000000000000,10000000000000000000]
def BG(W:Wd):List (Nat×Sh):=[(0,.er 0 329),(1,.er 1 329),(2,.er 2 329),(3,.er 3 329),(4,.er 4 329),(5,.er 5 329),(6,.er 6 329),(7,.er 7 329),(8,.er 8 329),(9,.er 9 329),(10,.er 10 329),(11,.er 11 329),(12,.er 12 329),(13,.er 13 329),(14,.er 14 329),(15,.er 15 329),
 (16,.Ba (Xg W 16 4)),(17,.Ba (Xg W 17 7)),(18,.Ba (Xg W 18 9)),(19,.Ba (Xg W 19 3)),(20,.Ba (Xg W 20 4)),(21,.Ba (Xg W 21 4)),(23,.Ba (pow10.map (aZ .u64)))]
def W7:Wd:=fun g i=>(match g,i with
 |16,0=>[114,101,103,105,115,116,101,114] |16,1=>[99,111,117,110,116,101,114] |16,2=>[113,117,101,117,101] |16,3=>[109,97,112] |17,0=>[98,101,103,105,110] |17,1=>[99,97,108,108] |17,2=>[114,101,116,117,114,110] |17,3=>[116,114,121] |17,4=>[99,111,109,109,105,116] |17,5=>[97,98,111,114,116] |17,6=>[99,97,110,99,101,108] |18,0=>[114,101,97,100] |18,1=>[119,114,105,116,101] |18,2=>[97,100,100] |18,3=>[103,101,116] |18,4=>[101,110,113] |18,5=>[100,101,113] |18,6=>[112,117,116] |18,7=>[108,111,111,107] |18,8=>[100,101,108] |19,0=>[111,107] |19,1=>[110,111,110,101] |19,2=>[118,97,108] |20,0=>[108,105,118,101] |20,1=>[112,101,110,100,105,110,103] |20,2=>[99,111,109,109,105,116,116,101,100] |20,3=>[97,98,111,114,116,101,100] |21,0=>[115,101,114,105,97,108] |21,1=>[115,116,114,105,99,116] |21,2=>[102,105,110,97,108] |21,3=>[111,112,97,113,117,101] |_,_=>[])
def noSpec:Nat->Option (List Sh->Tree Sh):=fun _=>aN
def aol:Nat->Option VT
 |169=>ay .bool |201=>ay .int |_=>aN
theorem akT(t:Nat)(h:List.contains [157] t=aF):RN aB t:=by
 obtain rfl:t=157:=by simpa using h
 exact afj (by kernel_rfl)
noncomputable def C7(A:Prim)(W:Wd)(spec:Nat->Option (List Sh->Tree Sh))(stop:Nat->List Nat->Bool):Ctx:=
 {A,tys:=Tryz.tys,fns:=Tryz.fns,spec,eqs:=[272,55],VQ:=[329],MP:=stop,gls:=BG W,live:=Tryz.live,pks:=[157],aeH:=aol}
theorem asQ:WW aB Tryz.tys [272,55]=aF:=by kernel_rfl
theorem asR:agT aB [329]=aF:=by kernel_rfl
def aom:Nat->Option Nat
 |182=>ay 272 |_=>aN
def ajp:Nat->Option Nat
 |208=>ay 272 |_=>aN
noncomputable def Yg(A:Prim)(W:Wd)(spec:Nat->Option (List Sh->Tree Sh))(stop:Nat->List Nat->Bool):Ctx:=
 {A,tys:=Tryz.tys,fns:=Tryz.fns,spec,eqs:=[272,55],VQ:=[329],MP:=stop,gls:=BG W,live:=Tryz.live,pks:=[157],aeH:=aol,ins:=aom,lend:=fun g=>g==181||g==184,grow:=ajp}
theorem C7.ok(spec:Nat->Option (List Sh->Tree Sh))(stop:Nat->List Nat->Bool):BL aB (C7 Aw W7 spec stop):=
 ⟨abe Tryz.tysB_,Qu Tryz.fnsAre_,rfl,Tryz.mixed_,fun t i h hi xs ys w h1 h2 x y=>Ya (Qx asQ t i h hi) xs ys w h1 h2 x y,WV asR,akT⟩
theorem Yg.ok(spec:Nat->Option (List Sh->Tree Sh))(stop:Nat->List Nat->Bool):BL aB (Yg Aw W7 spec stop):=
 ⟨abe Tryz.tysB_,Qu Tryz.fnsAre_,rfl,Tryz.mixed_,fun t i h hi xs ys w h1 h2 x y=>Ya (Qx asQ t i h hi) xs ys w h1 h2 x y,WV asR,akT⟩
theorem C7.Um{spec:Nat->Option (List Sh->Tree Sh)}{stop:Nat->List Nat->Bool}(hs:∀g F,spec g=ay F->Bh aB (BG W7) g F)(he:∀g,(spec g).isSome=aF->(Tryz.fns.get g).isSome=aF):Cb aB (C7 Aw W7 spec stop):=
 ⟨hs,fun g h=>by
  rcases h with h|h
  ·exact Ht Tryz.fnsAre_ Tryz.entersB_ g (he g h)
  ·exact Ht Tryz.fnsAre_ Tryz.entersB_ g h,fun _ _ _ h=>(by cases h),fun _ _ _ h=>(by cases h)⟩
theorem MB(stop:Nat->List Nat->Bool):Cb aB (C7 Aw W7 noSpec stop):=C7.Um (fun _ _ h=>by cases h) (fun _ h=>by cases h)
def Ec:Nat->Bool:=fun _=>aA
def Bc:Nat->List Nat->Bool:=fun _ _=>aF
abbrev L0:Nat:=1000000000000000000000000000000
def A8:Nat->List Nat->Bool:=fun _ _=>aA
end Go.Proofs
namespace Go.Sx
open Go.RowKit (Below)
theorem abE{H:Mem}{w w':World}{s:Sh}{v:Value}(hs:∀b0,(Dk s b0).2=([],b0))(hd:∀b0,Den H (fun _=>aN) (Dk s b0).1 v)(on:H.on w)(h:Below w.heap.size w w'):EJ H w s v H w':=by
 have hb (b:Nat) (o:Obj) (e:H b=ay o):b<w.heap.size:=(bH.1 (on b o e)).1;refine ⟨fun _ _ e=>e,fun b o e=>?_,h.os,h.tape,h.output,h.size,h.block,fun b hb=>.inl hb,fun b0=>⟨fun _=>aN,fun i hi=>(hi rfl).elim,fun i b hb=>by simp[bk] at hb,hd b0,?_⟩⟩
 ·rw[h.block b (hb b o e)];exact on b o e
 ·rw[hs b0]
  exact ⟨fun _ _ h=>by simp[DL,AA] at h,fun _ _ _ _ _ h=>by simp[DL,AA] at h⟩
theorem Zp{P:Program}{gls:List (Nat×Sh)}{f:Nat}{F:List Sh->Tree Sh}
  (h:∀(H:Mem) (w:World) (BI:List Sh) (args:List Value) (φ:Sh->Prop),H.on w->Dt gls H->D9 H BI args->(F BI).All φ->
   ∃s v,φ s/\(∀b0,(Dk s b0).2=([],b0))/\(∀b0,Den H (fun _=>aN) (Dk s b0).1 v)/\Calls P f args.toArray w fun e w'=>e=.returned v/\Below w.heap.size w w'):Bh P gls f F:=by
 intro H w BI args φ on hg hr hφ;obtain ⟨s,v,hs,h1,h2,hc⟩:=h H w BI args φ on hg hr hφ;exact hc.mono fun e w' ⟨he,hw⟩=>⟨v,s,H,he,hs,abE h1 h2 on hw⟩
mutual
def Xh:Sh->Sh
 | .os _ st n g=>.sl st n g | .agg l=>.agg (Xi l) | .Ba l=>.Ba (Xi l) |s=>s
def Xi:List Sh->List Sh
 |[]=>[] |x::r=>Xh x::Xi r
end
def aon(H:Mem)(E:Env)(l:List (Nat×SB)):Prop:=∀i e st n g,(i,SB.own e st n g)∈l->∃v,E i=ay v/\Rep H (.sl st n g) v
theorem Yh(x:Value):Ie (SV.lit x)=aF:=by cases x<;>rfl
mutual
theorem al8:∀s:Sh,Ie (XJ s)=aF
 | .agg l=>by simpa[XJ,Ie] using NM l | .Ba l=>by simpa[XJ,Ie] using NM l | .fn f l=>by simpa[XJ,Ie] using NM l | .i _ _=>rfl | .b _=>rfl | .v x=>Yh x | .pt _=>rfl | .str _=>rfl | .sl _ _ _=>rfl | .os _ _ _ _=>rfl | .Dv _ _=>rfl | .er _ _=>rfl
theorem NM:∀l:List Sh,LV (Q8 l)=aF
 |[]=>rfl |x::r=>by simp[Q8,LV,al8 x,NM r]
end
theorem ahe(f:Nat)(l:List Sh):Ie (.fn f (Q8 l))=aF:=by simpa[Ie] using NM l
mutual
theorem ahf{H:Mem}{E:Env}:∀(s:Sh) (b:Nat) (v:Value),aon H E (Dk s b).2.1->Den H E (Dk s b).1 v->∀b',Den H Me (Dk (Xh s) b').1 v/\(Dk (Xh s) b').2=([],b')
 | .os e st n g,b,v,hf,h,b'=>by
  obtain ⟨h1,_⟩:=h;obtain ⟨u,h2,h3⟩:=hf b e st n g (by simp[Dk]);rw[h1] at h2;cases h2;exact ⟨h3,rfl⟩
 | .agg l,b,v,hf,h,b'=>by
  obtain ⟨vs,rfl,h⟩:=h;obtain ⟨h1,h2⟩:=Yi l b vs.toList hf h b';exact ⟨⟨vs,rfl,h1⟩,h2⟩
 | .Ba l,b,v,hf,h,b'=>by
  obtain ⟨vs,rfl,h⟩:=h;obtain ⟨h1,h2⟩:=Yi l b vs.toList hf h b';exact ⟨⟨vs,rfl,h1⟩,h2⟩
 | .i k n,b,v,_,h,b'=>⟨h,rfl⟩ | .b x,b,v,_,h,b'=>⟨h,rfl⟩ | .v x,b,v,_,h,b'=>⟨MX (E:=E) (Yh x) h,rfl⟩ | .str l,b,v,_,h,b'=>⟨h,rfl⟩ | .sl st n g,b,v,_,h,b'=>⟨h,rfl⟩ | .Dv t x,b,v,_,h,b'=>⟨h,rfl⟩ | .fn f l,b,v,_,h,b'=>⟨MX (E:=E) (x:=.fn f (Q8 l)) (ahe f l) h,rfl⟩ | .er g T,b,v,_,h,b'=>⟨h,rfl⟩ | .pt l,b,v,_,h,b'=>⟨h,rfl⟩
theorem Yi{H:Mem}{E:Env}:∀(l:List Sh) (b:Nat) (vs:List Value),aon H E (EL l b).2.1->AV H E (EL l b).1 vs->∀b',AV H Me (EL (Xi l) b').1 vs/\(EL (Xi l) b').2=([],b')
 |[],_,[],_,_,_=>⟨trivial,rfl⟩ |[],_,_::_,_,h,_=>h.elim |_::_,_,[],_,h,_=>h.elim |x::r,b,v::vs,hf,h,b'=>by
  obtain ⟨h1,h2⟩:=h;obtain ⟨q1,q2⟩:=ahf x b v (fun i e st n g hm=>hf i e st n g (by simp[EL,hm])) h1 b';obtain ⟨q3,q4⟩:=Yi r _ vs (fun i e st n g hm=>hf i e st n g (by simp[EL,hm])) h2 b';simp only[Xi,EL];rw[q2];simp only[jK];exact ⟨⟨q1,q3⟩,q4⟩
end
theorem SE(hp:List (Nat×SB)):∀l l':List (Nat×SB),DL hp (l++l')=DL (DL hp l) l'
 |[],_=>rfl |(i,b)::l,l'=>SE (hins hp i b) l l'
theorem Vj:∀(l:List (Nat×SB)) (i:Nat) (x:SB),AA (DL [] l) i=ay x->(i,x)∈l
 |[],_,_,h=>by simp[DL,AA] at h |(j,b)::l,i,x,h=>by
  rw[DL,Gn] at h;cases hq:AA (DL [] l) i with
  |some y=>
   rw[hq] at h;cases h;exact List.mem_cons_of_mem _ (Vj l i _ hq)
  |none=>
   rw[hq] at h;simp only[E5] at h;cases hj:(j==i)<;>simp only[hj,cond_true,cond_false] at h
   ·simp[AA] at h
   ·obtain rfl:j=i:=by simpa using hj
    cases h;simp
structure SH(l:List (Nat×SB))(b c:Nat):Prop where
 le:b<=c
 rng:∀i x,(i,x)∈l->b<=i/\i<c
 own:∀i x,(i,x)∈l->∃e st n g,x=.own e st n g
 at_:∀i x,(i,x)∈l->AA (DL [] l) i=ay x
theorem SH.nil(b:Nat):SH [] b b:=⟨dw _,fun _ _ h=>by simp at h,fun _ _ h=>by simp at h,fun _ _ h=>by simp at h⟩
theorem SH.append{l l':List (Nat×SB)}{b c d:Nat}(h:SH l b c)(h':SH l' c d):SH (l++l') b d:=by
 refine ⟨Nat.le_trans h.le h'.le,fun i x hm=>?_,fun i x hm=>?_,fun i x hm=>?_⟩
 ·rcases bK.1 hm with hm|hm
  ·have:=h.rng i x hm;have:=h'.le;omega
  ·have:=h'.rng i x hm;have:=h.le;omega
 ·rcases bK.1 hm with hm|hm
  ·exact h.own i x hm
  ·exact h'.own i x hm
 ·rw[SE,Gn]
  rcases bK.1 hm with hm|hm
  ·cases hq:AA (DL [] l') i with
   |none=>exact h.at_ i x hm |some y=>
    have h1:=h'.rng i y (Vj l' i y hq);have h2:=h.rng i x hm;omega
  ·rw[h'.at_ i x hm]
mutual
theorem ad2:∀(s:Sh) (b:Nat),SH (Dk s b).2.1 b (Dk s b).2.2
 | .os e st n g,b=>by
  simp only[Dk];refine ⟨wE b,fun i x hm=>?_,fun i x hm=>?_,fun i x hm=>?_⟩<;>simp at hm<;>obtain ⟨rfl,rfl⟩:=hm
  ·omega
  ·exact ⟨_,_,_,_,rfl⟩
  ·simp[DL,hins,AA]
 | .agg l,b=>Vk l b | .Ba l,b=>Vk l b | .i _ _,b=>.nil b | .b _,b=>.nil b | .v _,b=>.nil b | .str _,b=>.nil b | .sl _ _ _,b=>.nil b | .Dv _ _,b=>.nil b | .fn _ _,b=>.nil b | .er _ _,b=>.nil b | .pt _,b=>.nil b
theorem Vk:∀(l:List Sh) (b:Nat),SH (EL l b).2.1 b (EL l b).2.2
 |[],b=>.nil b |x::r,b=>(ad2 x b).append (Vk r _)
end
theorem Vl:∀(ids:List Nat) (hp:List (Nat×SB)),(∀i x,AA hp i=ay x->(∃e st n g,x=.own e st n g)\/∃st n g,x=.fz st n g)->(∀i,i∈ids->AA hp i≠aN)->
  ∃hp',FH ids.length hp ids=ay hp'/\(∀i st n g,AA hp i=ay (.fz st n g)->AA hp' i=ay (.fz st n g))/\∀i e st n g,i∈ids->AA hp i=ay (.own e st n g)->AA hp' i=ay (.fz st n g)
 |[],hp,_,_=>⟨hp,rfl,fun _ _ _ _ h=>h,fun _ _ _ _ _ h=>by simp at h⟩ |id::ids,hp,ho,hi=>by
  cases hl:AA hp id with
  |none=>exact (hi id (by simp) hl).elim |some x=>
   rcases ho id x hl with ⟨e,st,n,g,rfl⟩ |⟨st,n,g,rfl⟩
   ·have look (i:Nat):AA (hset hp id (.fz st n g)) i=bif id==i then ay (.fz st n g) else AA hp i:=by rw[ES,hl];rfl
    obtain ⟨hp',h1,h2,h3⟩:=Vl ids (hset hp id (.fz st n g)) (fun i x h=>by
     rw[look] at h;cases hj:(id==i)<;>simp only[hj,cond_true,cond_false] at h
     ·exact ho i x h
     ·cases h;exact .inr ⟨_,_,_,rfl⟩) (fun i hm=>by
     rw[look];cases hj:(id==i)<;>simp only[cond_true,cond_false]
     ·exact hi i (by simp[hm])
     ·simp)
    refine ⟨hp',by simp only[iT,FH,hl];exact h1,fun i st' n' g' h=>?_,fun i e' st' n' g' hm h=>?_⟩
    ·refine h2 i st' n' g' ?_
     rw[look];cases hj:(id==i)<;>simp only[cond_true,cond_false]
     ·exact h
     ·obtain rfl:id=i:=by simpa using hj
      rw[hl] at h;cases h
    ·cases hj:(id==i)
     ·have hne:¬i=id:=fun e=>by subst e;simp at hj
      refine h3 i e' st' n' g' (by simpa[hne] using hm) ?_;rw[look,hj];exact h
     ·obtain rfl:id=i:=by simpa using hj
      rw[hl] at h;cases h;refine h2 id _ _ _ ?_;rw[look,hj];rfl
   ·obtain ⟨hp',h1,h2,h3⟩:=Vl ids hp ho (fun i hm=>hi i (by simp[hm]))
    refine ⟨hp',?_,h2,fun i e' st' n' g' hm h=>?_⟩
    ·have:FH (ids.length+1) hp (id::ids)=FH ids.length hp ids:=by simp only[FH,hl]
     rw[iT,this];exact h1
    ·rcases List.mem_cons.1 hm with rfl|hm
     ·rw[hl] at h;cases h
     ·exact h3 i e' st' n' g' hm h
theorem EJ.Xh{H:Mem}{w:World}{s:Sh}{v:Value}{H':Mem}{w':World}(r:EJ H w s v H' w'):∃H2,EJ H w (Xh s) v H2 w':=by
 obtain ⟨E1,h1,h2,h3,h4⟩:=r.res 0;have ids:=ad2 s 0;have Cm:Es ⟨w,fun _=>False,H⟩ H' w':=⟨r.os,r.tape,r.output,r.size,fun b hb _=>r.old b hb,r.on,r.I7,fun b hb=>(r.fresh b hb).imp id .inl⟩;obtain ⟨hp',a1,a2,a3⟩:=Vl ((Dk s 0).2.1.map (·.1)) (DL [] (Dk s 0).2.1) (fun i x h=>.inl (ids.own i x (Vj _ i x h))) (fun i hm=>by
  obtain ⟨⟨j,x⟩,hm',rfl⟩:=dL.1 hm;show AA _ j≠aN;rw[ids.at_ j x hm'];simp)
 obtain ⟨H2,b1,b2,b3,_⟩:=IE a1 h4 Cm;have fz:aon H2 E1 (Dk s 0).2.1:=fun i e st n g hm=>b2.ent i _ (a3 i e st n g (dL.2 ⟨_,hm,rfl⟩) (ids.at_ i _ hm));have hd:=ahf s 0 v fz (Den.le b1 (fun _ _ e=>e) h3);refine ⟨H2,b3.le,b3.on,r.os,r.tape,r.output,r.size,r.old,fun b hb=>?_,fun b0=>⟨Me,fun i hi=>(hi rfl).elim,fun i b hb=>by simp[bk,Me] at hb,(hd b0).1,?_⟩⟩
 ·rcases b3.fresh b hb with h|h|h
  ·exact .inl h
  ·exact .inr h
  ·exact h.elim
 ·rw[(hd b0).2]
  exact Px
theorem Bh.Xh{P:Program}{gls:List (Nat×Sh)}{f:Nat}{F F':List Sh->Tree Sh}(h:Bh P gls f F)(hF:∀BI (φ:Sh->Prop),(F' BI).All φ->(F BI).All fun s=>φ (Go.Sx.Xh s)):Bh P gls f F':=
 fun H w BI args φ on hg hr hφ=>(h H w BI args _ on hg hr (hF BI φ hφ)).mono fun _ _ ⟨v,_,_,he,hs,r⟩=>let ⟨H2,r2⟩:=r.Xh;⟨v,_,H2,he,hs,r2⟩
end Go.Sx
namespace Go.Pl
open Go Go.Sx
structure Oj where
 kind:Int
 init:Int
 deriving DecidableEq,Inhabited
structure Pr where
 key:Int
 val:Int
 deriving DecidableEq,Inhabited
structure Cl where
 obj:Int
 op:Int
 key:Int
 val:Int
 deriving DecidableEq,Inhabited
def obR(o:Oj):List Sh:=[.i .i64 o.kind,.i .i64 o.init]
def prR(e:Pr):List Sh:=[.i .i64 e.key,.i .i64 e.val]
def clR(e:Cl):List Sh:=[.i .i64 e.obj,.i .i64 e.op,.i .i64 e.key,.i .i64 e.val]
def stR(s:List UInt8):List Sh:=[.str s]
def inR(n:Int):List Sh:=[.i .i64 n]
class Row(α:Type)where
 put:α->List Sh
 get:List Sh->Option α
 DJ:∀l a,get l=ay a->put a=l
 get_put:∀a,get (put a)=ay a
 JJ:α
instance:Row Oj where
 put:=obR
 get l:=match l with
  |[.i .i64 a,.i .i64 b]=>ay ⟨a,b⟩ |_=>aN
 DJ l a h:=by
  split at h
  ·cases h;rfl
  ·cases h
 get_put a:=rfl
 JJ:=⟨0,0⟩
instance:Row Pr where
 put:=prR
 get l:=match l with
  |[.i .i64 a,.i .i64 b]=>ay ⟨a,b⟩ |_=>aN
 DJ l a h:=by
  split at h
  ·cases h;rfl
  ·cases h
 get_put a:=rfl
 JJ:=⟨0,0⟩
instance:Row Cl where
 put:=clR
 get l:=match l with
  |[.i .i64 a,.i .i64 b,.i .i64 c,.i .i64 d]=>ay ⟨a,b,c,d⟩ |_=>aN
 DJ l a h:=by
  split at h
  ·cases h;rfl
  ·cases h
 get_put a:=rfl
 JJ:=⟨0,0,0,0⟩
instance:Row (List UInt8) where
 put:=stR
 get l:=match l with
  |[.str a]=>ay a |_=>aN
 DJ l a h:=by
  split at h
  ·cases h;rfl
  ·cases h
 get_put a:=rfl
 JJ:=[]
instance:Row Int where
 put:=inR
 get l:=match l with
  |[.i .i64 a]=>ay a |_=>aN
 DJ l a h:=by
  split at h
  ·cases h;rfl
  ·cases h
 get_put a:=rfl
 JJ:=0
def okB(α:Type)[Row α](n:Nat)(g:Nat->List Sh):Bool:=
 match n with
 |0=>aF |n+1=>okB α n g&&(Row.get (α:=α) (g n)).isSome
def AB{α:Type}[Row α](g:Nat->List Sh)(i:Nat):α:=(Row.get (g i)).getD Row.JJ
def lst(α:Type)[Row α](n:Nat)(g:Nat->List Sh):List α:=(aY n).map (AB g)
def nth{α:Type}[Row α](l:List α)(i:Nat):α:=l.getD i Row.JJ
def Az{α:Type}[Row α](o:Nat->α):Nat->List Sh:=fun j=>Row.put (o j)
section
variable{α:Type}[Row α]
theorem Jj{n:Nat}{g:Nat->List Sh}(h:okB α n g=aF):∀i,i<n->g i=Row.put (AB (α:=α) g i):=by
 induction n with
 |zero=>intro i hi;omega |succ n ih=>
  simp only[okB,aJ] at h;intro i hi;by_cases e:i=n
  ·subst e
   obtain ⟨a,ha⟩:=gI.1 h.2;simp only[AB,ha,Option.getD_some];exact (Row.DJ _ _ ha).symm
  ·exact ih h.1 i (by omega)
theorem Eh(o:Nat->α):∀n,okB α n (Az o)=aF
 |0=>rfl |n+1=>by simp[okB,Eh o n,Az,Row.get_put]
theorem aas{g:Nat->List Sh}{o:Nat->α}:∀{n:Nat},(∀i,i<n->g i=Row.put (o i))->okB α n g=aF
 |0,_=>rfl |n+1,h=>by simp[okB,aas (n:=n) fun i hi=>h i (by omega),h n (by omega),Row.get_put]
theorem NP(o:Nat->α)(i:Nat):AB (Az o) i=o i:=by simp[AB,Az,Row.get_put]
@[simp] theorem FQ (n:Nat) (g:Nat->List Sh):(lst α n g).length=n:=by simp[lst]
theorem SI{n:Nat}{g:Nat->List Sh}{i:Nat}(h:i<n):nth (lst α n g) i=AB g i:=by simp[nth,lst,h]
theorem PD(o:Nat->α)(n:Nat):lst α n (Az o)=(aY n).map o:=by
 unfold lst;refine lF fun i _=>NP o i
theorem abG(l:List α):(aY l.length).map (nth l)=l:=by
 apply List.ext_getElem
 ·simp
 ·intro i h1 h2
  simp[nth,h2]
theorem Ll(l:List α):lst α l.length (Az (nth l))=l:=by rw[PD,abG]
theorem abH{n:Nat}{g g':Nat->List Sh}(h:∀i,i<n->g i=g' i):lst α n g=lst α n g':=by
 unfold lst;refine lF fun i hi=>?_
 simp[AB,h i (List.mem_range.1 hi)]
end
theorem ER{H:Mem}{st n:Nat}{g g':Nat->List Sh}{v:Value}(h:Rep H (.sl st n g) v)(hg:∀j,j<n->g j=g' j):Rep H (.sl st n g') v:=by
 cases h with
 |sl0 _ _ A cap hc=>exact .sl0 _ _ _ _ hc |sl _ _ _ b off cap c h1 h2 h3 h4 h5 h6=>exact .sl _ _ _ b off cap c h1 h2 (fun i hi=>by rw[<-hg i hi];exact h3 i hi) h4 h5 fun i j s hi e=>h6 i j s hi (by rw[hg i hi];exact e)
theorem EK{α:Type}[Row α]{H:Mem}{st n:Nat}{g:Nat->List Sh}{v:Value}(h:Rep H (.sl st n g) v)(hg:okB α n g=aF):Rep H (.sl st n (Az (AB (α:=α) g))) v:=
 ER h fun j hj=>Jj hg j hj
def len{α:Type}(l:List α):Nat:=l.length
def fO(g:Nat->List Sh):Nat->List Sh:=Az (AB (α:=Oj) g)
open Go Go.Sx
theorem AO(a b:Int):Aw.lt a b=decide (a<b):=rfl
theorem DK(a b:Int):Aw.le a b=decide (a<=b):=rfl
theorem Bd(a b:Int):Aw.eq a b=(a==b):=rfl
theorem BO(a:Int)(n:Nat):Aw.inB a n=decide (0<=a/\a<n):=rfl
theorem II(a:Int)(n:Nat):Aw.upTo a n=decide (0<=a/\a<=n):=rfl
theorem ET(n b:Nat):Aw.room n b=decide (n*b<=140737488355328/\n<=maxLen):=rfl
theorem Dn(a:Int):Aw.toN a=a.toNat:=rfl
theorem Bg(n:Nat):Aw.Bl n=(n:Int):=rfl
theorem DU(n m:Nat):Aw.addN n m=n+m:=rfl
theorem abI(n m:Nat):Aw.JM n m=n - m:=rfl
theorem Yj(n m:Nat):Aw.leN n m=decide (n<=m):=rfl
theorem CU(b:Bool):Aw.nt b=!b:=rfl
theorem Ep(a b c:Bool):Aw.ite a b c=bif a then b else c:=rfl
theorem al9(a b:Bool):Aw.beq a b=(a==b):=rfl
theorem Yk(a b:List UInt8):Aw.seq a b=(a==b):=rfl
theorem DR(a b:Int):Aw.add .i64 a b=aW.wrap (a+b):=rfl
theorem MZ(a b:Int):Aw.sub .i64 a b=aW.wrap (a - b):=rfl
theorem Na(a b:Int):Aw.max a b=if b>a then b else a:=rfl
theorem EF(g:Nat->List Sh)(n:Nat)(h:Nat->List Sh)(i:Nat):Aw.snoc g n h i=if i<n then g i else h (i - n):=rfl
theorem CO{a:Int}(h1:-9223372036854775808<=a)(h2:a<=9223372036854775807):aW.wrap a=a:=by
 rw[IntKind.wrap_i64];omega
theorem Hz:ah 1=1:=rfl
theorem maxLen_eq:maxLen=9223372036854775807:=rfl
def BU(n b:Nat):Bool:=Aw.room n b
structure Di where
 kind:Int
 num:Int
 q:List Int
 ps:List Pr
 deriving DecidableEq,Inhabited
def Dy(s:Di):List Sh:=[.i .i64 s.kind,.i .i64 s.num,.sl 1 (len s.q) (Az (nth s.q)),.sl 2 (len s.ps) (Az (nth s.ps))]
def CY(d:Nat->Di):Nat->List Sh:=fun j=>Dy (d j)
end Go.Pl
namespace Go.Proofs
open Go.Shelf
def Tryz.lays156_ren:vG:=⟨fun|156=>117|165=>147|166=>148|169=>149|240=>171|241=>172|276=>202|277=>203|n=>n,fun|31=>236|9=>9|3=>3|4=>4|0=>0|20=>20|72=>277|76=>121|70=>274|37=>275|75=>46|127=>293|164=>304|5=>5|80=>206|n=>n,fun|n=>n⟩
theorem Tryz.lays156:yK aB Tryz.lays156_ren:={
 mixed:=by kernel_rfl
 f156:=xZ.trans (congrArg ay (by kernel_rfl))
 f165:=yc.trans (congrArg ay (by kernel_rfl))
 f166:=x9.trans (congrArg ay (by kernel_rfl))
 f169:=yg.trans (congrArg ay (by kernel_rfl))
 f240:=yt.trans (congrArg ay (by kernel_rfl))
 f241:=yj.trans (congrArg ay (by kernel_rfl))
 f276:=Tryz.func202.trans (congrArg ay (by kernel_rfl))
 f277:=Tryz.func203.trans (congrArg ay (by kernel_rfl))
 t0:=vH
 a0:=zo
 z0:=yL
 v0:=wF
 t3:=mQ
 a3:=zq
 z3:=yM
 v3:=wG
 t4:=vI
 a4:=zu
 z4:=yN
 v4:=wH
 t9:=lY
 a9:=zx
 z9:=yO
 v9:=wI
 t20:=uN
 a20:=yP
 z20:=xH
 v20:=vJ
 t31:=Tryz.underlying236
 a31:=Tryz.isAgg236
 z31:=Tryz.sizeOf236
 v31:=Tryz.zeroValue236
 t37:=tX
 a37:=xI
 z37:=xg
 v37:=uO
 t70:=Tryz.underlying274
 a70:=Tryz.isAgg274
 z70:=Tryz.sizeOf274
 v70:=Tryz.zeroValue274
 t72:=Tryz.underlying277
 a72:=Tryz.isAgg277
 z72:=Tryz.sizeOf277
 v72:=Tryz.zeroValue277
 t75:=Tryz.underlying46
 a75:=Tryz.isAgg46
 z75:=Tryz.sizeOf46
 v75:=Tryz.zeroValue46
 t76:=Tryz.underlying121
 a76:=Tryz.isAgg121
 z76:=Tryz.sizeOf121
 v76:=Tryz.zeroValue121
 t127:=Tryz.underlying293
 a127:=Tryz.isAgg293
 z127:=Tryz.sizeOf293
 v127:=Tryz.zeroValue293
 t164:=Tryz.underlying304
 a164:=Tryz.isAgg304
 z164:=Tryz.sizeOf304
 v164:=Tryz.zeroValue304}
theorem Tryz.Builder_Extra_156:Builder.Extra aB Tryz.lays156_ren:={
 sizeBuilder:=by kernel_rfl
 liesBuilder:=by kernel_rfl
 t5:=vK
 a5:=zy
 z5:=yQ
 v5:=wJ
 infoByte:=by kernel_rfl
 cellsByte:=by kernel_rfl
 sizeByte:=by kernel_rfl
 neB5:=by decide}
open Go.RowKit in
theorem Tryz.strings_Join_none(a:Option Addr)(c:Nat)(sep:ByteArray)(w:World):
  Calls aB 117 #[.slice a 0 c,.string sep] w fun e w'=>e=.returned (.string ⟨#[]⟩)/\w'=w:=Any.strings_Join_none Tryz.lays156 Tryz.Builder_Extra_156 a c sep w
open Go.RowKit in
theorem Tryz.strings_Join(bk o c:Nat)(xs:List ByteArray)(sep:ByteArray)(w:World)(hcells:∀(j:Nat) x,xs[j]?=ay x->w.cell? ⟨bk,o+j,aN⟩=ay (.string x))(hbk:bk<w.heap.size)(hN:xs.length<=140737488355328)(hcap:xs.length<=c)(hlen:(Lib.join (xs.map (·.data.toList)) sep.data.toList).length<=140737488355328):
  Calls aB 117 #[.slice (ay ⟨bk,o,aN⟩) xs.length c,.string sep] w fun e w'=>e=.returned (.string ⟨(Lib.join (xs.map (·.data.toList)) sep.data.toList).toArray⟩)/\Below w.heap.size w w':=Any.strings_Join Tryz.lays156 Tryz.Builder_Extra_156 bk o c xs sep w hcells hbk hN hcap hlen
def Tryz.laysM171_ren:vG:=⟨fun|171=>170|243=>201|246=>209|283=>211|284=>212|285=>213|286=>214|129=>217|317=>216|318=>218|319=>219|320=>220|337=>221|338=>222|n=>n,fun|3=>3|9=>9|2=>2|4=>4|171=>314|0=>0|53=>315|37=>275|5=>5|173=>318|212=>322|51=>323|20=>20|213=>324|46=>151|232=>327|233=>328|n=>n,fun|17=>23|18=>24|19=>25|n=>n⟩
theorem Tryz.laysM171:xJ aB Tryz.laysM171_ren:={
 mixed:=by kernel_rfl
 f129:=yx.trans (congrArg ay (by kernel_rfl))
 f171:=yh.trans (congrArg ay (by kernel_rfl))
 f243:=yu.trans (congrArg ay (by kernel_rfl))
 f246:=yw.trans (congrArg ay (by kernel_rfl))
 f283:=yC.trans (congrArg ay (by kernel_rfl))
 f284:=yB.trans (congrArg ay (by kernel_rfl))
 f285:=yD.trans (congrArg ay (by kernel_rfl))
 f286:=yA.trans (congrArg ay (by kernel_rfl))
 f317:=yE.trans (congrArg ay (by kernel_rfl))
 f318:=yH.trans (congrArg ay (by kernel_rfl))
 f319:=yG.trans (congrArg ay (by kernel_rfl))
 f320:=yF.trans (congrArg ay (by kernel_rfl))
 f337:=yJ.trans (congrArg ay (by kernel_rfl))
 f338:=yI.trans (congrArg ay (by kernel_rfl))
 t0:=vH
 a0:=zo
 z0:=yL
 v0:=wF
 t2:=Tryz.underlying2
 a2:=Tryz.isAgg2
 z2:=Tryz.sizeOf2
 v2:=Tryz.zeroValue2
 t3:=mQ
 a3:=zq
 z3:=yM
 v3:=wG
 t4:=vI
 a4:=zu
 z4:=yN
 v4:=wH
 t5:=vK
 a5:=zy
 z5:=yQ
 v5:=wJ
 t9:=lY
 a9:=zx
 z9:=yO
 v9:=wI
 t20:=uN
 a20:=yP
 z20:=xH
 v20:=vJ
 t37:=tX
 a37:=xI
 z37:=xg
 v37:=uO
 t46:=Tryz.underlying151
 a46:=Tryz.isAgg151
 z46:=Tryz.sizeOf151
 v46:=Tryz.zeroValue151
 t51:=Tryz.underlying323
 a51:=Tryz.isAgg323
 z51:=Tryz.sizeOf323
 v51:=Tryz.zeroValue323
 t53:=Tryz.underlying315
 a53:=Tryz.isAgg315
 z53:=Tryz.sizeOf315
 v53:=Tryz.zeroValue315
 t171:=Tryz.underlying314
 a171:=Tryz.isAgg314
 z171:=Tryz.sizeOf314
 v171:=Tryz.zeroValue314
 t173:=Tryz.underlying318
 a173:=Tryz.isAgg318
 z173:=Tryz.sizeOf318
 v173:=Tryz.zeroValue318
 t212:=Tryz.underlying322
 a212:=Tryz.isAgg322
 z212:=Tryz.sizeOf322
 v212:=Tryz.zeroValue322
 t213:=Tryz.underlying324
 a213:=Tryz.isAgg324
 z213:=Tryz.sizeOf324
 t232:=Tryz.underlying327
 a232:=Tryz.isAgg327
 z232:=Tryz.sizeOf327
 v232:=Tryz.zeroValue327
 t233:=Tryz.underlying328
 a233:=Tryz.isAgg328
 z233:=Tryz.sizeOf328
 v233:=Tryz.zeroValue328
 g17:=by kernel_rfl
 g18:=by kernel_rfl
 g19:=by kernel_rfl
 i0:=by kernel_rfl
 i2:=by kernel_rfl
 i3:=by kernel_rfl
 i4:=by kernel_rfl
 i5:=by kernel_rfl
 i9:=by kernel_rfl
 i20:=by kernel_rfl
 i37:=by kernel_rfl
 i46:=by kernel_rfl
 i51:=by kernel_rfl
 i53:=by kernel_rfl
 i171:=by kernel_rfl
 i173:=by kernel_rfl
 i212:=by kernel_rfl
 i232:=by kernel_rfl
 i233:=by kernel_rfl
 m17:=by kernel_rfl
 m18:=by kernel_rfl
 m19:=by kernel_rfl}
open Go.RowKit Go.Sort Go.Lib in
theorem Tryz.strconv_Itoa(n:Int)(h0:-9223372036854775808<=n)(h1:n<=9223372036854775807)(w:World)(htab:wK aB w "internal/strconv.uint64pow10" .u64 rJ) :
  Calls aB 170 #[.int .i64 n] w fun e w'=>e=.returned (.string ⟨(Lib.itoa n).toArray⟩)/\∃k os,w'=grow (w.drewN k) os:=Any.strconv_Itoa Tryz.laysM171 n h0 h1 w htab
end Go.Proofs
namespace Go.Pl
open Go Go.Sx
def BF(n:Int):List UInt8:=Go.Lib.itoa n
def DV(l:List (List UInt8))(sep:List UInt8):List UInt8:=Go.Lib.join l sep
def Dq(n:Int):Bool:=decide (-9223372036854775808<=n/\n<=9223372036854775807)
def IV(l:List UInt8):Bool:=decide (l.length<=140737488355328)
end Go.Pl
namespace Go.Proofs
open Go Go.Sx Go.Pl Go.RowKit Go.Sort Go.Lib
theorem ama{H:Mem}{k:IntKind}{n:Int}{v:Value}(h:Rep H (.i k n) v):v=.int k n:=by cases h;rfl
theorem ahg{H:Mem}{l:List UInt8}{v:Value}(h:Rep H (.str l) v):v=.string ⟨l.toArray⟩:=by cases h;rfl
theorem ado(w:World)(k:Nat)(os:Array Obj):Below w.heap.size w (grow (w.drewN k) os):=
 ⟨rfl,rfl,rfl,by show w.heap.size<=(w.heap++os).size;rw[Array.size_append];omega,fun j hj=>by
  show (w.heap++os)[j]?=w.heap[j]?;rw[Array.getElem?_append_left hj]⟩
theorem av1{H:Mem}{w:World}(on:H.on w)(hg:Dt (BG W7) H):wK aB w "internal/strconv.uint64pow10" .u64 rJ:=by
 obtain ⟨⟨cs,e,f,h1,h2⟩,c,h3,h4⟩:Gl H 23 (.Ba (pow10.map (aZ .u64))):=hg.at_ 23 _ (by rfl);have hgl:aB.globalNamed "internal/strconv.uint64pow10" = ay 23:=by kernel_rfl
 unfold wK World.var?;rw[hgl];simp only[Option.bind_some];rw[on _ _ h1];simp only[kU];apply Array.ext
 ·rw[h2];rfl
 ·intro i hi hi2
  have hi':i<(pow10.map (aZ .u64)).length:=by rw[<-h2];exact hi
  obtain ⟨q1,_⟩:=h3 i hi';have q3:cs[i]?=ay (c i):=by simpa[hcell,h1] using q1
  have hip:i<pow10.length:=by simpa using hi'
  have q4:=h4 i (.i .u64 pow10[i]) (by rw[List.getElem?_map,List.getElem?_eq_getElem hip];rfl);have q5:c i=.int .u64 pow10[i]:=ama q4;rw[Array.getElem?_eq_getElem hi] at q3;rw[dH q3,q5];have e:rJ=pow10:=by decide
  simp[e]
def F92:List Sh->Tree Sh
 |[.i .i64 n]=>.need (Dq n) (.leaf (.str (BF n))) |_=>.fail
theorem O92:Bh aB (BG W7) 170 F92:=Zp fun H w BI args φ on hg hr h=>by
 unfold F92 at h;split at h
 ·obtain ⟨h1,h2⟩:=h
  match args,hr with
  |[v],⟨hv,_⟩=>
   cases hv;have h1:=of_decide_eq_true h1;exact ⟨_,_,h2,fun _=>rfl,fun _=>.str _,(Tryz.strconv_Itoa _ h1.1 h1.2 w (av1 on hg)).mono fun e w' ⟨he,k,os,hw⟩=>⟨he,by rw[hw];exact ado w k os⟩⟩
 ·exact h.elim
def F56:List Sh->Tree Sh
 |[.sl 1 n g,.str sep]=>.need (okB (List UInt8) n g) (.need (BU n 16) (.need (IV (DV (lst (List UInt8) n g) sep)) (.leaf (.str (DV (lst (List UInt8) n g) sep))))) |_=>.fail
theorem O56:Bh aB (BG W7) 117 F56:=Zp fun H w BI args φ on hg hr h=>by
 unfold F56 at h;split at h
 ·rename_i n g sep
  obtain ⟨h1,h2,h3,h4⟩:=h;match args,hr with
  |[v,u],⟨hv,hu,_⟩=>
   cases hu;have h3:=of_decide_eq_true h3;refine ⟨_,_,h4,fun _=>rfl,fun _=>.str _,?_⟩;cases hv with
   |sl0 _ _ A cap hc=>
    refine (Tryz.strings_Join_none A cap ⟨sep.toArray⟩ w).mono fun e w' ⟨he,hw⟩=>⟨?_,hw ▸ zA _ _⟩;rw[he];rfl
   |sl _ _ _ b off cap c q1 q2 q3 q4 q5 q6=>
    have hs:∀i,i<n->c i 0=.string ⟨(AB (α:=List UInt8) g i).toArray⟩:=fun i hi=>
     ahg (q6 i 0 (.str (AB (α:=List UInt8) g i)) hi (by rw[Jj h1 i hi];rfl))
    have hcell:∀i,i<n->w.cell? ⟨b,off+i,aN⟩=ay (.string ⟨(AB (α:=List UInt8) g i).toArray⟩):=fun i hi=>by
     have:=MR on (q4 i 0 hi (by decide));simpa[hs i hi] using this
    by_cases hn:n=0
    ·subst hn
     refine (Tryz.strings_Join_none _ cap ⟨sep.toArray⟩ w).mono fun e w' ⟨he,hw⟩=>⟨?_,hw ▸ zA _ _⟩;rw[he];rfl
    have hb:b<w.heap.size:=by
     have:=hcell 0 (by omega);unfold World.cell? at this;cases hq:w.heap[b]? with
     |none=>simp[hq] at this |some o=>exact (bH.1 hq).1
    have hl:(((lst (List UInt8) n g).map fun l=>(⟨l.toArray⟩:ByteArray)).map (·.data.toList))=lst (List UInt8) n g:=by
     rw[List.map_map];simp[Function.comp_def]
    have hlen:((lst (List UInt8) n g).map fun l=>(⟨l.toArray⟩:ByteArray)).length=n:=by simp
    have:=Tryz.strings_Join b off cap ((lst (List UInt8) n g).map fun l=>(⟨l.toArray⟩:ByteArray)) ⟨sep.toArray⟩ w (fun j x hx=>by
     have hj:j<n:=by
      have:=(List.getElem?_eq_some_iff.1 hx).1;simpa using this
     rw[hcell j hj];simp[lst,hj] at hx;rw[<-hx]) hb (by rw[hlen];have:=of_decide_eq_true h2;omega) (by rw[hlen];exact q1) (by rw[hl];exact h3)
    rw[hl,hlen] at this;exact this
 ·exact h.elim
end Go.Proofs
namespace Go.Sx
mutual
def Wk:Sh->Sh->Prop
 | .os _ st n g,s'=>match s' with
  | .sl st' n' g'=>(n=0/\n'=0)\/(st=st'/\n=n'/\∀i,i<n->g i=g' i) |_=>False
 | .sl st n g,s'=>match s' with
  | .sl st' n' g'=>(n=0/\n'=0)\/(st=st'/\n=n'/\∀i,i<n->g i=g' i) |_=>False
 | .agg l,s'=>match s' with
  | .agg l'=>N7 l l' |_=>False
 | .Ba l,s'=>match s' with
  | .Ba l'=>N7 l l' |_=>False
 | .b x,s'=>s'=.b x\/s'=.v (.bool x) |s,s'=>s=s'
def N7:List Sh->List Sh->Prop
 |[],[]=>True |x::l,y::r=>Wk x y/\N7 l r |_,_=>False
end
theorem QB{H:Mem}{st n:Nat}{g:Nat->List Sh}{v:Value}(h:Rep H (.sl st n g) v){st' n':Nat}{g':Nat->List Sh}(hw:(n=0/\n'=0)\/(st=st'/\n=n'/\∀i,i<n->g i=g' i)):Rep H (.sl st' n' g') v:=by
 rcases hw with ⟨rfl,rfl⟩ |⟨rfl,rfl,hg⟩
 ·cases h with
  |sl0 _ _ A cap hc=>exact .sl0 _ _ _ _ hc |sl _ _ _ b off cap c h1 h2 h3 h4 h5 h6=>exact .sl0 _ _ _ _ h2
 ·cases h with
  |sl0 _ _ A cap hc=>exact .sl0 _ _ _ _ hc |sl _ _ _ b off cap c h1 h2 h3 h4 h5 h6=>exact .sl _ _ _ b off cap c h1 h2 (fun i hi=>by rw[<-hg i hi];exact h3 i hi) h4 h5 fun i j s hi e=>h6 i j s hi (by rw[hg i hi];exact e)
mutual
theorem afl{H:Mem}:∀(s s':Sh) (b b':Nat) (v:Value),Wk s s'->Den H Me (Dk (Xh s) b).1 v->Den H Me (Dk s' b').1 v/\(Dk s' b').2=([],b')
 | .os e st n g,s',b,b',v,hw,h=>by
  cases s'<;>simp only[Wk] at hw
  rename_i st' n' g';exact ⟨QB (show Rep H (.sl st n g) v from h) hw,rfl⟩
 | .sl st n g,s',b,b',v,hw,h=>by
  cases s'<;>simp only[Wk] at hw
  rename_i st' n' g';exact ⟨QB (show Rep H (.sl st n g) v from h) hw,rfl⟩
 | .agg l,s',b,b',v,hw,h=>by
  cases s'<;>simp only[Wk] at hw
  rename_i l';obtain ⟨vs,rfl,h⟩:=h;obtain ⟨q1,q2⟩:=abJ l l' b b' vs.toList hw h;exact ⟨⟨vs,rfl,q1⟩,q2⟩
 | .Ba l,s',b,b',v,hw,h=>by
  cases s'<;>simp only[Wk] at hw
  rename_i l';obtain ⟨vs,rfl,h⟩:=h;obtain ⟨q1,q2⟩:=abJ l l' b b' vs.toList hw h;exact ⟨⟨vs,rfl,q1⟩,q2⟩
 | .b x,s',b,b',v,hw,h=>by
  simp only[Wk] at hw;rcases hw with rfl|rfl
  ·exact ⟨h,rfl⟩
  ·exact ⟨h,rfl⟩
 | .i k n,s',b,b',v,hw,h=>by simp only[Wk] at hw;subst hw;exact ⟨h,rfl⟩ | .v x,s',b,b',v,hw,h=>by simp only[Wk] at hw;subst hw;exact ⟨h,rfl⟩ | .str l,s',b,b',v,hw,h=>by simp only[Wk] at hw;subst hw;exact ⟨h,rfl⟩ | .Dv t x,s',b,b',v,hw,h=>by simp only[Wk] at hw;subst hw;exact ⟨h,rfl⟩ | .fn f l,s',b,b',v,hw,h=>by simp only[Wk] at hw;subst hw;exact ⟨h,rfl⟩ | .er g T,s',b,b',v,hw,h=>by simp only[Wk] at hw;subst hw;exact ⟨h,rfl⟩ | .pt l,s',b,b',v,hw,h=>by simp only[Wk] at hw;subst hw;exact ⟨h,rfl⟩
theorem abJ{H:Mem}:∀(l l':List Sh) (b b':Nat) (vs:List Value),N7 l l'->AV H Me (EL (Xi l) b).1 vs->AV H Me (EL l' b').1 vs/\(EL l' b').2=([],b')
 |[],[],_,_,[],_,_=>⟨trivial,rfl⟩ |[],_::_,_,_,_,hw,_=>by simp[N7] at hw |_::_,[],_,_,_,hw,_=>by simp[N7] at hw |[],[],_,_,_::_,_,h=>h.elim |_::_,_::_,_,_,[],_,h=>h.elim |x::l,y::r,b,b',v::vs,hw,h=>by
  simp only[N7] at hw;obtain ⟨h1,h2⟩:=h;obtain ⟨q1,q2⟩:=afl x y b b' v hw.1 h1;obtain ⟨q3,q4⟩:=abJ l r _ b' vs hw.2 h2;simp only[EL];rw[q2];simp only[jK];exact ⟨⟨q1,q3⟩,q4⟩
end
mutual
theorem ad3:∀(s:Sh) (b:Nat),Ie (Dk (Xh s) b).1=aF
 | .os _ _ _ _,_=>rfl | .agg l,b=>by simpa[Xh,Dk,Ie] using Vm l b | .Ba l,b=>by simpa[Xh,Dk,Ie] using Vm l b | .i _ _,_=>rfl | .b _,_=>rfl | .v x,_=>Yh x | .str _,_=>rfl | .sl _ _ _,_=>rfl | .Dv _ _,_=>rfl | .fn f l,_=>ahe f l | .er _ _,_=>rfl | .pt _,_=>rfl
theorem Vm:∀(l:List Sh) (b:Nat),LV (EL (Xi l) b).1=aF
 |[],_=>rfl |x::r,b=>by simp[Xi,EL,LV,ad3 x b,Vm r]
end
theorem EJ.wk{H:Mem}{w:World}{s s':Sh}{v:Value}{H':Mem}{w':World}(r:EJ H w s v H' w')(hw:Wk s s'):∃H2,EJ H w s' v H2 w':=by
 obtain ⟨H2,r⟩:=r.Xh;obtain ⟨E1,h1,h2,h3,h4⟩:=r.res 0;have hd0:Den H2 Me (Dk (Go.Sx.Xh s) 0).1 v:=MX (E:=E1) (ad3 s 0) h3;refine ⟨H2,r.I7,r.on,r.os,r.tape,r.output,r.size,r.old,r.fresh,fun b0=>⟨Me,fun i hi=>(hi rfl).elim,fun i b hb=>by simp[bk,Me] at hb,(afl s s' 0 b0 v hw hd0).1,?_⟩⟩;rw[(afl s s' 0 b0 v hw hd0).2];exact Px
def up(φ:Sh->Prop)(s:Sh):Prop:=∃s',Wk s s'/\φ s'
def BN:Nat->Bool:=fun _=>aA
section
variable{P:Program}{C:Ctx}
theorem ahi(hC:BL P C){g:Nat}{fn:Func}(hfn:C.fns.get g=ay fn)(hb:fn.body.isSome=aF){H:Mem}{w:World}{Ew:List Sh}{args:List Value}{φ:Sh->Prop}{L:Nat}(hon:H.on w)(hg:Dt C.gls H)(hr:D9 H Ew args)
  (hgo:BK P C (K0 H w) g [.code []] (AL fn.ntmps Ew L) [] emp φ):Calls P g args.toArray w fun e w'=>∃v s H',e=.returned v/\φ s/\EJ H w s v H' w':=by
 obtain ⟨body,hbody⟩:=gI.1 hb;have hP:=hC.fn g fn hfn;intro cs;let a:Act:={tmps:=args.toArray++Array.replicate (fn.ntmps - args.toArray.size) undef,defers:=[]}
 have hlen:=hr.length;have st:St C (K0 H w) H E0 w (AL fn.ntmps Ew L) a:=by
  refine ⟨?_,⟨fun _ _ h=>by simp[AL,AA] at h,fun _ _ _ _ _ h=>by simp[AL,AA] at h⟩,⟨rfl,rfl,rfl,dw _,fun _ _ _=>rfl,hon,fun _ _ h=>h,fun _ h=>.inl h⟩,fun _ _ _=>rfl,hg,rfl⟩;have:a.tmps.toList=args++dU (fn.ntmps - Ew.length) undef:=by simp[a,hlen]
  rw[this];exact (JA hr).append (AV.any _ _ (by simp))
 have hit:CX (AU fn) [.code []] [.code body]:=by
  have:=CX.code (body:=AU fn) [] CX.nil;have he:Bo (AU fn) []=body:=by simp[Bo,AU,hbody]
  rwa[he] at this
 obtain ⟨a',w',v,s,H',todo,fn0,q0,q1,q2,q3,q4,q5⟩:=hgo H E0 w a [.code body] [] cs fn hfn st hit trivial WT;exact ⟨.returned v,w',_,⟨v,s,H',rfl,q3,q4⟩,by rw[Lh hP hbody];exact q1,rfl,rfl,q2,rfl,fn,hP,by cases hfn.symm.trans q0;exact q5⟩
theorem FX(hC:BL P C){g:Nat}{fn:Func}{F:List Sh->Tree Sh}(hfn:C.fns.get g=ay fn)(hb:fn.body.isSome=aF)
  (h:∀(H:Mem) (w:World) (BI:List Sh) (args:List Value) (φ:Sh->Prop),D9 H BI args->(F BI).All φ->∃Ew:List Sh,D9 H Ew args/\∃L,BK P C (K0 H w) g [.code []] (AL fn.ntmps Ew L) [] emp (up φ)):Bh P C.gls g F:=by
 intro H w BI args φ hon hg hr hφ;obtain ⟨Ew,hr',L,hgo⟩:=h H w BI args φ hr hφ;refine (ahi hC hfn hb hon hg hr' hgo).mono fun e w' ⟨v,s,H',he,⟨s',hw,hs⟩,r⟩=>?_;obtain ⟨H2,r2⟩:=r.wk hw;exact ⟨v,s',H2,he,hs,r2⟩
theorem Ei(hC:BL P C)(hF:Cb P C){m n g L:Nat}{fn:Func}{F:List Sh->Tree Sh}(hfn:C.fns.get g=ay fn)(hb:fn.body.isSome=aF)
  (h:∀(H:Mem) (w:World) (BI:List Sh) (args:List Value) (φ:Sh->Prop),D9 H BI args->(F BI).All φ->∃Ew:List Sh,D9 H Ew args/\(BA C BN m n g [.code []] (AL fn.ntmps Ew L) [] []).All (Jq P C (K0 H w) [] emp (up φ))):Bh P C.gls g F:=
 FX hC hfn hb fun H w BI args φ hr hφ=>let ⟨Ew,hr',ha⟩:=h H w BI args φ hr hφ;⟨Ew,hr',L,Ic hC hF ha⟩
end
end Go.Sx
namespace Go.Proofs
open Go Go.Sx Go.Pl
def Jf:List It:=[bD [0,1,0,1,1],dh 0,bD [1,1,1]]
def Xj:List It:=[bD [0,0,1,0,1,1],bD [0,1,0,1,1],dh 0,bD [1,1,1]]
end Go.Proofs
namespace Go.Pl
open Go Go.Sx
def ajq{α:Type}[DecidableEq α](a b:List α):Bool:=decide (a=b)
end Go.Pl
namespace Go.Proofs
open Go Go.Sx Go.Pl
def F13:List Sh->Tree Sh
 |[.sl 1 n g]=>.need (okB Int n g) (.need (BU n 8) (.leaf (.os 3 1 n (Az (AB (α:=Int) g))))) |_=>.fail
end Go.Proofs
namespace Go.Pl
open Go Go.Sx
def BH:Sh->Option Int
 | .i .i64 c=>ay c | .v (.int .i64 c)=>ay c |_=>aN
def EX(c:Int):List UInt8:=if c=1 then Go.Proofs.W7 16 0 else if c=2 then Go.Proofs.W7 16 1 else if c=3 then Go.Proofs.W7 16 2 else if c=4 then Go.Proofs.W7 16 3 else []
end Go.Pl
namespace Go.Proofs
open Go Go.Sx Go.Pl
def F58:List Sh->Tree Sh
 |[t,s]=>match BH t,BH s with
  |some b,ay c=>.need (b==1) (.need (Dq c) (.leaf (.str (EX c)))) |_,_=>.fail
 |_=>.fail
def DX:Nat->Option (List Sh->Tree Sh)
 |170=>ay F92 |117=>ay F56 |122=>ay F58 |_=>aN
theorem a65(A:Prim)(W:Wd)(k i:Int):BA (C7 A W DX Bc) BN 300 400 99 [.code []] (AL 36 [.agg [.i .i64 k,.i .i64 i]] L0) [] []=aG (A.eq k (ah 1)) (aI aF (aI (Dq k) (aG (A.seq (EX k) []) (aC (aU (bC 7 329))) (aG (A.lt i (fG 999999999)) (aC (aU (bC 7 329))) (aG (A.lt (ah 1000000000) i) (aC (aU (bC 7 329))) (aC (aU (jF bM)))))))) (aI aF (aI (Dq k) (aG (A.seq (EX k) []) (aC (aU (bC 7 329))) (aG (A.lt i (fG 999999999)) (aC (aU (bC 7 329))) (aG (A.lt (ah 1000000000) i) (aC (aU (bC 7 329))) (aG (A.nt (A.eq k (ah 2))) (aG (A.nt (A.eq i (ah 0))) (aC (aU (bC 7 329))) (aC (aU (jF bM)))) (aC (aU (jF bM))))))))):=by kernel_rfl
theorem a50(A:Prim)(W:Wd)(n a b:Nat)(g h l:Nat->List Sh)(x y:Int):BA (C7 A W DX Bc) BN 300 400 96 [.code []] (AL 11 [.agg [.sl 4 n g],.agg [.i .i64 x,.i .i64 y,.sl 1 a h,.sl 2 b l]] L0) [] []=aI (A.le (ah 0) (A.Bl n)) (aI (A.room (A.toN (A.Bl n)) 64) (aI (A.room (A.addN 0 n) 64) (aI (A.room (A.addN (A.addN 0 n) 1) 64) (aI (A.le (ah 0) (A.Bl n)) (aI (A.room (A.toN (A.Bl n)) 64) (aI (A.room (A.addN 0 n) 64) (aI (A.room (A.addN (A.addN 0 n) 1) 64) (Tree.must [aP (aH 4 n g) (aH 4 n g),ak x x,ak y y,aP (aH 1 a h) (aH 1 a h),aP (aH 2 b l) (aH 2 b l),aP (aH 4 n g) (aH 4 n g),ak x x,ak y y,aP (aH 1 a h) (aH 1 a h),aP (aH 2 b l) (aH 2 b l),ak x x,ak y y,aP (aH 1 a h) (aH 1 a h),aP (aH 2 b l) (aH 2 b l),aK (A.addN (A.addN 0 n) 1) (A.addN (A.addN 0 n) 1),BQ.L9 (A.snoc (A.snoc (fun _=>[]) 0 g) (A.addN 0 n) (BD [[aZ .i64 x,aZ .i64 y,aH 1 a h,aH 2 b l]])) (A.snoc (A.snoc (fun _=>[]) 0 g) (A.addN 0 n) (BD [[aZ .i64 x,aZ .i64 y,aH 1 a h,aH 2 b l]]))] (aC (aU (bU [jv 211 4 (A.addN (A.addN 0 n) 1) (A.snoc (A.snoc (fun _=>[]) 0 g) (A.addN 0 n) (BD [[aZ .i64 x,aZ .i64 y,aH 1 a h,aH 2 b l]]))]))))))))))):=by kernel_rfl
theorem a33(A:Prim)(W:Wd)(n:Nat)(d:Nat->Di)(i:Int):BA (C7 A W DX Bc) BN 300 400 119 [.code []] (AL 12 [.agg [.sl 4 n (CY d)],.i .i64 i] L0) [] []=aG (A.lt i (ah 0)) (aC (aU (cZ [bU [aZ .i64 (ah 0),aZ .i64 (ah 0),aH 0 0 fun _=>[],aH 0 0 fun _=>[]],gq aA]))) (aG (A.le (A.Bl n) i) (aC (aU (cZ [bU [aZ .i64 (ah 0),aZ .i64 (ah 0),aH 0 0 fun _=>[],aH 0 0 fun _=>[]],gq aA]))) (aI (A.inB i n) (aC (aU (cZ [bU [aZ .i64 (d (A.toN i)).kind,aZ .i64 (d (A.toN i)).num,aH 1 (len (d (A.toN i)).q) (Az (nth (d (A.toN i)).q)),aH 2 (len (d (A.toN i)).ps) (Az (nth (d (A.toN i)).ps))],gq aF]))))):=by kernel_rfl
theorem a54(A:Prim)(W:Wd)(n a b:Nat)(g h l:Nat->List Sh)(i x y:Int):BA (C7 A W DX Bc) BN 300 400 121 [.code []] (AL 27 [.agg [.sl 4 n g],.i .i64 i,.agg [.i .i64 x,.i .i64 y,.sl 1 a h,.sl 2 b l]] L0) [] []=aG (A.lt i (ah 0)) (aC (aU (bU [aH 4 n g]))) (aG (A.le (A.Bl n) i) (aC (aU (bU [aH 4 n g]))) (aI (A.le (ah 0) (A.Bl n)) (aI (A.room (A.toN (A.Bl n)) 64) (aI (A.room (A.addN 0 n) 64) (aI (A.inB i (A.addN 0 n)) (aC (aU (bU [jv 211 4 (A.addN 0 n) (A.upd (A.snoc (fun _=>[]) 0 g) (A.toN i) 0 [aZ .i64 x,aZ .i64 y,aH 1 a h,aH 2 b l])])))))))):=by kernel_rfl
theorem a64(A:Prim)(W:Wd)(n:Nat)(g:Nat->List Sh):BA (C7 A W DX Bc) BN 300 400 118 [.code []] (AL 10 [.agg [.sl 4 n g]] L0) [] []=aI (A.le (ah 0) (A.Bl n)) (aI (A.room (A.toN (A.Bl n)) 64) (aI (A.room (A.addN 0 n) 64) (aC (aU (jv 211 4 (A.addN 0 n) (A.snoc (fun _=>[]) 0 g)))))):=by kernel_rfl
theorem a59(A:Prim)(W:Wd)(x:Int):BA (C7 A W DX Bc) BN 300 400 145 [.code []] (AL 5 [.i .i64 x] L0) [] []=aI (Dq x) (aC (aU (dA (BF x)))):=by kernel_rfl
theorem a60(A:Prim)(W:Wd)(n:Nat)(g:Nat->List Sh):BA (C7 A W DX Bc) BN 300 400 146 [.code []] (AL 5 [.sl 1 n g] L0) [] []=aI (okB (List UInt8) n g) (aI (BU n 16) (aI (IV (DV (lst (List UInt8) n g) [32])) (aC (aU (dA (DV (lst (List UInt8) n g) [32])))))):=by kernel_rfl
theorem a66(A:Prim)(W:Wd)(x:Int):BA (C7 A W DX Bc) BN 300 400 102 [.code []] (AL 17 [.i .i64 x] L0) [] []=aG (A.eq x (ah 1)) (aC (aU (aZ .i64 (ah 1)))) (aG (A.eq x (ah 2)) (aC (aU (aZ .i64 (ah 1)))) (aG (A.eq x (ah 3)) (aC (aU (aZ .i64 (ah 2)))) (aG (A.eq x (ah 4)) (aC (aU (aZ .i64 (ah 2)))) (aG (A.eq x (ah 5)) (aC (aU (aZ .i64 (ah 3)))) (aG (A.eq x (ah 6)) (aC (aU (aZ .i64 (ah 3)))) (aG (A.eq x (ah 7)) (aC (aU (aZ .i64 (ah 4)))) (aG (A.eq x (ah 8)) (aC (aU (aZ .i64 (ah 4)))) (aG (A.eq x (ah 9)) (aC (aU (aZ .i64 (ah 4)))) (aC (aU (aZ .i64 (ah 0)))))))))))):=by kernel_rfl
theorem a67(A:Prim)(W:Wd)(x:Int):BA (C7 A W DX Bc) BN 300 400 151 [.code []] (AL 13 [.i .i64 x] L0) [] []=aG (A.eq x (ah 7)) (aC (aU (gq aF))) (aG (A.eq x (ah 8)) (aC (aU (gq aF))) (aC (aU (gq (A.eq x (ah 9)))))):=by kernel_rfl
theorem a68(A:Prim)(W:Wd)(x:Int):BA (C7 A W DX Bc) BN 300 400 152 [.code []] (AL 17 [.i .i64 x] L0) [] []=aG (A.eq x (ah 2)) (aC (aU (gq aF))) (aG (A.eq x (ah 3)) (aC (aU (gq aF))) (aG (A.eq x (ah 5)) (aC (aU (gq aF))) (aC (aU (gq (A.eq x (ah 7))))))):=by kernel_rfl
theorem a69(A:Prim)(W:Wd)(k x y:Int):BA (C7 A W DX Bc) BN 300 400 153 [.code []] (AL 27 [.i .i64 k,.i .i64 x,.i .i64 y] L0) [] []=aG (A.eq k (ah 2)) (aG (A.lt x (ah 0)) (aC (aU (gq aF))) (aG (A.lt (ah 1000) x) (aC (aU (gq aF))) (aG (A.lt y (fG 999999999999999)) (aC (aU (gq aF))) (aC (aU (gq (A.lt (ah 1000000000000000) y))))))) (aG (A.lt x (ah 0)) (aC (aU (gq aF))) (aG (A.lt (ah 1000) x) (aC (aU (gq aF))) (aG (A.lt y (fG 999999999)) (aC (aU (gq aF))) (aC (aU (gq (A.lt (ah 1000000000) y))))))):=by kernel_rfl
theorem w58(A:Prim)(W:Wd)(c:Int):BA (C7 A W noSpec Bc) BN 300 400 122 [.code []] (AL 16 [.v (.int .i64 1),.i .i64 c] L0) [] []=aG (A.lt (A.sub .i64 (A.max c (ah 0)) (ah 1)) (ah 0)) (aC (aU (dA []))) (aG (A.le (ah 4) (A.sub .i64 (A.max c (ah 0)) (ah 1))) (aC (aU (dA []))) (aI (A.inB (A.sub .i64 (A.max c (ah 0)) (ah 1)) 4) (aG (A.eq (A.sub .i64 (A.max c (ah 0)) (ah 1)) (ah 0)) (aC (aU (dA (W 16 0)))) (aG (A.eq (A.sub .i64 (A.max c (ah 0)) (ah 1)) (ah 1)) (aC (aU (dA (W 16 1)))) (aG (A.eq (A.sub .i64 (A.max c (ah 0)) (ah 1)) (ah 2)) (aC (aU (dA (W 16 2)))) (aG (A.eq (A.sub .i64 (A.max c (ah 0)) (ah 1)) (ah 3)) (aC (aU (dA (W 16 3)))) dJ)))))):=by kernel_rfl
end Go.Proofs
namespace Go.Pl
open Go Go.Sx
theorem le0(n:Nat):Aw.le (ah 0) (Aw.Bl n)=aF:=by simp[DK,Bg]
theorem abK(n:Nat):Aw.toN (Aw.Bl n)=n:=rfl
theorem QC(n:Nat):Aw.addN 0 n=n:=gU n
theorem abL(n m:Nat):Aw.addN n m=n+m:=rfl
theorem QD(h g:Nat->List Sh):Aw.snoc h 0 g=g:=by
 funext j;rw[EF,if_neg (by omega),Nat.sub_zero]
theorem Lm{n m b:Nat}(h:BU n b=aF)(hm:m<=n):BU m b=aF:=by
 have:=of_decide_eq_true (show decide (n*b<=140737488355328/\n<=maxLen)=aF from h);have h2:m*b<=n*b:=Nat.mul_le_mul_right b hm;exact decide_eq_true (show m*b<=140737488355328/\m<=maxLen from ⟨by omega,by omega⟩)
theorem Cj{φ:Sh->Prop}{s s':Sh}(hw:Wk s s')(h:φ s'):up φ s:=⟨s',hw,h⟩
def GH(n:Nat)(g:Nat->List Sh)(r:List Sh):Nat->List Sh:=fun j=>if j<n then g j else r
theorem ad4{n:Nat}{g:Nat->List Sh}{r:List Sh}:∀j,j<n+1->Aw.snoc g n (BD [r]) j=GH n g r j:=fun j hj=>by
 rw[EF];unfold GH;split
 ·rfl
 ·have:j=n:=by omega
  subst this;rw[Nat.sub_self];rfl
def J3(n:Nat)(i:Int):Bool:=decide (0<=i/\i<n)
def SK(n:Nat)(g:Nat->List Sh)(i:Int)(r:List Sh):Nat->List Sh:=fun j=>if J3 n i=aF/\j=i.toNat then r else g j
noncomputable def stB(n:Nat)(g:Nat->List Sh):Bool:=@decide (∃d:Nat->Di,∀j,j<n->g j=Dy (d j)) (bG _)
noncomputable def EG(n:Nat)(g:Nat->List Sh):Nat->Di:=@dite _ (∃d:Nat->Di,∀j,j<n->g j=Dy (d j)) (bG _) (fun h=>h.choose) fun _ _=>⟨0,0,[],[]⟩
theorem QE{n:Nat}{g:Nat->List Sh}(h:stB n g=aF):∀j,j<n->g j=CY (EG n g) j:=by
 unfold stB at h;have h:=@of_decide_eq_true _ (bG _) h;unfold EG;rw[dif_pos h];exact h.choose_spec
theorem abM(n:Nat)(d:Nat->Di):stB n (CY d)=aF:=by unfold stB;exact @decide_eq_true _ (bG _) ⟨d,fun _ _=>rfl⟩
theorem akU{n:Nat}{g:Nat->List Sh}{d:Nat->Di}(h:∀j,j<n->g j=Dy (d j)):stB n g=aF:=by unfold stB;exact @decide_eq_true _ (bG _) ⟨d,h⟩
theorem ad5{α:Type}[Row α]{l m:List α}{st:Nat}(h:aH st (len l) (Az (nth l))=aH st (len m) (Az (nth m))):l=m:=by
 simp only[Sh.sl.injEq,true_and] at h;obtain ⟨h1,h2⟩:=h;rw[<-Ll l,<-Ll m];have h1:l.length=m.length:=h1;rw[h1,h2]
theorem TU{s t:Di}(h:Dy s=Dy t):s=t:=by
 obtain ⟨a,b,c,d⟩:=s;obtain ⟨a',b',c',d'⟩:=t;simp only[Dy,qK,Sh.i.injEq,true_and,and_true] at h;obtain ⟨rfl,rfl,h3,h4⟩:=h;obtain rfl:=ad5 h3;obtain rfl:=ad5 h4;rfl
theorem aoo{n:Nat}{d:Nat->Di}:∀j,j<n->EG n (CY d) j=d j:=fun j hj=>TU (QE (abM n d) j hj).symm
theorem akV{n:Nat}{g:Nat->List Sh}{d:Nat->Di}(h:∀j,j<n->g j=Dy (d j)):∀j,j<n->EG n g j=d j:=fun j hj=>TU ((QE (akU h) j hj).symm.trans (h j hj))
def NQ:Di:=⟨0,0,[],[]⟩
def atT(n:Nat)(d:Nat->Di)(i:Int):Di:=bif J3 n i then d i.toNat else NQ
def Fp(k i:Int):Bool:=!(decide (1<=k)&&decide (k<=4))||decide (i < -1000000000)||decide (1000000000<i)||(!(decide (k=1)||decide (k=2)) && !decide (i=0))
def MC(op:Int):Int:=if op=1\/op=2 then 1 else if op=3\/op=4 then 2 else if op=5\/op=6 then 3 else if op=7\/op=8\/op=9 then 4 else 0
def keyed(op:Int):Bool:=decide (op=7)||decide (op=8)||decide (op=9)
def valued(op:Int):Bool:=decide (op=2)||decide (op=3)||decide (op=5)||decide (op=7)
def Jg(k x y:Int):Bool:=decide (x<0)||decide (1000<x)||decide (y < -(if k=2 then 1000000000000000 else 1000000000))||decide ((if k=2 then 1000000000000000 else 1000000000)<y)
def Ej(st:Nat):Sh->Option (Nat×(Nat->List Sh))
 | .sl st' n g=>bif fC st' st then ay (n,g) else bif fC n 0 then ay (0,fun _=>[]) else aN |_=>aN
theorem Ce{H:Mem}{st n:Nat}{s:Sh}{g:Nat->List Sh}{v:Value}(hs:Ej st s=ay (n,g))(h:Rep H s v):Rep H (.sl st n g) v:=by
 cases s<;>simp only[Ej] at hs<;>try cases hs
 rename_i st' n' g';cases h1:fC st' st<;>simp only[h1,cond_true,cond_false] at hs
 ·cases h2:fC n' 0<;>simp only[h2,cond_true,cond_false] at hs
  ·cases hs
  ·cases hs
   exact QB h (.inl ⟨fH h2,rfl⟩)
 ·cases hs
  have:=fH h1;subst this;exact h
theorem Nb{H:Mem}{s s':Sh}{v:Value}(hv:Rep H (.agg [s]) v)(h0:∀u,Rep H s u->Rep H s' u):Rep H (.agg [s']) v:=by
 cases hv with
 |agg _ vs h2 h3=>
  refine .agg _ vs h2 fun j s v' e1 e2=>?_
  match j,e1 with
  |0,e1=>simp at e1;subst e1;exact h0 _ (h3 0 _ v' rfl e2) |j+1,e1=>simp at e1
theorem Yl{H:Mem}{s2 s3 s2' s3':Sh}{v:Value}(hv:Rep H (.agg [s2,s3]) v)(h0:∀u,Rep H s2 u->Rep H s2' u)(h1:∀u,Rep H s3 u->Rep H s3' u):Rep H (.agg [s2',s3']) v:=by
 cases hv with
 |agg _ vs h2 h3=>
  refine .agg _ vs h2 fun j s v' e1 e2=>?_
  match j,e1 with
  |0,e1=>simp at e1;subst e1;exact h0 _ (h3 0 _ v' rfl e2) |1,e1=>simp at e1;subst e1;exact h1 _ (h3 1 _ v' rfl e2) |j+2,e1=>simp at e1
theorem Ip{H:Mem}{x y:Sh}{s2 s3 s2' s3':Sh}{v:Value}(hv:Rep H (.agg [x,y,s2,s3]) v)(h0:∀u,Rep H s2 u->Rep H s2' u)(h1:∀u,Rep H s3 u->Rep H s3' u):Rep H (.agg [x,y,s2',s3']) v:=by
 cases hv with
 |agg _ vs h2 h3=>
  refine .agg _ vs h2 fun j s v' e1 e2=>?_
  match j,e1 with
  |0,e1=>simp at e1;subst e1;exact h3 0 _ v' rfl e2 |1,e1=>simp at e1;subst e1;exact h3 1 _ v' rfl e2 |2,e1=>simp at e1;subst e1;exact h0 _ (h3 2 _ v' rfl e2) |3,e1=>simp at e1;subst e1;exact h1 _ (h3 3 _ v' rfl e2) |j+4,e1=>simp at e1
theorem ad6(g:Nat->List Sh)(i off:Nat)(l:List Sh)(j:Nat):Aw.upd g i off l j=if j=i then (g j).take off++l++(g j).drop (off+l.length) else g j:=rfl
theorem EH{H:Mem}{s:Sh}{c:Int}{v:Value}(h:BH s=ay c)(r:Rep H s v):Rep H (.i .i64 c) v:=by
 unfold BH at h;split at h
 ·cases h;exact r
 ·cases h;cases r;exact .i _ _
 ·cases h
theorem Vo{H:Mem}{s:Sh}{c:Int}{v:Value}(h:BH s=ay c)(r:Rep H s v):Rep H (.v (.int .i64 c)) v:=by
 have:=EH h r;cases this;exact .v _ rfl
end Go.Pl
namespace Go.Proofs
open Go Go.Sx Go.Pl
theorem O58:Bh aB (BG W7) 122 F58:=by
 refine KZ (C:=C7 Aw W7 noSpec Bc) (C7.ok _ _) (fn:=dK) (by kernel_rfl) (by kernel_rfl) fun H w BI args φ hrep h=>?_
 have hn:dK.ntmps=16:=by kernel_rfl
 unfold F58 at h;split at h
 ·rename_i t s
  split at h
  ·rename_i b c ht hs
   obtain ⟨h1,h2,hφ⟩:=h;have h1:b=1:=by simpa using h1
   subst h1;have h2:=of_decide_eq_true h2;match args,hrep with
   |[v,u],⟨hv,hu,_⟩=>
    refine ⟨[.v (.int .i64 1),.i .i64 c],⟨Vo ht hv,EH hs hu,trivial⟩,L0,?_⟩;refine Ic (C7.ok _ _) (MB _) (hold:=BN) (m:=300) (n:=400) (ts:=[]) ?_;rw[hn,w58 Aw W7 c];obtain ⟨m,e,hm⟩:∃m:Int,Aw.sub .i64 (Aw.max c (ah 0)) (ah 1)=m/\((c<=0/\m=-1)\/(1<=c/\m=c - 1)):=by
     refine ⟨_,rfl,?_⟩;rw[MZ,Na];show (_/\aW.wrap ((if (0:Int)>c then 0 else c) - 1)=_)\/(_/\aW.wrap ((if (0:Int)>c then 0 else c) - 1)=_);rw[CO (by split<;>omega) (by split<;>omega)]
     split<;>omega
    rw[e];have key (X:List UInt8) (hX:EX c=X):φ (.str X):=hX ▸ hφ;have q0:ah 0=0:=rfl;have q1:ah 1=1:=rfl;have q2:ah 2=2:=rfl;have q3:ah 3=3:=rfl;have q4:ah 4=4:=rfl;simp only[AO,DK,Bd,BO,q0,q1,q2,q3,q4];refine ⟨fun h=>key _ ?_,fun h=>⟨fun h2=>key _ ?_,fun h2=>⟨?_,fun h3=>key _ ?_,fun h3=>⟨fun h4=>key _ ?_,fun h4=>⟨fun h5=>key _ ?_,fun h5=>⟨fun h6=>key _ ?_,fun h6=>?_⟩⟩⟩⟩⟩⟩;all_goals simp only[decide_eq_true_eq,decide_eq_false_iff_not,beq_iff_eq,beq_eq_false_iff_ne,ne_eq] at *
    all_goals (try unfold EX)
    all_goals first
     |omega
     |((repeat' split)<;>first|rfl|(exfalso;omega))
     |(show (decide _=aF);exact decide_eq_true (by omega))
     |(exfalso;omega)
  ·exact h.elim
 ·exact h.elim
theorem OAs:∀g F,DX g=ay F->Bh aB (BG W7) g F:=fun g F h=>by
 unfold DX at h;split at h
 ·cases h;exact O92
 ·cases h;exact O56
 ·cases h;exact O58
 ·cases h
theorem MF(stop:Nat->List Nat->Bool):Cb aB (C7 Aw W7 DX stop):=C7.Um OAs fun g h=>by
 unfold DX at h;split at h;all_goals first|(cases h;done) |kernel_rfl
def F14:List Sh->Tree Sh
 |[.sl 1 n g]=>.need (BU n 8) (.leaf (.agg [.os 3 1 n g])) |_=>.fail
def F50:List Sh->Tree Sh
 |[.agg [s0],.agg [.i .i64 x,.i .i64 y,s2,s3]]=>match Ej 4 s0,Ej 1 s2,Ej 2 s3 with
  |some (n,g),ay (a,h),ay (b,l)=>.need (BU (n+1) 64) (.leaf (.agg [.sl 4 (n+1) (GH n g [.i .i64 x,.i .i64 y,.sl 1 a h,.sl 2 b l])])) |_,_,_=>.fail
 |_=>.fail
theorem O50:Bh aB (BG W7) 96 F50:=by
 refine Ei (C:=C7 Aw W7 DX Bc) (C7.ok _ _) (MF _) (m:=300) (n:=400) (L:=L0) (fn:=wZ) (by kernel_rfl) (by kernel_rfl) fun H w BI args φ hrep h=>?_
 have hn:wZ.ntmps=11:=by kernel_rfl
 unfold F50 at h;split at h
 ·rename_i s0 x y s2 s3
  split at h
  ·rename_i n g a hh b l hs0 hs2 hs3
   obtain ⟨h1,hφ⟩:=h;match args,hrep with
   |[v,u1],⟨hv,r1,_⟩=>
    refine ⟨[.agg [.sl 4 n g],.agg [.i .i64 x,.i .i64 y,.sl 1 a hh,.sl 2 b l]],⟨Nb hv fun u hu=>Ce hs0 hu,Ip r1 (fun u hu=>Ce hs2 hu) (fun u hu=>Ce hs3 hu),trivial⟩,?_⟩;have h0:=Lm h1 (wE n);rw[hn,a50 Aw W7 n a b g hh l x y,QC,QD,abK,abL];refine ⟨le0 n,h0,h0,h1,le0 n,h0,h0,h1,?_,Cj (s':=.agg [.sl 4 (n+1) (GH n g [.i .i64 x,.i .i64 y,.sl 1 a hh,.sl 2 b l])]) ⟨.inr ⟨rfl,rfl,ad4⟩,trivial⟩ hφ⟩;repeat' (first|exact trivial|exact rfl|refine And.intro ?_ ?_)
  ·exact h.elim
 ·exact h.elim
theorem akW{n:Nat}{i:Int}(h:Aw.lt i (ah 0)=aF):J3 n i=aA:=by simp[AO] at h;simp[J3];omega
theorem akX{n:Nat}{i:Int}(h:Aw.le (Aw.Bl n) i=aF):J3 n i=aA:=by simp[DK,Bg] at h;simp[J3];omega
theorem afn{n:Nat}{i:Int}(h:Aw.lt i (ah 0)=aA)(h3:Aw.le (Aw.Bl n) i=aA):J3 n i=aF:=by
 simp[AO] at h;simp[DK,Bg] at h3;simp[J3];omega
noncomputable def F33:List Sh->Tree Sh
 |[.agg [s0],t]=>match Ej 4 s0,BH t with
  |some (n,g),ay i=>.need (stB n g) (.leaf (.Ba [.agg (Dy (atT n (EG n g) i)),.b (J3 n i)])) |_,_=>.fail
 |_=>.fail
theorem O33:Bh aB (BG W7) 119 F33:=by
 refine Ei (C:=C7 Aw W7 DX Bc) (C7.ok _ _) (MF _) (m:=300) (n:=400) (L:=L0) (fn:=vC) (by kernel_rfl) (by kernel_rfl) fun H w BI args φ hrep h=>?_
 have hn:vC.ntmps=12:=by kernel_rfl
 unfold F33 at h;split at h
 ·rename_i s0 t
  split at h
  ·rename_i n g i hs ht
   obtain ⟨h1,hφ⟩:=h;match args,hrep with
   |[v,u1],⟨hv,r1,_⟩=>
    refine ⟨[.agg [.sl 4 n (CY (EG n g))],.i .i64 i],⟨Nb hv fun u hu=>ER (Ce hs hu) (QE h1),EH ht r1,trivial⟩,?_⟩;generalize EG n g=d at *;have out (hi:J3 n i=aA):up φ (.Ba [.agg [.i .i64 (ah 0),.i .i64 (ah 0),.sl 0 0 fun _=>[],.sl 0 0 fun _=>[]],.b aA]):=
     Cj (s':=.Ba [.agg (Dy (atT n d i)),.b (J3 n i)]) ⟨by simp[atT,hi,Dy,NQ,Wk,N7,len],by simp[hi,Wk],trivial⟩ hφ
    rw[hn,a33 Aw W7 n d i];refine ⟨fun h=>out (akW h),fun h=>⟨fun h3=>out (akX h3),fun h3=>⟨afn h h3,?_⟩⟩⟩;have hi:=afn h h3;exact Cj (s':=.Ba [.agg (Dy (atT n d i)),.b (J3 n i)]) ⟨by simp[atT,hi,Dy,Wk,N7,Dn],by simp[hi,Wk],trivial⟩ hφ
  ·exact h.elim
 ·exact h.elim
noncomputable def F54:List Sh->Tree Sh
 |[.agg [s0],t,.agg [.i .i64 x,.i .i64 y,s2,s3]]=>match Ej 4 s0,BH t,Ej 1 s2,Ej 2 s3 with
  |some (n,g),ay i,ay (a,h),ay (b,l)=>.need (BU n 64) (.need (stB n g) (.leaf (.agg [.sl 4 n (SK n g i [.i .i64 x,.i .i64 y,.sl 1 a h,.sl 2 b l])]))) |_,_,_,_=>.fail
 |_=>.fail
theorem O54:Bh aB (BG W7) 121 F54:=by
 refine Ei (C:=C7 Aw W7 DX Bc) (C7.ok _ _) (MF _) (m:=300) (n:=400) (L:=L0) (fn:=vF) (by kernel_rfl) (by kernel_rfl) fun H w BI args φ hrep h=>?_
 have hn:vF.ntmps=27:=by kernel_rfl
 unfold F54 at h;split at h
 ·rename_i s0 t x y s2 s3
  split at h
  ·rename_i n g i a hh b l hs0 ht hs2 hs3
   obtain ⟨h1,h2,hφ⟩:=h;match args,hrep with
   |[v,u1,u2],⟨hv,r1,r2,_⟩=>
    refine ⟨[.agg [.sl 4 n g],.i .i64 i,.agg [.i .i64 x,.i .i64 y,.sl 1 a hh,.sl 2 b l]],⟨Nb hv fun u hu=>Ce hs0 hu,EH ht r1,Ip r2 (fun u hu=>Ce hs2 hu) (fun u hu=>Ce hs3 hu),trivial⟩,?_⟩;have same (hi:J3 n i=aA):up φ (.agg [.sl 4 n g]):=Cj (s':=.agg [.sl 4 n (SK n g i [.i .i64 x,.i .i64 y,.sl 1 a hh,.sl 2 b l])]) ⟨.inr ⟨rfl,rfl,fun j hj=>by simp[SK,hi]⟩,trivial⟩ hφ;rw[hn,a54 Aw W7 n a b g hh l i x y,QC,QD,abK];refine ⟨fun h=>same (akW h),fun h=>⟨fun h3=>same (akX h3),fun h3=>⟨le0 n,h1,h1,afn h h3,Cj (s':=.agg [.sl 4 n (SK n g i [.i .i64 x,.i .i64 y,.sl 1 a hh,.sl 2 b l])]) ⟨.inr ⟨rfl,rfl,fun j hj=>?_⟩,trivial⟩ hφ⟩⟩⟩;have hi:=afn h h3;simp only[SK,hi,true_and,ad6,Dn];by_cases e:j=i.toNat
    ·have hl:(g j).length=4:=by rw[QE h2 j hj];rfl
     rw[if_pos e,if_pos e];simp only[List.take_zero,jK,gU];rw[List.drop_eq_nil_of_le (by rw[hl];exact dw _)];rfl
    ·simp[e]
  ·exact h.elim
 ·exact h.elim
def F65:List Sh->Tree Sh
 |[.agg [.i .i64 k,.i .i64 i]]=>.need (Dq k) (.node (Fp k i) (.leaf (.er 7 329)) (.leaf (.v .nilIface))) |_=>.fail
theorem ajr{k:Int}:Aw.seq (EX k) []=!(decide (1<=k)&&decide (k<=4)):=by
 by_cases h1:k=1
 ·subst h1;rfl
 by_cases h2:k=2
 ·subst h2;rfl
 by_cases h3:k=3
 ·subst h3;rfl
 by_cases h4:k=4
 ·subst h4;rfl
 have:EX k=[]:=by simp[EX,h1,h2,h3,h4]
 rw[this,Yk];by_cases h5:1<=k
 ·have:¬k<=4:=by omega
  simp[this]
 ·simp[h5]
theorem O65:Bh aB (BG W7) 99 F65:=by
 refine KZ (C:=C7 Aw W7 DX Bc) (C7.ok _ _) (fn:=kS) (by kernel_rfl) (by kernel_rfl) fun H w BI args φ hrep h=>?_
 have hn:kS.ntmps=36:=by kernel_rfl
 unfold F65 at h;split at h
 ·rename_i k i
  obtain ⟨h1,hb,hg⟩:=h;refine ⟨_,hrep,L0,Ic (C7.ok _ _) (MF _) (hold:=BN) (m:=300) (n:=400) (ts:=[]) ?_⟩;rw[hn,a65 Aw W7 k i,ajr];have q0:ah 0=0:=rfl;have q1:ah 1=1:=rfl;have q2:ah 2=2:=rfl;have q3:ah 1000000000=1000000000:=rfl;have q4:fG 999999999=-1000000000:=rfl;simp only[AO,Bd,CU,q0,q1,q2,q3,q4];have bad (h:Fp k i=aF):φ (.er 7 329):=hb h;have good (h:Fp k i=aA):φ (.v .nilIface):=hg h;refine ⟨fun e=>⟨rfl,h1,fun e1=>bad ?_,fun e1=>⟨fun e2=>bad ?_,fun e2=>⟨fun e3=>bad ?_,fun e3=>good ?_⟩⟩⟩,fun e=>⟨rfl,h1,fun e1=>bad ?_,fun e1=>⟨fun e2=>bad ?_,fun e2=>⟨fun e3=>bad ?_,fun e3=>⟨fun e4=>⟨fun e5=>bad ?_,fun e5=>good ?_⟩,fun e4=>good ?_⟩⟩⟩⟩⟩;all_goals (simp at *;simp[Fp];omega)
 ·exact h.elim
end Go.Proofs
namespace Go.Pl
open Go Go.Sx
def F8(n:Nat)(l:List (Nat×SV)):List SV:=l.foldl (fun t p=>t.set p.1 p.2) (dU n .any)
end Go.Pl
namespace Go.Proofs
open Go Go.Sx Go.Pl
def F60:List Sh->Tree Sh
 |[.sl 1 n g]=>.need (okB (List UInt8) n g) (.need (BU n 16) (.need (IV (DV (lst (List UInt8) n g) [32])) (.leaf (.str (DV (lst (List UInt8) n g) [32]))))) |_=>.fail
def IJ:Nat->Option (List Sh->Tree Sh)
 |122=>ay F58 |145=>ay F92 |146=>ay F60 |99=>ay F65 |_=>aN
def TV:Nat->Bool:=fun g=>fC g 101
def ad7(n:Nat)(o:Nat->Oj)(e:Nat->List Sh)(i:Int):Core:={tm:=F8 78 [(1,.ptr 0 0),(21,.sh (.sl 2 n (Az o))),(22,.sym .i64 (n:Int)),(23,.sym .i64 i)],hp:=[(0,.box [.sh (.sl 2 n (Az o)),.sh (.sl 8 0 e)] 25)],nx:=1,lim:=L0,tc:=[]}
def ajs(n:Nat)(o:Nat->Oj)(e:Nat->List Sh):Core:={tm:=F8 78 [(38,.sym .i64 0),(39,.sym .i64 0)],hp:=[],nx:=0,lim:=L0,tc:=[]}
def ajt:List It:=[bD [0,1,0,1,1,1],dh 2,bD [1,1,1,1]]
def aop:List It:=bD [0,0,1,0,1,1,1]::ajt
def Ym(a:Nat)(o:Nat->Int)(i:Int)(k:Nat)(gg:Nat->List Sh):Core:={tm:=F8 61 [(3,.gs 0),(26,.sh (.sl 1 a (Az o))),(27,.sym .i64 (a:Int)),(28,.sym .i64 i)],hp:=[(0,.own 9 1 k gg)],nx:=1,lim:=L0,tc:=[]}
def Yn(b:Nat)(p:Nat->Pr)(i:Int)(k:Nat)(gg:Nat->List Sh):Core:={tm:=F8 61 [(3,.gs 0),(41,.sh (.sl 2 b (Az p))),(42,.sym .i64 (b:Int)),(43,.sym .i64 i)],hp:=[(0,.own 9 1 k gg)],nx:=1,lim:=L0,tc:=[]}
def Yo:List It:=[bD [0,1,0,1,1,1,0,1,0,1,1],dh 1,dh 0,bD [1,1,1]]
def Yp:List It:=[bD [0,1,0,1,1,1,1,1,0,1,0,1,1],dh 3,dh 0,bD [1,1,1]]
def aoq:List It:=bD [0,0,1,0,1,1,1,0,1,0,1,1]::Yo
def aor:List It:=bD [0,0,1,0,1,1,1,1,1,0,1,0,1,1]::Yp
theorem a41(A:Prim)(W:Wd)(k i:Int):BA (C7 A W IJ Bc) BN 300 400 95 [.code []] (AL 16 [.agg [.i .i64 k,.i .i64 i]] L0) [] []=aI (Dq k) (aG (Fp k i) (aC (aU (cZ [bU [aZ .i64 (ah 0),aZ .i64 (ah 0),aH 0 0 fun _=>[],aH 0 0 fun _=>[]],bC 7 329]))) (aC (aU (cZ [bU [aZ .i64 k,aZ .i64 i,aH 0 0 fun _=>[],aH 0 0 fun _=>[]],jF bM])))):=by kernel_rfl
theorem a49(A:Prim)(W:Wd)(n:Nat)(o:Nat->Oj)(e:Nat->List Sh)(i':Int):BA (C7 A W IJ Bc) TV 300 400 77 [.code []] (AL 78 [.agg [.sl 2 n (Az o),.sl 8 0 e]] L0) [] [⟨77,Jf,ad7 n o e i',[]⟩]=aG (A.lt (ah 8) (A.Bl n)) (aC (aU (bC 6 329))) (aG (A.lt (ah 400) (A.Bl 0)) (aC (aU (bC 6 329))) (aC (bJ 0 [aP (aH 2 n (Az o)) (aH 2 n (Az o)),ak (A.Bl n) (ah n),ak (ah 0) i',aP (aH 2 n (Az o)) (aH 2 n (Az o)),aP (aH 8 0 e) (aH 8 0 e)]))):=by kernel_rfl
theorem b49(A:Prim)(W:Wd)(n:Nat)(o:Nat->Oj)(e:Nat->List Sh)(i i':Int):BA (C7 A W IJ Bc) TV 300 400 77 Xj (ad7 n o e i) [] [⟨77,Jf,ad7 n o e i',[]⟩,⟨77,ajt,ajs n o e,[]⟩]=aG (A.lt i (ah n)) (aI (A.inB i n) (aI (Dq (o (A.toN i)).kind) (aG (Fp (o (A.toN i)).kind (o (A.toN i)).init) (aC (aU (Sh.Dv 109 (Sh.pt [aZ .i64 i,bC 7 329])))) (aC (bJ 0 [aP (aH 2 n (Az o)) (aH 2 n (Az o)),ak (ah n) (ah n),ak (A.add .i64 i (ah 1)) i',aP (aH 2 n (Az o)) (aH 2 n (Az o)),aP (aH 8 0 e) (aH 8 0 e)]))))) (aC (bJ 1 [ak (A.Bl 0) (ah 0),ak (ah 0) (ah 0)])):=by kernel_rfl
theorem c49(A:Prim)(W:Wd)(n:Nat)(o:Nat->Oj)(e:Nat->List Sh):BA (C7 A W IJ Bc) TV 300 400 77 aop (ajs n o e) [] []=aG (A.lt (ah 0) (ah 0)) dJ (aC (aU (jF bM))):=by kernel_rfl
theorem a35(A:Prim)(W:Wd)(x y:Int)(a b:Nat)(o:Nat->Int)(p:Nat->Pr)(i':Int)(k':Nat)(Iy:Nat->List Sh):BA (C7 A W IJ Bc) BN 300 400 116 [.code []] (AL 61 [.agg [.i .i64 x,.i .i64 y,.sl 1 a (Az o),.sl 2 b (Az p)]] L0) [] [⟨116,Yo,Ym a o i' k' Iy,[]⟩,⟨116,Yp,Yn b p i' k' Iy,[]⟩]=aI aF (aI (Dq x) (aG (A.eq x (ah 1)) (aI (Dq y) (aI (okB (List UInt8) 2 (BD (chunks 1 (1+1) [dA (EX x),dA (BF y)]))) (aI (BU 2 16) (aI (IV (DV (lst (List UInt8) 2 (BD (chunks 1 (1+1) [dA (EX x),dA (BF y)]))) [32])) (aC (aU (dA (DV (lst (List UInt8) 2 (BD (chunks 1 (1+1) [dA (EX x),dA (BF y)]))) [32])))))))) (aG (A.eq x (ah 2)) (aI (Dq y) (aI (okB (List UInt8) 2 (BD (chunks 1 (1+1) [dA (EX x),dA (BF y)]))) (aI (BU 2 16) (aI (IV (DV (lst (List UInt8) 2 (BD (chunks 1 (1+1) [dA (EX x),dA (BF y)]))) [32])) (aC (aU (dA (DV (lst (List UInt8) 2 (BD (chunks 1 (1+1) [dA (EX x),dA (BF y)]))) [32])))))))) (aG (A.eq x (ah 3)) (aC (bJ 0 [aP (aH 1 a (Az o)) (aH 1 a (Az o)),ak (A.Bl a) (ah a),ak (ah 0) i',aK 1 k',aV 1 (BD [[dA (EX x)]]) Iy])) (aG (A.eq x (ah 4)) (aC (bJ 1 [aP (aH 2 b (Az p)) (aH 2 b (Az p)),ak (A.Bl b) (ah b),ak (ah 0) i',aK 1 k',aV 1 (BD [[dA (EX x)]]) Iy])) (aI (okB (List UInt8) 1 (BD (chunks 1 1 [dA (EX x)]))) (aI (BU 1 16) (aI (IV (DV (lst (List UInt8) 1 (BD (chunks 1 1 [dA (EX x)]))) [32])) (aC (aU (dA (DV (lst (List UInt8) 1 (BD (chunks 1 1 [dA (EX x)]))) [32])))))))))))):=by kernel_rfl
theorem av4(A:Prim)(W:Wd)(a:Nat)(o:Nat->Int)(i i':Int)(k k':Nat)(gg Iy:Nat->List Sh):BA (C7 A W IJ Bc) BN 300 400 116 aoq (Ym a o i k gg) [] [⟨116,Yo,Ym a o i' k' Iy,[]⟩]=aG (A.lt i (ah a)) (aI (A.inB i a) (aI (Dq (o (A.toN i))) (aI (A.room (A.addN k 1) 16) (aC (bJ 0 [aP (aH 1 a (Az o)) (aH 1 a (Az o)),ak (ah a) (ah a),ak (A.add .i64 i (ah 1)) i',aK (A.addN k 1) k',aV (A.addN k 1) (A.snoc gg k (BD [[dA (BF (o (A.toN i)))]])) Iy]))))) (aI (okB (List UInt8) k gg) (aI (BU k 16) (aI (IV (DV (lst (List UInt8) k gg) [32])) (aC (aU (dA (DV (lst (List UInt8) k gg) [32]))))))):=by kernel_rfl
theorem av5(A:Prim)(W:Wd)(b:Nat)(p:Nat->Pr)(i i':Int)(k k':Nat)(gg Iy:Nat->List Sh):BA (C7 A W IJ Bc) BN 300 400 116 aor (Yn b p i k gg) [] [⟨116,Yp,Yn b p i' k' Iy,[]⟩]=aG (A.lt i (ah b)) (aI (A.inB i b) (aI (Dq (p (A.toN i)).key) (aI (A.leN (A.addN (A.len (BF (p (A.toN i)).key)) (A.len [58])) 9223372036854775807) (aI (Dq (p (A.toN i)).val) (aI (A.leN (A.addN (A.len (A.app (BF (p (A.toN i)).key) [58])) (A.len (BF (p (A.toN i)).val))) 9223372036854775807) (aI (A.room (A.addN k 1) 16) (aC (bJ 0 [aP (aH 2 b (Az p)) (aH 2 b (Az p)),ak (ah b) (ah b),ak (A.add .i64 i (ah 1)) i',aK (A.addN k 1) k',aV (A.addN k 1) (A.snoc gg k (BD [[dA (A.app (A.app (BF (p (A.toN i)).key) [58]) (BF (p (A.toN i)).val))]])) Iy])))))))) (aI (okB (List UInt8) k gg) (aI (BU k 16) (aI (IV (DV (lst (List UInt8) k gg) [32])) (aC (aU (dA (DV (lst (List UInt8) k gg) [32]))))))):=by kernel_rfl
end Go.Proofs
