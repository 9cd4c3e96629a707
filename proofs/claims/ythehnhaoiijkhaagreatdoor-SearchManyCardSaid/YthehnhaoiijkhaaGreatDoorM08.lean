/- Own work. -/
import Derived.Test.YthehnhaoiijkhaaGreatDoorM07
import Derived.Test.YthehnhaoiijkhaaGreatDoorProg
import Derived.Shelf.Strings.Builder1
import Derived.Shelf.Strings.Builder2
import Derived.Shelf.Strings.OnBuilder
import Derived.Shelf.Strconv.Itoa0
import Derived.Shelf.Strconv.Itoa1
import Derived.Shelf.LaysM
import Derived.Shelf.Strconv.Itoa2
import Derived.Shelf.Strconv.Itoa3
import Derived.Ground.Names2Prog
open Int (ofNat)
open Array renaming getElem?_eq_some_iff->bG
open Bool renaming false->ak,true->aC,and_eq_true->aH
open Classical renaming propDecidable->bD
open Go.Instr renaming checkKey->iV
open Go.IntKind renaming i64->aT
open Go.Lib renaming TabIs->vV,pow10Tab->qR
open Go.Proofs.Lays renaming n156->yg
open Go.Proofs.LaysM renaming n171->wV
open Go.Proofs.Tryz renaming f96->wH,f99->kH,f119->uM,f121->uN,f122->dH,prog->aB,func117->xB,func148->xC,func147->xE,func149->xG,func170->xH,func172->xI,func171->xJ,func201->xK,func209->xM,func217->xO,func214->xP,func212->xQ,func211->xR,func213->xU,func216->xW,func220->xX,func219->xY,func218->xZ,func222->x9,func221->yc,underlying0->uP,isAgg0->yN,sizeOf0->yh,zeroValue0->vO,underlying3->l9,isAgg3->yO,sizeOf3->yj,zeroValue3->vP,underlying4->uQ,isAgg4->yP,sizeOf4->yt,zeroValue4->vS,underlying9->lN,isAgg9->yQ,sizeOf9->yu,zeroValue9->vT,underlying20->um,isAgg20->yw,sizeOf20->wS,zeroValue20->uS,underlying275->sO,isAgg275->wU,sizeOf275->wI,zeroValue275->uo,underlying5->uT,isAgg5->yR,sizeOf5->yx,zeroValue5->vU
open Go.RowKit.Below renaming refl->yS
open Go.Shelf renaming Ren->uO
open Go.Sx.Bh renaming sh->aP,int->aj,nat->aJ,get->aS
open Go.Sx.D7 renaming ret->aO,at_->bJ
open Go.Sx.It renaming code->bF,inBlock->dA
open Go.Sx.Sh renaming i->aW,er->aZ,v->jB,sl->aG,agg->bM,os->jm,Aj->cO,b->eP,str->dn
open Go.Sx.Tree renaming node->aF,need->aI,leaf->aA,fail->dG
open Go.Value renaming nilIface->bI
open Int renaming ofNat->ah,negSucc->fF
open List renaming nil_append->jG,mem_append->bK,length_cons->iP,mem_map->dJ,range->aX,map_congr_left->jM,replicate->dR
open List.cons renaming injEq->qj
open Nat renaming le_refl->dh,le_succ->vN,zero_add->gJ,beq->fB,eq_of_beq_eq_true->fG
open Option renaming some->ay,none->aK,isSome_iff_exists->gy
open Option.some renaming injEq->kL,inj->dD
namespace Go.Tb
open Go Go.Sx
abbrev L{α:Type}(k:Nat)(v:α):BT α:=.node .nil k v .nil
abbrev N{α:Type}(l:BT α)(k:Nat)(v:α)(r:BT α):BT α:=.node l k v r
abbrev z:SV:=.int .i64 0
abbrev tF:JI:=⟨.fn,1,8,[.F7]⟩
abbrev tS(n:Nat):JI:=⟨.slice n,1,24,[.Aw]⟩
abbrev tP(n:Nat):JI:=⟨.ptr n,1,8,[.EJ]⟩
end Go.Tb
namespace Go.Proofs
section
open Go Go.Sx Go.Tb
def Tryz.tys:BT JI:=(N (N (N (N (N (N (N (N (L 1 tF) 2 ⟨.int .i64,1,8,[z]⟩ .nil) 3 ⟨.int .i64,1,8,[z]⟩ (L 4 ⟨.bool,1,1,[.bool ak]⟩)) 5 ⟨.int .u8,1,1,[.int .u8 0]⟩ (N (N (L 7 ⟨.struct [(0,1,ak),(1,1,ak),(2,1,ak),(3,1,ak)],4,24,[z,z,.bool ak,.int .u8 0]⟩) 9 ⟨.str,1,16,[.str []]⟩ .nil) 12 ⟨.int .u64,1,8,[.int .u64 0]⟩ (L 13 ⟨.struct [(0,1,ak),(1,1,ak)],2,24,[.str [],.int .u64 0]⟩))) 15 (tP 331) (N (N (N (L 16 (tP 334)) 17 (tP 341) .nil) 18 ⟨.struct [(0,1,ak)],1,8,[.EJ]⟩ (L 20 ⟨.iface,1,16,[.DK]⟩)) 21 ⟨.int .i32,1,4,[.int .i32 0]⟩ (N (L 22 (tS 140)) 23 (tS 71) (L 24 ⟨.struct [(0,1,ak),(1,1,ak)],2,48,[.Aw,.Aw]⟩)))) 25 ⟨.struct [(0,1,ak),(1,1,ak)],2,48,[.Aw,.Aw]⟩ (N (N (N (N (L 26 tF) 27 tF .nil) 28 (tS 115) (L 29 (tS 3))) 30 (tS 147) (N (N (L 31 ⟨.struct [(0,1,ak),(1,1,ak),(2,1,ak),(3,1,ak),(4,1,ak)],5,104,[z,.Aw,.Aw,.Aw,.Aw]⟩) 32 ⟨.struct [(0,1,ak),(1,1,ak),(2,1,ak),(3,1,ak),(4,1,ak)],5,104,[z,.Aw,.Aw,.Aw,.Aw]⟩ .nil) 33 ⟨.struct [(0,1,ak),(1,1,ak)],2,32,[z,.Aw]⟩ (L 34 ⟨.struct [(0,1,ak),(1,1,ak)],2,32,[z,.Aw]⟩))) 36 tF (N (N (N (L 38 tF) 39 ⟨.struct [(0,1,ak),(1,1,ak)],2,32,[z,.Aw]⟩ .nil) 40 ⟨.struct [(0,1,ak),(1,1,ak)],2,32,[z,.Aw]⟩ (L 41 (tP 3))) 42 (tS 55) (N (L 43 ⟨.struct [(0,1,ak),(1,1,ak),(2,1,ak)],3,40,[.bool ak,.Aw,z]⟩) 44 ⟨.struct [(0,1,ak),(1,1,ak),(2,1,ak)],3,40,[.bool ak,.Aw,z]⟩ (L 45 ⟨.iface,1,16,[.DK]⟩))))) 46 ⟨.iface,1,16,[.DK]⟩ (N (N (N (N (N (L 48 tF) 49 tF .nil) 51 tF (L 52 tF)) 53 tF (N (N (L 54 ⟨.struct [(0,1,ak),(1,1,ak)],2,16,[z,.bool ak]⟩) 55 ⟨.struct [(0,1,ak),(1,1,ak)],2,16,[z,.bool ak]⟩ .nil) 56 tF (L 57 tF))) 58 tF (N (N (N (L 60 tF) 61 tF .nil) 62 tF (L 64 tF)) 65 (tS 42) (N (L 66 ⟨.struct [(0,1,ak),(1,1,ak),(2,1,ak),(3,1,ak),(4,1,ak)],5,72,[.bool ak,.Aw,.Aw,z,z]⟩) 67 ⟨.struct [(0,1,ak),(1,1,ak),(2,1,ak),(3,1,ak),(4,1,ak)],5,72,[.bool ak,.Aw,.Aw,z,z]⟩ (L 69 tF)))) 70 ⟨.struct [(0,1,ak),(1,1,ak),(2,1,ak),(3,1,ak),(4,1,ak),(5,1,ak),(6,1,ak),(7,1,ak)],8,64,[z,z,z,z,z,z,z,z]⟩ (N (N (N (N (L 71 ⟨.struct [(0,1,ak),(1,1,ak),(2,1,ak),(3,1,ak),(4,1,ak),(5,1,ak),(6,1,ak),(7,1,ak)],8,64,[z,z,z,z,z,z,z,z]⟩) 72 tF .nil) 73 tF (L 74 tF)) 75 (tS 76) (N (L 76 ⟨.struct [(0,1,ak),(1,1,ak),(2,1,ak)],3,40,[.bool ak,.Aw,z]⟩) 78 tF (L 79 tF))) 80 tF (N (N (N (L 82 tF) 83 tF .nil) 85 tF (L 87 tF)) 88 tF (N (L 89 tF) 91 tF (L 92 tF)))))) 93 (tP 102) (N (N (N (N (N (N (L 95 tF) 96 (tS 211) .nil) 97 ⟨.struct [(0,1,ak)],1,24,[.Aw]⟩ (L 98 ⟨.struct [(0,1,ak)],1,24,[.Aw]⟩)) 99 ⟨.struct [(0,1,aC)],1,24,[.Aw]⟩ (N (N (L 100 ⟨.struct [(0,1,aC)],1,24,[.Aw]⟩) 101 ⟨.struct [(0,1,ak),(1,1,ak),(2,1,ak),(3,1,aC)],4,80,[z,.Aw,.Aw,.Aw]⟩ .nil) 102 ⟨.struct [(0,1,ak),(1,1,ak),(2,1,ak),(3,1,aC)],4,80,[z,.Aw,.Aw,.Aw]⟩ (L 103 ⟨.struct [(0,1,ak),(1,1,aC)],2,32,[z,.Aw]⟩))) 104 ⟨.struct [(0,1,ak),(1,1,aC)],2,32,[z,.Aw]⟩ (N (N (N (L 105 (tS 108)) 106 tF .nil) 107 ⟨.struct [(0,2,aC),(2,2,aC)],4,48,[z,.bool ak,z,.Aw]⟩ (L 108 ⟨.struct [(0,2,aC),(2,2,aC)],4,48,[z,.bool ak,z,.Aw]⟩)) 109 (tP 111) (N (L 110 ⟨.struct [(0,1,ak),(1,1,ak)],2,24,[z,.DK]⟩) 111 ⟨.struct [(0,1,ak),(1,1,ak)],2,24,[z,.DK]⟩ (L 112 tF)))) 113 (tS 197) (N (N (N (N (L 114 ⟨.struct [(0,1,ak),(1,1,ak),(2,1,ak),(3,1,ak),(4,1,ak),(5,1,ak),(6,1,ak)],7,72,[z,z,z,z,z,z,.Aw]⟩) 115 ⟨.struct [(0,1,ak),(1,1,ak),(2,1,ak),(3,1,ak),(4,1,ak),(5,1,ak),(6,1,ak)],7,72,[z,z,z,z,z,z,.Aw]⟩ .nil) 116 (tP 181) (L 118 tF)) 119 tF (N (L 120 tF) 122 tF (L 123 tF))) 124 tF (N (N (N (L 125 tF) 126 tF .nil) 127 tF (L 128 tF)) 129 ⟨.struct [(0,3,aC),(3,1,ak)],4,56,[.bool ak,.Aw,z,.DK]⟩ (N (L 130 ⟨.struct [(0,3,aC),(3,1,ak)],4,56,[.bool ak,.Aw,z,.DK]⟩) 131 (tS 40) (L 133 tF))))) 134 (tS 4) (N (N (N (N (N (L 135 tF) 136 tF .nil) 137 tF (L 138 tF)) 139 ⟨.struct [(0,1,ak),(1,1,ak)],2,16,[z,z]⟩ (N (N (L 140 ⟨.struct [(0,1,ak),(1,1,ak)],2,16,[z,z]⟩) 141 tF .nil) 142 ⟨.struct [(0,1,ak),(1,1,ak),(2,1,ak),(3,1,ak)],4,80,[.Aw,.Aw,.Aw,z]⟩ (L 143 ⟨.struct [(0,1,ak),(1,1,ak),(2,1,ak),(3,1,ak)],4,80,[.Aw,.Aw,.Aw,z]⟩))) 144 tF (N (N (N (L 145 tF) 146 ⟨.struct [(0,1,ak),(1,1,ak),(2,1,ak),(3,1,ak)],4,64,[z,z,.Aw,.Aw]⟩ .nil) 147 ⟨.struct [(0,1,ak),(1,1,ak),(2,1,ak),(3,1,ak)],4,64,[z,z,.Aw,.Aw]⟩ (L 149 tF)) 150 tF (N (L 151 ⟨.int .u64,1,8,[.int .u64 0]⟩) 152 tF (L 154 (tP 204))))) 155 tF (N (N (N (N (L 156 ⟨.struct [(0,1,ak),(1,1,ak)],2,24,[z,.str []]⟩) 157 ⟨.struct [(0,1,ak),(1,1,ak)],2,24,[z,.str []]⟩ .nil) 158 (tS 104) (L 159 ⟨.struct [(0,1,ak),(1,1,ak)],2,32,[.Aw,z]⟩)) 160 ⟨.struct [(0,1,ak),(1,1,ak)],2,32,[.Aw,z]⟩ (N (L 162 tF) 163 tF (L 164 tF))) 165 tF (N (N (N (L 167 tF) 168 tF .nil) 169 ⟨.map 157 4,1,8,[.Fp]⟩ (L 170 tF)) 171 tF (N (L 172 tF) 174 tF (L 175 tF))))))) 176 tF (N (N (N (N (N (N (N (L 177 tF) 178 (tS 182) .nil) 179 ⟨.map 3 182,1,8,[.Fp]⟩ (L 180 ⟨.struct [(0,1,ak),(1,1,ak),(2,1,ak),(3,1,ak),(4,1,ak)],5,72,[.Aw,z,.Aw,.Fp,.Fp]⟩)) 181 ⟨.struct [(0,1,ak),(1,1,ak),(2,1,ak),(3,1,ak),(4,1,ak)],5,72,[.Aw,z,.Aw,.Fp,.Fp]⟩ (N (N (L 182 (tP 184)) 183 ⟨.struct [(0,7,aC),(7,1,ak)],8,80,[z,z,z,z,z,z,.Aw,z]⟩ .nil) 184 ⟨.struct [(0,7,aC),(7,1,ak)],8,80,[z,z,z,z,z,z,.Aw,z]⟩ (L 185 tF))) 186 tF (N (N (N (L 187 tF) 188 tF .nil) 189 tF (L 190 tF)) 191 tF (N (L 192 tF) 193 (tP 143) (L 194 tF)))) 195 tF (N (N (N (N (L 196 ⟨.struct [(0,1,ak),(1,1,ak),(2,1,ak),(3,1,ak),(4,1,ak),(5,1,ak),(6,1,ak),(7,1,ak)],8,64,[z,z,z,z,z,z,z,z]⟩) 197 ⟨.struct [(0,1,ak),(1,1,ak),(2,1,ak),(3,1,ak),(4,1,ak),(5,1,ak),(6,1,ak),(7,1,ak)],8,64,[z,z,z,z,z,z,z,z]⟩ .nil) 199 tF (L 200 tF)) 201 ⟨.map 157 3,1,8,[.Fp]⟩ (N (L 202 (tS 157)) 203 ⟨.struct [(0,1,ak),(1,1,ak),(2,1,ak)],3,40,[z,.Fp,.Aw]⟩ (L 204 ⟨.struct [(0,1,ak),(1,1,ak),(2,1,ak)],3,40,[z,.Fp,.Aw]⟩))) 205 tF (N (N (N (L 206 tF) 207 (tP 160) .nil) 208 ⟨.struct [],0,0,[]⟩ (L 209 (tS 272))) 210 ⟨.struct [(0,1,ak),(1,1,ak),(2,1,ak),(3,1,ak)],4,64,[z,z,.Aw,.Aw]⟩ (N (L 211 ⟨.struct [(0,1,ak),(1,1,ak),(2,1,ak),(3,1,ak)],4,64,[z,z,.Aw,.Aw]⟩) 213 tF (L 214 tF))))) 216 tF (N (N (N (N (N (L 217 tF) 218 tF .nil) 219 tF (L 220 tF)) 222 tF (N (N (L 223 ⟨.struct [(0,1,ak),(1,1,ak)],2,32,[.Aw,.F7]⟩) 224 ⟨.struct [(0,1,ak),(1,1,ak)],2,32,[.Aw,.F7]⟩ .nil) 225 ⟨.map 3 224,1,8,[.Fp]⟩ (L 226 tF))) 227 tF (N (N (N (L 228 tF) 229 tF .nil) 230 tF (L 231 tF)) 232 tF (N (L 234 tF) 236 (tS 9) (L 237 tF)))) 238 tF (N (N (N (N (L 239 tF) 240 tF .nil) 241 tF (L 243 tF)) 245 tF (N (L 246 tF) 247 tF (L 248 tF))) 249 ⟨.map 3 248,1,8,[.Fp]⟩ (N (N (N (L 250 tF) 251 tF .nil) 252 ⟨.struct [(0,1,ak),(1,1,ak),(2,1,ak),(3,1,ak)],4,32,[.F7,z,z,z]⟩ (L 253 ⟨.struct [(0,1,ak),(1,1,ak),(2,1,ak),(3,1,ak)],4,32,[.F7,z,z,z]⟩)) 255 (tP 71) (N (L 256 tF) 257 (tP 197) (L 258 tF)))))) 259 tF (N (N (N (N (N (N (L 260 tF) 261 tF .nil) 262 tF (L 263 tF)) 264 tF (N (N (L 265 tF) 266 tF .nil) 267 tF (L 268 tF))) 269 tF (N (N (N (L 270 tF) 271 ⟨.struct [(0,1,ak),(1,1,ak)],2,16,[z,z]⟩ .nil) 272 ⟨.struct [(0,1,ak),(1,1,ak)],2,16,[z,z]⟩ (L 273 tF)) 274 (tP 277) (N (L 275 (tS 5)) 276 ⟨.struct [(0,1,ak),(1,1,ak)],2,32,[.EJ,.Aw]⟩ (L 277 ⟨.struct [(0,1,ak),(1,1,ak)],2,32,[.EJ,.Aw]⟩)))) 278 tF (N (N (N (N (L 279 tF) 280 tF .nil) 282 tF (L 283 tF)) 284 ⟨.map 3 283,1,8,[.Fp]⟩ (N (L 285 tF) 286 tF (L 288 tF))) 289 (tS 253) (N (N (N (L 290 tF) 291 tF .nil) 292 tF (L 293 (tP 5))) 294 tF (N (L 295 tF) 297 tF (L 298 tF))))) 299 tF (N (N (N (N (N (L 300 ⟨.arr 4 9,4,64,[.str [],.str [],.str [],.str []]⟩) 301 ⟨.arr 7 9,7,112,[.str [],.str [],.str [],.str [],.str [],.str [],.str []]⟩ .nil) 302 ⟨.arr 9 9,9,144,[.str [],.str [],.str [],.str [],.str [],.str [],.str [],.str [],.str []]⟩ (L 303 ⟨.arr 3 9,3,48,[.str [],.str [],.str []]⟩)) 305 tF (N (N (L 306 tF) 307 tF .nil) 308 tF (L 309 tF))) 310 tF (N (N (N (L 311 (tS 209)) 312 tF .nil) 313 tF (L 314 ⟨.arr 24 5,24,24,[.int .u8 0,.int .u8 0,.int .u8 0,.int .u8 0,.int .u8 0,.int .u8 0,.int .u8 0,.int .u8 0,.int .u8 0,.int .u8 0,.int .u8 0,.int .u8 0,.int .u8 0,.int .u8 0,.int .u8 0,.int .u8 0,.int .u8 0,.int .u8 0,.int .u8 0,.int .u8 0,.int .u8 0,.int .u8 0,.int .u8 0,.int .u8 0]⟩)) 315 ⟨.int .u64,1,8,[.int .u64 0]⟩ (N (L 316 tF) 317 tF (L 319 tF)))) 320 tF (N (N (N (N (L 321 tF) 322 ⟨.arr 20 315,20,160,[.int .u64 0,.int .u64 0,.int .u64 0,.int .u64 0,.int .u64 0,.int .u64 0,.int .u64 0,.int .u64 0,.int .u64 0,.int .u64 0,.int .u64 0,.int .u64 0,.int .u64 0,.int .u64 0,.int .u64 0,.int .u64 0,.int .u64 0,.int .u64 0,.int .u64 0,.int .u64 0]⟩ .nil) 323 ⟨.int .u32,1,4,[.int .u32 0]⟩ (L 324 ⟨.arr 65 5,65,65,[.int .u8 0,.int .u8 0,.int .u8 0,.int .u8 0,.int .u8 0,.int .u8 0,.int .u8 0,.int .u8 0,.int .u8 0,.int .u8 0,.int .u8 0,.int .u8 0,.int .u8 0,.int .u8 0,.int .u8 0,.int .u8 0,.int .u8 0,.int .u8 0,.int .u8 0,.int .u8 0,.int .u8 0,.int .u8 0,.int .u8 0,.int .u8 0,.int .u8 0,.int .u8 0,.int .u8 0,.int .u8 0,.int .u8 0,.int .u8 0,.int .u8 0,.int .u8 0,.int .u8 0,.int .u8 0,.int .u8 0,.int .u8 0,.int .u8 0,.int .u8 0,.int .u8 0,.int .u8 0,.int .u8 0,.int .u8 0,.int .u8 0,.int .u8 0,.int .u8 0,.int .u8 0,.int .u8 0,.int .u8 0,.int .u8 0,.int .u8 0,.int .u8 0,.int .u8 0,.int .u8 0,.int .u8 0,.int .u8 0,.int .u8 0,.int .u8 0,.int .u8 0,.int .u8 0,.int .u8 0,.int .u8 0,.int .u8 0,.int .u8 0,.int .u8 0,.int .u8 0]⟩)) 325 tF (N (L 326 tF) 327 ⟨.arr 32 5,32,32,[.int .u8 0,.int .u8 0,.int .u8 0,.int .u8 0,.int .u8 0,.int .u8 0,.int .u8 0,.int .u8 0,.int .u8 0,.int .u8 0,.int .u8 0,.int .u8 0,.int .u8 0,.int .u8 0,.int .u8 0,.int .u8 0,.int .u8 0,.int .u8 0,.int .u8 0,.int .u8 0,.int .u8 0,.int .u8 0,.int .u8 0,.int .u8 0,.int .u8 0,.int .u8 0,.int .u8 0,.int .u8 0,.int .u8 0,.int .u8 0,.int .u8 0,.int .u8 0]⟩ (L 328 ⟨.arr 64 5,64,64,[.int .u8 0,.int .u8 0,.int .u8 0,.int .u8 0,.int .u8 0,.int .u8 0,.int .u8 0,.int .u8 0,.int .u8 0,.int .u8 0,.int .u8 0,.int .u8 0,.int .u8 0,.int .u8 0,.int .u8 0,.int .u8 0,.int .u8 0,.int .u8 0,.int .u8 0,.int .u8 0,.int .u8 0,.int .u8 0,.int .u8 0,.int .u8 0,.int .u8 0,.int .u8 0,.int .u8 0,.int .u8 0,.int .u8 0,.int .u8 0,.int .u8 0,.int .u8 0,.int .u8 0,.int .u8 0,.int .u8 0,.int .u8 0,.int .u8 0,.int .u8 0,.int .u8 0,.int .u8 0,.int .u8 0,.int .u8 0,.int .u8 0,.int .u8 0,.int .u8 0,.int .u8 0,.int .u8 0,.int .u8 0,.int .u8 0,.int .u8 0,.int .u8 0,.int .u8 0,.int .u8 0,.int .u8 0,.int .u8 0,.int .u8 0,.int .u8 0,.int .u8 0,.int .u8 0,.int .u8 0,.int .u8 0,.int .u8 0,.int .u8 0,.int .u8 0]⟩))) 329 (tP 343) (N (N (N (L 330 ⟨.struct [(0,1,ak),(1,1,ak),(2,1,ak),(3,1,ak)],4,40,[.EJ,.EJ,.EJ,.str []]⟩) 332 ⟨.arr 0 16,0,0,[]⟩ .nil) 333 ⟨.struct [(0,0,aC)],0,0,[]⟩ (L 337 tF)) 340 ⟨.struct [(0,1,ak),(1,1,ak),(2,1,ak),(3,1,ak),(4,1,ak),(5,1,ak),(6,1,ak),(7,1,ak),(8,1,ak),(9,1,ak),(10,1,ak)],11,48,[.int .u64 0,.int .u64 0,.int .u32 0,.int .u8 0,.int .u8 0,.int .u8 0,.int .u8 0,.F7,.EJ,.int .i32 0,.int .i32 0]⟩ (N (L 342 ⟨.struct [(0,1,ak)],1,16,[.str []]⟩) 343 ⟨.struct [(0,1,ak)],1,16,[.str []]⟩ (L 344 tF))))))))
noncomputable def Tryz.fns:BT Func:=(N (N (N (N (N (N (N (L 3 Tryz.f3) 4 Tryz.f4 (L 5 Tryz.f5)) 6 Tryz.f6 (N (L 7 Tryz.f7) 8 Tryz.f8 .nil)) 9 Tryz.f9 (N (N (L 10 Tryz.f10) 11 Tryz.f11 (L 12 Tryz.f12)) 13 Tryz.f13 (N (L 14 Tryz.f14) 15 Tryz.f15 .nil))) 16 Tryz.f16 (N (N (N (L 17 Tryz.f17) 18 Tryz.f18 (L 19 Tryz.f19)) 20 Tryz.f20 (N (L 21 Tryz.f21) 22 Tryz.f22 .nil)) 23 Tryz.f23 (N (N (L 24 Tryz.f24) 25 Tryz.f25 (L 26 Tryz.f26)) 27 Tryz.f27 (N (L 28 Tryz.f28) 29 Tryz.f29 .nil)))) 30 Tryz.f30 (N (N (N (N (L 31 Tryz.f31) 32 Tryz.f32 (L 33 Tryz.f33)) 34 Tryz.f34 (N (L 35 Tryz.f35) 36 Tryz.f36 .nil)) 37 Tryz.f37 (N (N (L 38 Tryz.f38) 39 Tryz.f39 (L 40 Tryz.f40)) 41 Tryz.f41 (N (L 42 Tryz.f42) 43 Tryz.f43 .nil))) 44 Tryz.f44 (N (N (N (L 45 Tryz.f45) 46 Tryz.f46 (L 47 Tryz.f47)) 48 Tryz.f48 (N (L 49 Tryz.f49) 50 Tryz.f50 .nil)) 51 Tryz.f51 (N (N (L 52 Tryz.f52) 53 Tryz.f53 .nil) 54 Tryz.f54 (N (L 55 Tryz.f55) 56 Tryz.f56 .nil))))) 57 Tryz.f57 (N (N (N (N (N (L 58 Tryz.f58) 59 Tryz.f59 (L 60 Tryz.f60)) 61 Tryz.f61 (N (L 62 Tryz.f62) 63 Tryz.f63 .nil)) 64 Tryz.f64 (N (N (L 65 Tryz.f65) 66 Tryz.f66 (L 67 Tryz.f67)) 68 Tryz.f68 (N (L 69 Tryz.f69) 70 Tryz.f70 .nil))) 71 Tryz.f71 (N (N (N (L 72 Tryz.f72) 73 Tryz.f73 (L 74 Tryz.f74)) 75 Tryz.f75 (N (L 76 Tryz.f76) 77 Tryz.f77 .nil)) 78 Tryz.f78 (N (N (L 79 Tryz.f79) 80 Tryz.f80 .nil) 81 Tryz.f81 (N (L 82 Tryz.f82) 83 Tryz.f83 .nil)))) 84 Tryz.f84 (N (N (N (N (L 85 Tryz.f85) 86 Tryz.f86 (L 87 Tryz.f87)) 88 Tryz.f88 (N (L 89 Tryz.f89) 90 Tryz.f90 .nil)) 91 Tryz.f91 (N (N (L 92 Tryz.f92) 93 Tryz.f93 (L 94 Tryz.f94)) 95 Tryz.f95 (N (L 96 wH) 97 Tryz.f97 .nil))) 98 Tryz.f98 (N (N (N (L 99 kH) 100 Tryz.f100 (L 101 Tryz.f101)) 102 Tryz.f102 (N (L 103 Tryz.f103) 104 Tryz.f104 .nil)) 105 Tryz.f105 (N (N (L 106 Tryz.f106) 107 Tryz.f107 .nil) 108 Tryz.f108 (N (L 109 Tryz.f109) 110 Tryz.f110 .nil)))))) 111 Tryz.f111 (N (N (N (N (N (N (L 112 Tryz.f112) 113 Tryz.f113 (L 114 Tryz.f114)) 115 Tryz.f115 (N (L 116 Tryz.f116) 117 Tryz.f117 .nil)) 118 Tryz.f118 (N (N (L 119 uM) 120 Tryz.f120 (L 121 uN)) 122 dH (N (L 123 Tryz.f123) 124 Tryz.f124 .nil))) 125 Tryz.f125 (N (N (N (L 126 Tryz.f126) 127 Tryz.f127 (L 128 Tryz.f128)) 129 Tryz.f129 (N (L 130 Tryz.f130) 131 Tryz.f131 .nil)) 132 Tryz.f132 (N (N (L 133 Tryz.f133) 134 Tryz.f134 (L 135 Tryz.f135)) 136 Tryz.f136 (N (L 137 Tryz.f137) 138 Tryz.f138 .nil)))) 139 Tryz.f139 (N (N (N (N (L 140 Tryz.f140) 141 Tryz.f141 (L 142 Tryz.f142)) 143 Tryz.f143 (N (L 144 Tryz.f144) 145 Tryz.f145 .nil)) 146 Tryz.f146 (N (N (L 147 Tryz.f147) 148 Tryz.f148 (L 149 Tryz.f149)) 150 Tryz.f150 (N (L 151 Tryz.f151) 152 Tryz.f152 .nil))) 153 Tryz.f153 (N (N (N (L 154 Tryz.f154) 155 Tryz.f155 (L 156 Tryz.f156)) 157 Tryz.f157 (N (L 158 Tryz.f158) 159 Tryz.f159 .nil)) 160 Tryz.f160 (N (N (L 161 Tryz.f161) 162 Tryz.f162 .nil) 163 Tryz.f163 (N (L 164 Tryz.f164) 165 Tryz.f165 .nil))))) 166 Tryz.f166 (N (N (N (N (N (L 167 Tryz.f167) 168 Tryz.f168 (L 169 Tryz.f169)) 170 Tryz.f170 (N (L 171 Tryz.f171) 172 Tryz.f172 .nil)) 173 Tryz.f173 (N (N (L 174 Tryz.f174) 175 Tryz.f175 (L 176 Tryz.f176)) 177 Tryz.f177 (N (L 178 Tryz.f178) 179 Tryz.f179 .nil))) 180 Tryz.f180 (N (N (N (L 181 Tryz.f181) 182 Tryz.f182 (L 183 Tryz.f183)) 184 Tryz.f184 (N (L 185 Tryz.f185) 186 Tryz.f186 .nil)) 187 Tryz.f187 (N (N (L 188 Tryz.f188) 189 Tryz.f189 .nil) 190 Tryz.f190 (N (L 191 Tryz.f191) 192 Tryz.f192 .nil)))) 193 Tryz.f193 (N (N (N (N (L 194 Tryz.f194) 195 Tryz.f195 (L 196 Tryz.f196)) 197 Tryz.f197 (N (L 198 Tryz.f198) 199 Tryz.f199 .nil)) 200 Tryz.f200 (N (N (L 201 Tryz.f201) 204 Tryz.f204 (L 205 Tryz.f205)) 207 Tryz.f207 (N (L 208 Tryz.f208) 209 Tryz.f209 .nil))) 210 Tryz.f210 (N (N (N (L 211 Tryz.f211) 212 Tryz.f212 (L 213 Tryz.f213)) 214 Tryz.f214 (N (L 215 Tryz.f215) 216 Tryz.f216 .nil)) 217 Tryz.f217 (N (N (L 218 Tryz.f218) 219 Tryz.f219 .nil) 220 Tryz.f220 (N (L 221 Tryz.f221) 222 Tryz.f222 .nil)))))))
def Tryz.live:BT Nat:=(N (N (N (N (N (N (N (L 3 35218732883959) 4 81130257423585920070131644399567 (L 5 20282409603656282110240556613407)) 6 8797166791631 (N (L 7 9445021196115443195903) 8 1284520576830907153924047 .nil)) 9 2251937269424119 (N (N (L 10 4083471642060274948278853338158436843503) 11 8175 (L 12 7)) 13 17303031 (N (L 14 4612812064639959007) 15 207 .nil))) 16 70845017306208267517903 (N (N (N (L 17 33685943) 18 31 (L 19 268470387)) 20 4159 (N (L 21 23) 22 23 .nil)) 23 14335 (N (N (L 24 7) 25 36524002295 (L 26 33557455)) 27 31 (N (L 28 638777136133500232728028643279) 29 23 .nil)))) 30 15 (N (N (N (N (L 31 2077) 32 2149585151 (L 33 5)) 34 540925 (N (L 35 9007203621079027) 36 263283 .nil)) 37 7 (N (N (L 38 2785366273595414553384992575) 39 20282565482478322020874687348527 (L 40 295219962791579485687)) 41 1237940113072357669249454075 (N (L 42 131191) 43 69226996735 .nil))) 44 983149 (N (N (N (L 45 7) 46 2566129655 (L 47 268470387)) 48 36031478185920503 (N (L 49 2099007) 50 31 .nil)) 51 76561194806677495 (N (N (L 52 4611826824635484151) 53 536871483 .nil) 54 2077 (N (L 55 5) 56 5 .nil))))) 57 4504703438225535 (N (N (N (N (N (L 58 5488420038750559896029471567983428603) 59 83 (L 60 287)) 61 31 (N (L 62 45035996290519027) 63 5 .nil)) 64 33023 (N (N (L 65 262459) 66 7 (L 67 11)) 68 9007199254773821 (N (L 69 77) 70 5 .nil))) 71 16106194419 (N (N (N (L 72 1101690831219) 73 119 (L 74 4620196376434196339)) 75 538854333 (N (L 76 17867066114039) 77 9445318576492100452863 .nil)) 78 541 (N (N (L 79 2899107766173950474215390087288321352934114299) 80 268439295 .nil) 81 7 (N (L 82 19) 83 1073741831 .nil)))) 84 571 (N (N (N (N (L 85 1) 86 9444769005542164140283 (L 87 262707)) 88 7 (N (L 89 2199090887711) 90 2077 .nil)) 91 91 (N (N (L 92 943) 93 5 (L 94 31)) 95 287 (N (L 96 31) 97 2199158520895 .nil))) 98 65615 (N (N (N (L 99 17179869199) 100 19 (L 101 9481627579855335850495)) 102 9373 (N (L 103 21) 104 3 .nil)) 105 19 (N (N (L 106 131339) 107 1099511693427 .nil) 108 92522022212955275391 (N (L 109 4198555) 110 67109427 .nil)))))) 111 17660955854071 (N (N (N (N (N (N (L 112 34387) 113 2077 (L 114 77928346935781219122975)) 115 7 (N (L 116 33261241786543) 117 138351151749653378483 .nil)) 118 7 (N (N (L 119 55) 120 2361471471810991128351 (L 121 65775)) 122 51 (N (L 123 61463) 124 7 .nil))) 125 143 (N (N (N (L 126 87) 127 268435671 (L 128 525363)) 129 71 (N (L 130 67) 131 66483 .nil)) 132 127 (N (N (L 133 1037) 134 35787119 (L 135 71582839)) 136 66099 (N (L 137 275955859571) 138 131635 .nil)))) 139 15 (N (N (N (N (L 140 5) 141 73788102194745311519 (L 142 2077)) 143 83010348331718212735 (N (L 144 264091) 145 5 .nil)) 146 5 (N (N (L 147 2097283) 148 51 (L 149 5)) 150 32887 (N (L 151 5) 152 5 .nil))) 153 711 (N (N (N (L 154 3) 155 5 (L 156 4432676798715)) 157 7 (N (L 158 1127) 159 1 .nil)) 160 1 (N (N (L 161 2113775) 162 1 .nil) 163 1 (N (L 164 1) 165 1 .nil))))) 166 8431 (N (N (N (N (N (L 167 1) 168 5 (L 169 1048695)) 170 5 (N (L 171 524353) 172 19 .nil)) 173 457 (N (N (L 174 461) 175 461 (L 176 461)) 177 21 (N (L 178 9161) 179 2099151 .nil))) 180 21 (N (N (N (L 181 55) 182 295147905181504570311 (L 183 1995)) 184 16631 (N (L 185 33562571) 186 504373101 .nil)) 187 16583 (N (N (L 188 3) 189 3 .nil) 190 3 (N (L 191 3) 192 3 .nil)))) 193 3 (N (N (N (N (L 194 5) 195 5 (L 196 5)) 197 5 (N (L 198 5) 199 5 .nil)) 200 5 (N (N (L 201 5) 204 2147618759 (L 205 23)) 207 3 (N (L 208 65619) 209 17188391667 .nil))) 210 3 (N (N (N (L 211 21) 212 13 (L 213 2923003971560093291123168138537876760321514930163)) 214 20426010943356750102455122975 (N (L 215 525) 216 5 .nil)) 217 16661 (N (N (L 218 13) 219 5 .nil) 220 5 (N (L 221 21) 222 21 .nil)))))))
theorem Tryz.tysB_:arP aB Tryz.tys=aC:=by kernel_rfl
theorem Tryz.fnsAre_:aew aB Tryz.fns:=⟨Tryz.func111,⟨Tryz.func57,⟨Tryz.func30,⟨Tryz.func16,⟨Tryz.func9,⟨Tryz.func6,⟨Tryz.func4,⟨Tryz.func3,trivial,trivial⟩,⟨Tryz.func5,trivial,trivial⟩⟩,⟨Tryz.func8,⟨Tryz.func7,trivial,trivial⟩,trivial⟩⟩,⟨Tryz.func13,⟨Tryz.func11,⟨Tryz.func10,trivial,trivial⟩,⟨Tryz.func12,trivial,trivial⟩⟩,⟨Tryz.func15,⟨Tryz.func14,trivial,trivial⟩,trivial⟩⟩⟩,⟨Tryz.func23,⟨Tryz.func20,⟨Tryz.func18,⟨Tryz.func17,trivial,trivial⟩,⟨Tryz.func19,trivial,trivial⟩⟩,⟨Tryz.func22,⟨Tryz.func21,trivial,trivial⟩,trivial⟩⟩,⟨Tryz.func27,⟨Tryz.func25,⟨Tryz.func24,trivial,trivial⟩,⟨Tryz.func26,trivial,trivial⟩⟩,⟨Tryz.func29,⟨Tryz.func28,trivial,trivial⟩,trivial⟩⟩⟩⟩,⟨Tryz.func44,⟨Tryz.func37,⟨Tryz.func34,⟨Tryz.func32,⟨Tryz.func31,trivial,trivial⟩,⟨Tryz.func33,trivial,trivial⟩⟩,⟨Tryz.func36,⟨Tryz.func35,trivial,trivial⟩,trivial⟩⟩,⟨Tryz.func41,⟨Tryz.func39,⟨Tryz.func38,trivial,trivial⟩,⟨Tryz.func40,trivial,trivial⟩⟩,⟨Tryz.func43,⟨Tryz.func42,trivial,trivial⟩,trivial⟩⟩⟩,⟨Tryz.func51,⟨Tryz.func48,⟨Tryz.func46,⟨Tryz.func45,trivial,trivial⟩,⟨Tryz.func47,trivial,trivial⟩⟩,⟨Tryz.func50,⟨Tryz.func49,trivial,trivial⟩,trivial⟩⟩,⟨Tryz.func54,⟨Tryz.func53,⟨Tryz.func52,trivial,trivial⟩,trivial⟩,⟨Tryz.func56,⟨Tryz.func55,trivial,trivial⟩,trivial⟩⟩⟩⟩⟩,⟨Tryz.func84,⟨Tryz.func71,⟨Tryz.func64,⟨Tryz.func61,⟨Tryz.func59,⟨Tryz.func58,trivial,trivial⟩,⟨Tryz.func60,trivial,trivial⟩⟩,⟨Tryz.func63,⟨Tryz.func62,trivial,trivial⟩,trivial⟩⟩,⟨Tryz.func68,⟨Tryz.func66,⟨Tryz.func65,trivial,trivial⟩,⟨Tryz.func67,trivial,trivial⟩⟩,⟨Tryz.func70,⟨Tryz.func69,trivial,trivial⟩,trivial⟩⟩⟩,⟨Tryz.func78,⟨Tryz.func75,⟨Tryz.func73,⟨Tryz.func72,trivial,trivial⟩,⟨Tryz.func74,trivial,trivial⟩⟩,⟨Tryz.func77,⟨Tryz.func76,trivial,trivial⟩,trivial⟩⟩,⟨Tryz.func81,⟨Tryz.func80,⟨Tryz.func79,trivial,trivial⟩,trivial⟩,⟨Tryz.func83,⟨Tryz.func82,trivial,trivial⟩,trivial⟩⟩⟩⟩,⟨Tryz.func98,⟨Tryz.func91,⟨Tryz.func88,⟨Tryz.func86,⟨Tryz.func85,trivial,trivial⟩,⟨Tryz.func87,trivial,trivial⟩⟩,⟨Tryz.func90,⟨Tryz.func89,trivial,trivial⟩,trivial⟩⟩,⟨Tryz.func95,⟨Tryz.func93,⟨Tryz.func92,trivial,trivial⟩,⟨Tryz.func94,trivial,trivial⟩⟩,⟨Tryz.func97,⟨Tryz.func96,trivial,trivial⟩,trivial⟩⟩⟩,⟨Tryz.func105,⟨Tryz.func102,⟨Tryz.func100,⟨Tryz.func99,trivial,trivial⟩,⟨Tryz.func101,trivial,trivial⟩⟩,⟨Tryz.func104,⟨Tryz.func103,trivial,trivial⟩,trivial⟩⟩,⟨Tryz.func108,⟨Tryz.func107,⟨Tryz.func106,trivial,trivial⟩,trivial⟩,⟨Tryz.func110,⟨Tryz.func109,trivial,trivial⟩,trivial⟩⟩⟩⟩⟩⟩,⟨Tryz.func166,⟨Tryz.func139,⟨Tryz.func125,⟨Tryz.func118,⟨Tryz.func115,⟨Tryz.func113,⟨Tryz.func112,trivial,trivial⟩,⟨Tryz.func114,trivial,trivial⟩⟩,⟨xB,⟨Tryz.func116,trivial,trivial⟩,trivial⟩⟩,⟨Tryz.func122,⟨Tryz.func120,⟨Tryz.func119,trivial,trivial⟩,⟨Tryz.func121,trivial,trivial⟩⟩,⟨Tryz.func124,⟨Tryz.func123,trivial,trivial⟩,trivial⟩⟩⟩,⟨Tryz.func132,⟨Tryz.func129,⟨Tryz.func127,⟨Tryz.func126,trivial,trivial⟩,⟨Tryz.func128,trivial,trivial⟩⟩,⟨Tryz.func131,⟨Tryz.func130,trivial,trivial⟩,trivial⟩⟩,⟨Tryz.func136,⟨Tryz.func134,⟨Tryz.func133,trivial,trivial⟩,⟨Tryz.func135,trivial,trivial⟩⟩,⟨Tryz.func138,⟨Tryz.func137,trivial,trivial⟩,trivial⟩⟩⟩⟩,⟨Tryz.func153,⟨Tryz.func146,⟨Tryz.func143,⟨Tryz.func141,⟨Tryz.func140,trivial,trivial⟩,⟨Tryz.func142,trivial,trivial⟩⟩,⟨Tryz.func145,⟨Tryz.func144,trivial,trivial⟩,trivial⟩⟩,⟨Tryz.func150,⟨xC,⟨xE,trivial,trivial⟩,⟨xG,trivial,trivial⟩⟩,⟨Tryz.func152,⟨Tryz.func151,trivial,trivial⟩,trivial⟩⟩⟩,⟨Tryz.func160,⟨Tryz.func157,⟨Tryz.func155,⟨Tryz.func154,trivial,trivial⟩,⟨Tryz.func156,trivial,trivial⟩⟩,⟨Tryz.func159,⟨Tryz.func158,trivial,trivial⟩,trivial⟩⟩,⟨Tryz.func163,⟨Tryz.func162,⟨Tryz.func161,trivial,trivial⟩,trivial⟩,⟨Tryz.func165,⟨Tryz.func164,trivial,trivial⟩,trivial⟩⟩⟩⟩⟩,⟨Tryz.func193,⟨Tryz.func180,⟨Tryz.func173,⟨xH,⟨Tryz.func168,⟨Tryz.func167,trivial,trivial⟩,⟨Tryz.func169,trivial,trivial⟩⟩,⟨xI,⟨xJ,trivial,trivial⟩,trivial⟩⟩,⟨Tryz.func177,⟨Tryz.func175,⟨Tryz.func174,trivial,trivial⟩,⟨Tryz.func176,trivial,trivial⟩⟩,⟨Tryz.func179,⟨Tryz.func178,trivial,trivial⟩,trivial⟩⟩⟩,⟨Tryz.func187,⟨Tryz.func184,⟨Tryz.func182,⟨Tryz.func181,trivial,trivial⟩,⟨Tryz.func183,trivial,trivial⟩⟩,⟨Tryz.func186,⟨Tryz.func185,trivial,trivial⟩,trivial⟩⟩,⟨Tryz.func190,⟨Tryz.func189,⟨Tryz.func188,trivial,trivial⟩,trivial⟩,⟨Tryz.func192,⟨Tryz.func191,trivial,trivial⟩,trivial⟩⟩⟩⟩,⟨Tryz.func210,⟨Tryz.func200,⟨Tryz.func197,⟨Tryz.func195,⟨Tryz.func194,trivial,trivial⟩,⟨Tryz.func196,trivial,trivial⟩⟩,⟨Tryz.func199,⟨Tryz.func198,trivial,trivial⟩,trivial⟩⟩,⟨Tryz.func207,⟨Tryz.func204,⟨xK,trivial,trivial⟩,⟨Tryz.func205,trivial,trivial⟩⟩,⟨xM,⟨Tryz.func208,trivial,trivial⟩,trivial⟩⟩⟩,⟨xO,⟨xP,⟨xQ,⟨xR,trivial,trivial⟩,⟨xU,trivial,trivial⟩⟩,⟨xW,⟨Tryz.func215,trivial,trivial⟩,trivial⟩⟩,⟨xX,⟨xY,⟨xZ,trivial,trivial⟩,trivial⟩,⟨x9,⟨yc,trivial,trivial⟩,trivial⟩⟩⟩⟩⟩⟩⟩
theorem Tryz.entersB_:af0 Tryz.fns=aC:=by kernel_rfl
theorem Tryz.mixed_:aB.follows .mixedOrders=aC:=by kernel_rfl
end
end Go.Proofs
namespace Go.Sx
def adn(P:Program)(t:Nat):Bool:=
 (match P.underlying t with
  |some (.struct fs)=>match fs.toList with
   |[f,g]=>f.name != "_" && g.name != "_" && f.offset==0&&g.offset==1&&(match P.underlying f.type with|some (.int .i64)=>aC|_=>ak)&&(match P.underlying g.type with|some .string=>aC|_=>ak)
   |_=>ak
  |_=>ak) && !P.stoodInHeld t
section
variable{P:Program}
theorem agx{t:Nat}{d:TypeDesc}(hu:P.underlying t=ay d)(hd:(match d with| .struct _| .array _ _=>aC|_=>ak)=ak){cs:Array Value}{j:Nat}{v:Value}(hj:cs[j]?=ay v)(w:World):(part t cs j).run P w=.ok v w:=by
 cases d<;>first|(simp at hd;done) |simp[part,isAgg,run_underlying hu,hj]
theorem aeG{t:Nat}(h:adn P t=aC):QY P t:=by
 unfold adn at h;rw[aH] at h;obtain ⟨h1,h2⟩:=h;have h2:P.stoodInHeld t=ak:=by simpa using h2
 split at h1
 ·rename_i fs hu
  split at h1
  ·rename_i f g hl
   simp only[aH,bne_iff_ne,ne_eq,beq_iff_eq] at h1;obtain ⟨⟨⟨⟨⟨a1,a2⟩,a3⟩,a4⟩,a5⟩,a6⟩:=h1;have uf:P.underlying f.type=ay (.int .i64):=by
    split at a5
    ·assumption
    ·cases a5
   have ug:P.underlying g.type=ay .string:=by
    split at a6
    ·assumption
    ·cases a6
   have hfs:fs=#[f,g]:=by
    obtain ⟨l⟩:=fs;have hl:l=[f,g]:=hl;rw[hl]
   have p0 (n:DC) (w:World):(part f.type #[.int .i64 n.1,.string ⟨n.2.toArray⟩] 0).run P w=.ok (.int .i64 n.1) w:=agx uf rfl rfl w;have p1 (n:DC) (w:World):(part g.type #[.int .i64 n.1,.string ⟨n.2.toArray⟩] 1).run P w=.ok (.string ⟨n.2.toArray⟩) w:=agx ug rfl rfl w;refine ⟨⟨fs,hu⟩,fun em n w=>?_,fun n m w=>?_⟩
   ·have ci:∀(d:Nat) (k:Int),(iV em (d+1) f.type (.int .i64 k)).run P w=.ok () w:=fun d k=>by simp[iV,run_underlying uf]
    have cs:∀(d:Nat) (s:ByteArray),(iV em (d+1) g.type (.string s)).run P w=.ok () w:=fun d s=>by simp[iV,run_underlying ug]
    have:∀d:Nat,(iV em (d+2) t (CZ n)).run P w=.ok () w:=fun d=>by
     unfold CZ;rw[iV];simp[run_underlying hu,hfs,a1,a2,a3,a4,p0,p1,ci,cs]
    exact this 9998
   ·have hf:P.fieldsOf t=fs:=by simp[Program.fieldsOf,hu]
    have he:=run_equalIn_struct (P:=P) w 9999 t #[.int .i64 n.1,.string ⟨n.2.toArray⟩] #[.int .i64 m.1,.string ⟨m.2.toArray⟩] (by rw[hf];exact hu) h2;have q1:=run_equalIn_int (P:=P) w 9998 f.type .i64 .i64 n.1 m.1 uf;have q2:=run_equalIn_string (P:=P) w 9998 g.type ⟨n.2.toArray⟩ ⟨m.2.toArray⟩ ug;show (Op.equalIn 10000 t (CZ n) (CZ m)).run P w=_;unfold CZ;rw[he,hf,hl];simp only[Op.eqFields,a1,a2,a3,a4,p0,p1,q1,q2,acv,ne_eq,not_false_eq_true,if_true,Sem.run_bind,Result.andThen_ok,Sem.run_ite,Sem.run_pure];obtain ⟨x,l⟩:=n;obtain ⟨y,k⟩:=m;by_cases q:x=y<;>by_cases q2:l=k<;>simp[q,q2]
  ·cases h1
 ·cases h1
end
end Go.Sx
namespace Go.Proofs
open Go Go.Sx
abbrev Wd:=Nat->Nat->List UInt8
def Wx(W:Wd)(g:Nat)(n:Nat):List Sh:=match n with
 |3=>[.str (W g 0),.str (W g 1),.str (W g 2)] |4=>[.str (W g 0),.str (W g 1),.str (W g 2),.str (W g 3)] |7=>[.str (W g 0),.str (W g 1),.str (W g 2),.str (W g 3),.str (W g 4),.str (W g 5),.str (W g 6)] |9=>[.str (W g 0),.str (W g 1),.str (W g 2),.str (W g 3),.str (W g 4),.str (W g 5),.str (W g 6),.str (W g 7),.str (W g 8)] |_=>[]
def pow10:List Int:=[1,10,100,1000,10000,100000,1000000,10000000,100000000,1000000000,10000000000,100000000000,1000000000000,10000000000000,100000000000000,1000000000000000,10000000000000000,100000000000000000,1000000000000000000,10000000000000000000]
def AY(W:Wd):List (Nat×Sh):=[(0,.er 0 329),(1,.er 1 329),(2,.er 2 329),(3,.er 3 329),(4,.er 4 329),(5,.er 5 329),(6,.er 6 329),(7,.er 7 329),(8,.er 8 329),(9,.er 9 329),(10,.er 10 329),(11,.er 11 329),(12,.er 12 329),(13,.er 13 329),(14,.er 14 329),(15,.er 15 329),
 (16,.Aj (Wx W 16 4)),(17,.Aj (Wx W 17 7)),(18,.Aj (Wx W 18 9)),(19,.Aj (Wx W 19 3)),(20,.Aj (Wx W 20 4)),(21,.Aj (Wx W 21 4)),(23,.Aj (pow10.map (aW .u64)))]
def W7:Wd:=fun g i=>(match g,i with
 |16,0=>[114,101,103,105,115,116,101,114] |16,1=>[99,111,117,110,116,101,114] |16,2=>[113,117,101,117,101] |16,3=>[109,97,112] |17,0=>[98,101,103,105,110] |17,1=>[99,97,108,108] |17,2=>[114,101,116,117,114,110] |17,3=>[116,114,121] |17,4=>[99,111,109,109,105,116] |17,5=>[97,98,111,114,116] |17,6=>[99,97,110,99,101,108] |18,0=>[114,101,97,100] |18,1=>[119,114,105,116,101] |18,2=>[97,100,100] |18,3=>[103,101,116] |18,4=>[101,110,113] |18,5=>[100,101,113] |18,6=>[112,117,116] |18,7=>[108,111,111,107] |18,8=>[100,101,108] |19,0=>[111,107] |19,1=>[110,111,110,101] |19,2=>[118,97,108] |20,0=>[108,105,118,101] |20,1=>[112,101,110,100,105,110,103] |20,2=>[99,111,109,109,105,116,116,101,100] |20,3=>[97,98,111,114,116,101,100] |21,0=>[115,101,114,105,97,108] |21,1=>[115,116,114,105,99,116] |21,2=>[102,105,110,97,108] |21,3=>[111,112,97,113,117,101] |_,_=>[])
def noSpec:Nat->Option (List Sh->Tree Sh):=fun _=>aK
def anE:Nat->Option VT
 |169=>ay .bool |201=>ay .int |_=>aK
theorem akb(t:Nat)(h:List.contains [157] t=aC):QY aB t:=by
 obtain rfl:t=157:=by simpa using h
 exact aeG (by kernel_rfl)
noncomputable def C7(A:Prim)(W:Wd)(spec:Nat->Option (List Sh->Tree Sh))(stop:Nat->List Nat->Bool):Ctx:=
 {A,tys:=Tryz.tys,fns:=Tryz.fns,spec,eqs:=[272,55],Vg:=[329],LU:=stop,gls:=AY W,live:=Tryz.live,ZV:=[157],ad2:=anE}
theorem arU:V8 aB Tryz.tys [272,55]=aC:=by kernel_rfl
theorem arV:af9 aB [329]=aC:=by kernel_rfl
def anF:Nat->Option Nat
 |182=>ay 272 |_=>aK
def aiE:Nat->Option Nat
 |208=>ay 272 |_=>aK
noncomputable def XK(A:Prim)(W:Wd)(spec:Nat->Option (List Sh->Tree Sh))(stop:Nat->List Nat->Bool):Ctx:=
 {A,tys:=Tryz.tys,fns:=Tryz.fns,spec,eqs:=[272,55],Vg:=[329],LU:=stop,gls:=AY W,live:=Tryz.live,ZV:=[157],ad2:=anE,ins:=anF,lend:=fun g=>g==181||g==184,grow:=aiE}
theorem C7.ok(spec:Nat->Option (List Sh->Tree Sh))(stop:Nat->List Nat->Bool):A8 aB (C7 zV W7 spec stop):=
 ⟨aaE Tryz.tysB_,PX Tryz.fnsAre_,rfl,Tryz.mixed_,fun t i h hi xs ys w h1 h2 x y=>XE (P5 arU t i h hi) xs ys w h1 h2 x y,V7 arV,akb⟩
theorem XK.ok(spec:Nat->Option (List Sh->Tree Sh))(stop:Nat->List Nat->Bool):A8 aB (XK zV W7 spec stop):=
 ⟨aaE Tryz.tysB_,PX Tryz.fnsAre_,rfl,Tryz.mixed_,fun t i h hi xs ys w h1 h2 x y=>XE (P5 arU t i h hi) xs ys w h1 h2 x y,V7 arV,akb⟩
theorem C7.UK{spec:Nat->Option (List Sh->Tree Sh)}{stop:Nat->List Nat->Bool}(hs:∀g F,spec g=ay F->Aq aB (AY W7) g F)(he:∀g,(spec g).isSome=aC->(Tryz.fns.get g).isSome=aC):Bz aB (C7 zV W7 spec stop):=
 ⟨hs,fun g h=>by
  rcases h with h|h
  ·exact GI Tryz.fnsAre_ Tryz.entersB_ g (he g h)
  ·exact GI Tryz.fnsAre_ Tryz.entersB_ g h,fun _ _ _ h=>(by cases h),fun _ _ _ h=>(by cases h)⟩
theorem MZ(stop:Nat->List Nat->Bool):Bz aB (C7 zV W7 noSpec stop):=C7.UK (fun _ _ h=>by cases h) (fun _ h=>by cases h)
def DI:Nat->Bool:=fun _=>ak
def Am:Nat->List Nat->Bool:=fun _ _=>aC
abbrev L0:Nat:=1000000000000000000000000000000
def Ak:Nat->List Nat->Bool:=fun _ _=>ak
end Go.Proofs
namespace Go.Sx
open Go.RowKit (Below)
theorem aa1{H:Mem}{w w':World}{s:Sh}{v:Value}(hs:∀b0,(CB s b0).2=([],b0))(hd:∀b0,Den H (fun _=>aK) (CB s b0).1 v)(on:H.on w)(h:Below w.heap.size w w'):Eh H w s v H w':=by
 have hb (b:Nat) (o:Obj) (e:H b=ay o):b<w.heap.size:=(bG.1 (on b o e)).1;refine ⟨fun _ _ e=>e,fun b o e=>?_,h.os,h.tape,h.output,h.size,h.block,fun b hb=>.inl hb,fun b0=>⟨fun _=>aK,fun i hi=>(hi rfl).elim,fun i b hb=>by simp[bk] at hb,hd b0,?_⟩⟩
 ·rw[h.block b (hb b o e)];exact on b o e
 ·rw[hs b0]
  exact ⟨fun _ _ h=>by simp[C9,zX] at h,fun _ _ _ _ _ h=>by simp[C9,zX] at h⟩
theorem YU{P:Program}{gls:List (Nat×Sh)}{f:Nat}{F:List Sh->Tree Sh}
  (h:∀(H:Mem) (w:World) (AX:List Sh) (args:List Value) (φ:Sh->Prop),H.on w->CS gls H->Dq H AX args->(F AX).All φ->
   ∃s v,φ s/\(∀b0,(CB s b0).2=([],b0))/\(∀b0,Den H (fun _=>aK) (CB s b0).1 v)/\Calls P f args.toArray w fun e w'=>e=.returned v/\Below w.heap.size w w'):Aq P gls f F:=by
 intro H w AX args φ on hg hr hφ;obtain ⟨s,v,hs,h1,h2,hc⟩:=h H w AX args φ on hg hr hφ;exact hc.mono fun e w' ⟨he,hw⟩=>⟨v,s,H,he,hs,aa1 h1 h2 on hw⟩
mutual
def Wy:Sh->Sh
 | .os _ st n g=>.sl st n g | .agg l=>.agg (WA l) | .Aj l=>.Aj (WA l) |s=>s
def WA:List Sh->List Sh
 |[]=>[] |x::r=>Wy x::WA r
end
def anG(H:Mem)(E:Env)(l:List (Nat×SB)):Prop:=∀i e st n g,(i,SB.own e st n g)∈l->∃v,E i=ay v/\Rep H (.sl st n g) v
theorem XL(x:Value):He (SV.lit x)=aC:=by cases x<;>rfl
mutual
theorem alo:∀s:Sh,He (Xh s)=aC
 | .agg l=>by simpa[Xh,He] using Na l | .Aj l=>by simpa[Xh,He] using Na l | .fn f l=>by simpa[Xh,He] using Na l | .i _ _=>rfl | .b _=>rfl | .v x=>XL x | .pt _=>rfl | .str _=>rfl | .sl _ _ _=>rfl | .os _ _ _ _=>rfl | .CG _ _=>rfl | .er _ _=>rfl
theorem Na:∀l:List Sh,KY (Qz l)=aC
 |[]=>rfl |x::r=>by simp[Qz,KY,alo x,Na r]
end
theorem agy(f:Nat)(l:List Sh):He (.fn f (Qz l))=aC:=by simpa[He] using Na l
mutual
theorem agz{H:Mem}{E:Env}:∀(s:Sh) (b:Nat) (v:Value),anG H E (CB s b).2.1->Den H E (CB s b).1 v->∀b',Den H Ll (CB (Wy s) b').1 v/\(CB (Wy s) b').2=([],b')
 | .os e st n g,b,v,hf,h,b'=>by
  obtain ⟨h1,_⟩:=h;obtain ⟨u,h2,h3⟩:=hf b e st n g (by simp[CB]);rw[h1] at h2;cases h2;exact ⟨h3,rfl⟩
 | .agg l,b,v,hf,h,b'=>by
  obtain ⟨vs,rfl,h⟩:=h;obtain ⟨h1,h2⟩:=XM l b vs.toList hf h b';exact ⟨⟨vs,rfl,h1⟩,h2⟩
 | .Aj l,b,v,hf,h,b'=>by
  obtain ⟨vs,rfl,h⟩:=h;obtain ⟨h1,h2⟩:=XM l b vs.toList hf h b';exact ⟨⟨vs,rfl,h1⟩,h2⟩
 | .i k n,b,v,_,h,b'=>⟨h,rfl⟩ | .b x,b,v,_,h,b'=>⟨h,rfl⟩ | .v x,b,v,_,h,b'=>⟨L8 (E:=E) (XL x) h,rfl⟩ | .str l,b,v,_,h,b'=>⟨h,rfl⟩ | .sl st n g,b,v,_,h,b'=>⟨h,rfl⟩ | .CG t x,b,v,_,h,b'=>⟨h,rfl⟩ | .fn f l,b,v,_,h,b'=>⟨L8 (E:=E) (x:=.fn f (Qz l)) (agy f l) h,rfl⟩ | .er g T,b,v,_,h,b'=>⟨h,rfl⟩ | .pt l,b,v,_,h,b'=>⟨h,rfl⟩
theorem XM{H:Mem}{E:Env}:∀(l:List Sh) (b:Nat) (vs:List Value),anG H E (Ej l b).2.1->Af H E (Ej l b).1 vs->∀b',Af H Ll (Ej (WA l) b').1 vs/\(Ej (WA l) b').2=([],b')
 |[],_,[],_,_,_=>⟨trivial,rfl⟩ |[],_,_::_,_,h,_=>h.elim |_::_,_,[],_,h,_=>h.elim |x::r,b,v::vs,hf,h,b'=>by
  obtain ⟨h1,h2⟩:=h;obtain ⟨q1,q2⟩:=agz x b v (fun i e st n g hm=>hf i e st n g (by simp[Ej,hm])) h1 b';obtain ⟨q3,q4⟩:=XM r _ vs (fun i e st n g hm=>hf i e st n g (by simp[Ej,hm])) h2 b';simp only[WA,Ej];rw[q2];simp only[jG];exact ⟨⟨q1,q3⟩,q4⟩
end
theorem Rz(hp:List (Nat×SB)):∀l l':List (Nat×SB),C9 hp (l++l')=C9 (C9 hp l) l'
 |[],_=>rfl |(i,b)::l,l'=>Rz (hins hp i b) l l'
theorem UL:∀(l:List (Nat×SB)) (i:Nat) (x:SB),zX (C9 [] l) i=ay x->(i,x)∈l
 |[],_,_,h=>by simp[C9,zX] at h |(j,b)::l,i,x,h=>by
  rw[C9,FI] at h;cases hq:zX (C9 [] l) i with
  |some y=>
   rw[hq] at h;cases h;exact List.mem_cons_of_mem _ (UL l i _ hq)
  |none=>
   rw[hq] at h;simp only[EC] at h;cases hj:(j==i)<;>simp only[hj,cond_true,cond_false] at h
   ·simp[zX] at h
   ·obtain rfl:j=i:=by simpa using hj
    cases h;simp
structure RD(l:List (Nat×SB))(b c:Nat):Prop where
 le:b<=c
 rng:∀i x,(i,x)∈l->b<=i/\i<c
 own:∀i x,(i,x)∈l->∃e st n g,x=.own e st n g
 at_:∀i x,(i,x)∈l->zX (C9 [] l) i=ay x
theorem RD.nil(b:Nat):RD [] b b:=⟨dh _,fun _ _ h=>by simp at h,fun _ _ h=>by simp at h,fun _ _ h=>by simp at h⟩
theorem RD.append{l l':List (Nat×SB)}{b c d:Nat}(h:RD l b c)(h':RD l' c d):RD (l++l') b d:=by
 refine ⟨Nat.le_trans h.le h'.le,fun i x hm=>?_,fun i x hm=>?_,fun i x hm=>?_⟩
 ·rcases bK.1 hm with hm|hm
  ·have:=h.rng i x hm;have:=h'.le;omega
  ·have:=h'.rng i x hm;have:=h.le;omega
 ·rcases bK.1 hm with hm|hm
  ·exact h.own i x hm
  ·exact h'.own i x hm
 ·rw[Rz,FI]
  rcases bK.1 hm with hm|hm
  ·cases hq:zX (C9 [] l') i with
   |none=>exact h.at_ i x hm |some y=>
    have h1:=h'.rng i y (UL l' i y hq);have h2:=h.rng i x hm;omega
  ·rw[h'.at_ i x hm]
mutual
theorem ado:∀(s:Sh) (b:Nat),RD (CB s b).2.1 b (CB s b).2.2
 | .os e st n g,b=>by
  simp only[CB];refine ⟨vN b,fun i x hm=>?_,fun i x hm=>?_,fun i x hm=>?_⟩<;>simp at hm<;>obtain ⟨rfl,rfl⟩:=hm
  ·omega
  ·exact ⟨_,_,_,_,rfl⟩
  ·simp[C9,hins,zX]
 | .agg l,b=>UM l b | .Aj l,b=>UM l b | .i _ _,b=>.nil b | .b _,b=>.nil b | .v _,b=>.nil b | .str _,b=>.nil b | .sl _ _ _,b=>.nil b | .CG _ _,b=>.nil b | .fn _ _,b=>.nil b | .er _ _,b=>.nil b | .pt _,b=>.nil b
theorem UM:∀(l:List Sh) (b:Nat),RD (Ej l b).2.1 b (Ej l b).2.2
 |[],b=>.nil b |x::r,b=>(ado x b).append (UM r _)
end
theorem UN:∀(ids:List Nat) (hp:List (Nat×SB)),(∀i x,zX hp i=ay x->(∃e st n g,x=.own e st n g)\/∃st n g,x=.fz st n g)->(∀i,i∈ids->zX hp i≠aK)->
  ∃hp',EU ids.length hp ids=ay hp'/\(∀i st n g,zX hp i=ay (.fz st n g)->zX hp' i=ay (.fz st n g))/\∀i e st n g,i∈ids->zX hp i=ay (.own e st n g)->zX hp' i=ay (.fz st n g)
 |[],hp,_,_=>⟨hp,rfl,fun _ _ _ _ h=>h,fun _ _ _ _ _ h=>by simp at h⟩ |id::ids,hp,ho,hi=>by
  cases hl:zX hp id with
  |none=>exact (hi id (by simp) hl).elim |some x=>
   rcases ho id x hl with ⟨e,st,n,g,rfl⟩ |⟨st,n,g,rfl⟩
   ·have look (i:Nat):zX (hset hp id (.fz st n g)) i=bif id==i then ay (.fz st n g) else zX hp i:=by rw[Es,hl];rfl
    obtain ⟨hp',h1,h2,h3⟩:=UN ids (hset hp id (.fz st n g)) (fun i x h=>by
     rw[look] at h;cases hj:(id==i)<;>simp only[hj,cond_true,cond_false] at h
     ·exact ho i x h
     ·cases h;exact .inr ⟨_,_,_,rfl⟩) (fun i hm=>by
     rw[look];cases hj:(id==i)<;>simp only[cond_true,cond_false]
     ·exact hi i (by simp[hm])
     ·simp)
    refine ⟨hp',by simp only[iP,EU,hl];exact h1,fun i st' n' g' h=>?_,fun i e' st' n' g' hm h=>?_⟩
    ·refine h2 i st' n' g' ?_
     rw[look];cases hj:(id==i)<;>simp only[cond_true,cond_false]
     ·exact h
     ·obtain rfl:id=i:=by simpa using hj
      rw[hl] at h;cases h
    ·cases hj:(id==i)
     ·have hne:¬i=id:=fun e=>by subst e;simp at hj
      refine h3 i e' st' n' g' (by simpa[hne] using hm) ?_;rw[look,hj];exact h
     ·obtain rfl:id=i:=by simpa using hj
      rw[hl] at h;cases h;refine h2 id _ _ _ ?_;rw[look,hj];rfl
   ·obtain ⟨hp',h1,h2,h3⟩:=UN ids hp ho (fun i hm=>hi i (by simp[hm]))
    refine ⟨hp',?_,h2,fun i e' st' n' g' hm h=>?_⟩
    ·have:EU (ids.length+1) hp (id::ids)=EU ids.length hp ids:=by simp only[EU,hl]
     rw[iP,this];exact h1
    ·rcases List.mem_cons.1 hm with rfl|hm
     ·rw[hl] at h;cases h
     ·exact h3 i e' st' n' g' hm h
theorem Eh.Wy{H:Mem}{w:World}{s:Sh}{v:Value}{H':Mem}{w':World}(r:Eh H w s v H' w'):∃H2,Eh H w (Wy s) v H2 w':=by
 obtain ⟨E1,h1,h2,h3,h4⟩:=r.res 0;have ids:=ado s 0;have BI:DX ⟨w,fun _=>False,H⟩ H' w':=⟨r.os,r.tape,r.output,r.size,fun b hb _=>r.old b hb,r.on,r.Iw,fun b hb=>(r.fresh b hb).imp id .inl⟩;obtain ⟨hp',a1,a2,a3⟩:=UN ((CB s 0).2.1.map (·.1)) (C9 [] (CB s 0).2.1) (fun i x h=>.inl (ids.own i x (UL _ i x h))) (fun i hm=>by
  obtain ⟨⟨j,x⟩,hm',rfl⟩:=dJ.1 hm;show zX _ j≠aK;rw[ids.at_ j x hm'];simp)
 obtain ⟨H2,b1,b2,b3,_⟩:=Ia a1 h4 BI;have fz:anG H2 E1 (CB s 0).2.1:=fun i e st n g hm=>b2.ent i _ (a3 i e st n g (dJ.2 ⟨_,hm,rfl⟩) (ids.at_ i _ hm));have hd:=agz s 0 v fz (Den.le b1 (fun _ _ e=>e) h3);refine ⟨H2,b3.le,b3.on,r.os,r.tape,r.output,r.size,r.old,fun b hb=>?_,fun b0=>⟨Ll,fun i hi=>(hi rfl).elim,fun i b hb=>by simp[bk,Ll] at hb,(hd b0).1,?_⟩⟩
 ·rcases b3.fresh b hb with h|h|h
  ·exact .inl h
  ·exact .inr h
  ·exact h.elim
 ·rw[(hd b0).2]
  exact OM
theorem Aq.Wy{P:Program}{gls:List (Nat×Sh)}{f:Nat}{F F':List Sh->Tree Sh}(h:Aq P gls f F)(hF:∀AX (φ:Sh->Prop),(F' AX).All φ->(F AX).All fun s=>φ (Go.Sx.Wy s)):Aq P gls f F':=
 fun H w AX args φ on hg hr hφ=>(h H w AX args _ on hg hr (hF AX φ hφ)).mono fun e w' ⟨v,s,H',he,hs,r⟩=>let ⟨H2,r2⟩:=r.Wy;⟨v,_,H2,he,hs,r2⟩
end Go.Sx
namespace Go.Pl
open Go Go.Sx
structure Oj where
 kind:Int
 init:Int
 deriving DecidableEq,Inhabited
structure Pr where
 key:Int
 val:Int
 deriving DecidableEq,Inhabited
structure Cl where
 obj:Int
 op:Int
 key:Int
 val:Int
 deriving DecidableEq,Inhabited
def obR(o:Oj):List Sh:=[.i .i64 o.kind,.i .i64 o.init]
def prR(e:Pr):List Sh:=[.i .i64 e.key,.i .i64 e.val]
def clR(e:Cl):List Sh:=[.i .i64 e.obj,.i .i64 e.op,.i .i64 e.key,.i .i64 e.val]
def stR(s:List UInt8):List Sh:=[.str s]
def inR(n:Int):List Sh:=[.i .i64 n]
class Row(α:Type)where
 put:α->List Sh
 get:List Sh->Option α
 Dl:∀l a,get l=ay a->put a=l
 get_put:∀a,get (put a)=ay a
 Jk:α
instance:Row Oj where
 put:=obR
 get l:=match l with
  |[.i .i64 a,.i .i64 b]=>ay ⟨a,b⟩ |_=>aK
 Dl l a h:=by
  split at h
  ·cases h;rfl
  ·cases h
 get_put a:=rfl
 Jk:=⟨0,0⟩
instance:Row Pr where
 put:=prR
 get l:=match l with
  |[.i .i64 a,.i .i64 b]=>ay ⟨a,b⟩ |_=>aK
 Dl l a h:=by
  split at h
  ·cases h;rfl
  ·cases h
 get_put a:=rfl
 Jk:=⟨0,0⟩
instance:Row Cl where
 put:=clR
 get l:=match l with
  |[.i .i64 a,.i .i64 b,.i .i64 c,.i .i64 d]=>ay ⟨a,b,c,d⟩ |_=>aK
 Dl l a h:=by
  split at h
  ·cases h;rfl
  ·cases h
 get_put a:=rfl
 Jk:=⟨0,0,0,0⟩
instance:Row (List UInt8) where
 put:=stR
 get l:=match l with
  |[.str a]=>ay a |_=>aK
 Dl l a h:=by
  split at h
  ·cases h;rfl
  ·cases h
 get_put a:=rfl
 Jk:=[]
instance:Row Int where
 put:=inR
 get l:=match l with
  |[.i .i64 a]=>ay a |_=>aK
 Dl l a h:=by
  split at h
  ·cases h;rfl
  ·cases h
 get_put a:=rfl
 Jk:=0
def okB(α:Type)[Row α](n:Nat)(g:Nat->List Sh):Bool:=
 match n with
 |0=>aC |n+1=>okB α n g&&(Row.get (α:=α) (g n)).isSome
def zY{α:Type}[Row α](g:Nat->List Sh)(i:Nat):α:=(Row.get (g i)).getD Row.Jk
def lst(α:Type)[Row α](n:Nat)(g:Nat->List Sh):List α:=(aX n).map (zY g)
def nth{α:Type}[Row α](l:List α)(i:Nat):α:=l.getD i Row.Jk
def zW{α:Type}[Row α](o:Nat->α):Nat->List Sh:=fun j=>Row.put (o j)
section
variable{α:Type}[Row α]
theorem IU{n:Nat}{g:Nat->List Sh}(h:okB α n g=aC):∀i,i<n->g i=Row.put (zY (α:=α) g i):=by
 induction n with
 |zero=>intro i hi;omega |succ n ih=>
  simp only[okB,aH] at h;intro i hi;by_cases e:i=n
  ·subst e
   obtain ⟨a,ha⟩:=gy.1 h.2;simp only[zY,ha,Option.getD_some];exact (Row.Dl _ _ ha).symm
  ·exact ih h.1 i (by omega)
theorem D5(o:Nat->α):∀n,okB α n (zW o)=aC
 |0=>rfl |n+1=>by simp[okB,D5 o n,zW,Row.get_put]
theorem ZL{g:Nat->List Sh}{o:Nat->α}:∀{n:Nat},(∀i,i<n->g i=Row.put (o i))->okB α n g=aC
 |0,_=>rfl |n+1,h=>by simp[okB,ZL (n:=n) fun i hi=>h i (by omega),h n (by omega),Row.get_put]
theorem Nb(o:Nat->α)(i:Nat):zY (zW o) i=o i:=by simp[zY,zW,Row.get_put]
@[simp] theorem E5 (n:Nat) (g:Nat->List Sh):(lst α n g).length=n:=by simp[lst]
theorem RF{n:Nat}{g:Nat->List Sh}{i:Nat}(h:i<n):nth (lst α n g) i=zY g i:=by simp[nth,lst,h]
theorem RG(o:Nat->α)(n:Nat):lst α n (zW o)=(aX n).map o:=by
 unfold lst;refine jM fun i _=>Nb o i
theorem aa2(l:List α):(aX l.length).map (nth l)=l:=by
 apply List.ext_getElem
 ·simp
 ·intro i h1 h2
  simp[nth,h2]
theorem KI(l:List α):lst α l.length (zW (nth l))=l:=by rw[RG,aa2]
theorem aa3{n:Nat}{g g':Nat->List Sh}(h:∀i,i<n->g i=g' i):lst α n g=lst α n g':=by
 unfold lst;refine jM fun i hi=>?_
 simp[zY,h i (List.mem_range.1 hi)]
end
theorem Ep{H:Mem}{st n:Nat}{g g':Nat->List Sh}{v:Value}(h:Rep H (.sl st n g) v)(hg:∀j,j<n->g j=g' j):Rep H (.sl st n g') v:=by
 cases h with
 |sl0 _ _ A cap hc=>exact .sl0 _ _ _ _ hc |sl _ _ _ b off cap c h1 h2 h3 h4 h5 h6=>exact .sl _ _ _ b off cap c h1 h2 (fun i hi=>by rw[<-hg i hi];exact h3 i hi) h4 h5 fun i j s hi e=>h6 i j s hi (by rw[hg i hi];exact e)
theorem DV{α:Type}[Row α]{H:Mem}{st n:Nat}{g:Nat->List Sh}{v:Value}(h:Rep H (.sl st n g) v)(hg:okB α n g=aC):Rep H (.sl st n (zW (zY (α:=α) g))) v:=
 Ep h fun j hj=>IU hg j hj
def len{α:Type}(l:List α):Nat:=l.length
def fO(g:Nat->List Sh):Nat->List Sh:=zW (zY (α:=Oj) g)
open Go Go.Sx
theorem Aa(a b:Int):zV.lt a b=decide (a<b):=rfl
theorem Dw(a b:Int):zV.le a b=decide (a<=b):=rfl
theorem Ap(a b:Int):zV.eq a b=(a==b):=rfl
theorem Bj(a:Int)(n:Nat):zV.inB a n=decide (0<=a/\a<n):=rfl
theorem J5(a:Int)(n:Nat):zV.upTo a n=decide (0<=a/\a<=n):=rfl
theorem Et(n b:Nat):zV.room n b=decide (n*b<=140737488355328/\n<=maxLen):=rfl
theorem CJ(a:Int):zV.toN a=a.toNat:=rfl
theorem Ar(n:Nat):zV.Az n=(n:Int):=rfl
theorem Di(n m:Nat):zV.addN n m=n+m:=rfl
theorem aa4(n m:Nat):zV.Jm n m=n - m:=rfl
theorem XO(n m:Nat):zV.ZU n m=decide (n<=m):=rfl
theorem BP(b:Bool):zV.nt b=!b:=rfl
theorem DW(a b c:Bool):zV.ite a b c=bif a then b else c:=rfl
theorem XP(a b:Bool):zV.beq a b=(a==b):=rfl
theorem XQ(a b:List UInt8):zV.seq a b=(a==b):=rfl
theorem Df(a b:Int):zV.add .i64 a b=aT.wrap (a+b):=rfl
theorem L9(a b:Int):zV.sub .i64 a b=aT.wrap (a - b):=rfl
theorem Mc(a b:Int):zV.max a b=if b>a then b else a:=rfl
theorem Ed(g:Nat->List Sh)(n:Nat)(h:Nat->List Sh)(i:Nat):zV.snoc g n h i=if i<n then g i else h (i - n):=rfl
theorem BL{a:Int}(h1:-9223372036854775808<=a)(h2:a<=9223372036854775807):aT.wrap a=a:=by
 rw[IntKind.wrap_i64];omega
theorem GU:ah 1=1:=rfl
theorem maxLen_eq:maxLen=9223372036854775807:=rfl
def Bo(n b:Nat):Bool:=zV.room n b
structure Cj where
 kind:Int
 num:Int
 q:List Int
 ps:List Pr
 deriving DecidableEq,Inhabited
def CY(s:Cj):List Sh:=[.i .i64 s.kind,.i .i64 s.num,.sl 1 (len s.q) (zW (nth s.q)),.sl 2 (len s.ps) (zW (nth s.ps))]
def BX(d:Nat->Cj):Nat->List Sh:=fun j=>CY (d j)
end Go.Pl
namespace Go.Proofs
open Go.Shelf
def Tryz.lays156_ren:uO:=⟨fun|156=>117|165=>147|166=>148|169=>149|240=>171|241=>172|276=>202|277=>203|n=>n,fun|31=>236|9=>9|3=>3|4=>4|0=>0|20=>20|72=>277|76=>121|70=>274|37=>275|75=>46|127=>293|164=>304|5=>5|80=>206|n=>n,fun|n=>n⟩
theorem Tryz.lays156:yg aB Tryz.lays156_ren:={
 mixed:=by kernel_rfl
 f156:=xB.trans (congrArg ay (by kernel_rfl))
 f165:=xE.trans (congrArg ay (by kernel_rfl))
 f166:=xC.trans (congrArg ay (by kernel_rfl))
 f169:=xG.trans (congrArg ay (by kernel_rfl))
 f240:=xJ.trans (congrArg ay (by kernel_rfl))
 f241:=xI.trans (congrArg ay (by kernel_rfl))
 f276:=Tryz.func202.trans (congrArg ay (by kernel_rfl))
 f277:=Tryz.func203.trans (congrArg ay (by kernel_rfl))
 t0:=uP
 a0:=yN
 z0:=yh
 v0:=vO
 t3:=l9
 a3:=yO
 z3:=yj
 v3:=vP
 t4:=uQ
 a4:=yP
 z4:=yt
 v4:=vS
 t9:=lN
 a9:=yQ
 z9:=yu
 v9:=vT
 t20:=um
 a20:=yw
 z20:=wS
 v20:=uS
 t31:=Tryz.underlying236
 a31:=Tryz.isAgg236
 z31:=Tryz.sizeOf236
 v31:=Tryz.zeroValue236
 t37:=sO
 a37:=wU
 z37:=wI
 v37:=uo
 t70:=Tryz.underlying274
 a70:=Tryz.isAgg274
 z70:=Tryz.sizeOf274
 v70:=Tryz.zeroValue274
 t72:=Tryz.underlying277
 a72:=Tryz.isAgg277
 z72:=Tryz.sizeOf277
 v72:=Tryz.zeroValue277
 t75:=Tryz.underlying46
 a75:=Tryz.isAgg46
 z75:=Tryz.sizeOf46
 v75:=Tryz.zeroValue46
 t76:=Tryz.underlying121
 a76:=Tryz.isAgg121
 z76:=Tryz.sizeOf121
 v76:=Tryz.zeroValue121
 t127:=Tryz.underlying293
 a127:=Tryz.isAgg293
 z127:=Tryz.sizeOf293
 v127:=Tryz.zeroValue293
 t164:=Tryz.underlying304
 a164:=Tryz.isAgg304
 z164:=Tryz.sizeOf304
 v164:=Tryz.zeroValue304}
theorem Tryz.Builder_Extra_156:Builder.Extra aB Tryz.lays156_ren:={
 sizeBuilder:=by kernel_rfl
 liesBuilder:=by kernel_rfl
 t5:=uT
 a5:=yR
 z5:=yx
 v5:=vU
 infoByte:=by kernel_rfl
 cellsByte:=by kernel_rfl
 sizeByte:=by kernel_rfl
 neB5:=by decide}
open Go.RowKit in
theorem Tryz.strings_Join_none(a:Option Addr)(c:Nat)(sep:ByteArray)(w:World):
  Calls aB 117 #[.slice a 0 c,.string sep] w fun e w'=>e=.returned (.string ⟨#[]⟩)/\w'=w:=Any.strings_Join_none Tryz.lays156 Tryz.Builder_Extra_156 a c sep w
open Go.RowKit in
theorem Tryz.strings_Join(bk o c:Nat)(xs:List ByteArray)(sep:ByteArray)(w:World)(hcells:∀(j:Nat) x,xs[j]?=ay x->w.cell? ⟨bk,o+j,aK⟩=ay (.string x))(hbk:bk<w.heap.size)(hN:xs.length<=140737488355328)(hcap:xs.length<=c)(hlen:(Lib.join (xs.map (·.data.toList)) sep.data.toList).length<=140737488355328):
  Calls aB 117 #[.slice (ay ⟨bk,o,aK⟩) xs.length c,.string sep] w fun e w'=>e=.returned (.string ⟨(Lib.join (xs.map (·.data.toList)) sep.data.toList).toArray⟩)/\Below w.heap.size w w':=Any.strings_Join Tryz.lays156 Tryz.Builder_Extra_156 bk o c xs sep w hcells hbk hN hcap hlen
def Tryz.laysM171_ren:uO:=⟨fun|171=>170|243=>201|246=>209|283=>211|284=>212|285=>213|286=>214|129=>217|317=>216|318=>218|319=>219|320=>220|337=>221|338=>222|n=>n,fun|3=>3|9=>9|2=>2|4=>4|171=>314|0=>0|53=>315|37=>275|5=>5|173=>318|212=>322|51=>323|20=>20|213=>324|46=>151|232=>327|233=>328|n=>n,fun|17=>23|18=>24|19=>25|n=>n⟩
theorem Tryz.laysM171:wV aB Tryz.laysM171_ren:={
 mixed:=by kernel_rfl
 f129:=xO.trans (congrArg ay (by kernel_rfl))
 f171:=xH.trans (congrArg ay (by kernel_rfl))
 f243:=xK.trans (congrArg ay (by kernel_rfl))
 f246:=xM.trans (congrArg ay (by kernel_rfl))
 f283:=xR.trans (congrArg ay (by kernel_rfl))
 f284:=xQ.trans (congrArg ay (by kernel_rfl))
 f285:=xU.trans (congrArg ay (by kernel_rfl))
 f286:=xP.trans (congrArg ay (by kernel_rfl))
 f317:=xW.trans (congrArg ay (by kernel_rfl))
 f318:=xZ.trans (congrArg ay (by kernel_rfl))
 f319:=xY.trans (congrArg ay (by kernel_rfl))
 f320:=xX.trans (congrArg ay (by kernel_rfl))
 f337:=yc.trans (congrArg ay (by kernel_rfl))
 f338:=x9.trans (congrArg ay (by kernel_rfl))
 t0:=uP
 a0:=yN
 z0:=yh
 v0:=vO
 t2:=Tryz.underlying2
 a2:=Tryz.isAgg2
 z2:=Tryz.sizeOf2
 v2:=Tryz.zeroValue2
 t3:=l9
 a3:=yO
 z3:=yj
 v3:=vP
 t4:=uQ
 a4:=yP
 z4:=yt
 v4:=vS
 t5:=uT
 a5:=yR
 z5:=yx
 v5:=vU
 t9:=lN
 a9:=yQ
 z9:=yu
 v9:=vT
 t20:=um
 a20:=yw
 z20:=wS
 v20:=uS
 t37:=sO
 a37:=wU
 z37:=wI
 v37:=uo
 t46:=Tryz.underlying151
 a46:=Tryz.isAgg151
 z46:=Tryz.sizeOf151
 v46:=Tryz.zeroValue151
 t51:=Tryz.underlying323
 a51:=Tryz.isAgg323
 z51:=Tryz.sizeOf323
 v51:=Tryz.zeroValue323
 t53:=Tryz.underlying315
 a53:=Tryz.isAgg315
 z53:=Tryz.sizeOf315
 v53:=Tryz.zeroValue315
 t171:=Tryz.underlying314
 a171:=Tryz.isAgg314
 z171:=Tryz.sizeOf314
 v171:=Tryz.zeroValue314
 t173:=Tryz.underlying318
 a173:=Tryz.isAgg318
 z173:=Tryz.sizeOf318
 v173:=Tryz.zeroValue318
 t212:=Tryz.underlying322
 a212:=Tryz.isAgg322
 z212:=Tryz.sizeOf322
 v212:=Tryz.zeroValue322
 t213:=Tryz.underlying324
 a213:=Tryz.isAgg324
 z213:=Tryz.sizeOf324
 t232:=Tryz.underlying327
 a232:=Tryz.isAgg327
 z232:=Tryz.sizeOf327
 v232:=Tryz.zeroValue327
 t233:=Tryz.underlying328
 a233:=Tryz.isAgg328
 z233:=Tryz.sizeOf328
 v233:=Tryz.zeroValue328
 g17:=by kernel_rfl
 g18:=by kernel_rfl
 g19:=by kernel_rfl
 i0:=by kernel_rfl
 i2:=by kernel_rfl
 i3:=by kernel_rfl
 i4:=by kernel_rfl
 i5:=by kernel_rfl
 i9:=by kernel_rfl
 i20:=by kernel_rfl
 i37:=by kernel_rfl
 i46:=by kernel_rfl
 i51:=by kernel_rfl
 i53:=by kernel_rfl
 i171:=by kernel_rfl
 i173:=by kernel_rfl
 i212:=by kernel_rfl
 i232:=by kernel_rfl
 i233:=by kernel_rfl
 m17:=by kernel_rfl
 m18:=by kernel_rfl
 m19:=by kernel_rfl}
open Go.RowKit Go.Sort Go.Lib in
theorem Tryz.strconv_Itoa(n:Int)(h0:-9223372036854775808<=n)(h1:n<=9223372036854775807)(w:World)(htab:vV aB w "internal/strconv.uint64pow10" .u64 qR) :
  Calls aB 170 #[.int .i64 n] w fun e w'=>e=.returned (.string ⟨(Lib.itoa n).toArray⟩)/\∃k os,w'=grow (w.drewN k) os:=Any.strconv_Itoa Tryz.laysM171 n h0 h1 w htab
end Go.Proofs
namespace Go.Pl
open Go Go.Sx
def AU(n:Int):List UInt8:=Go.Lib.itoa n
def Dj(l:List (List UInt8))(sep:List UInt8):List UInt8:=Go.Lib.join l sep
def CQ(n:Int):Bool:=decide (-9223372036854775808<=n/\n<=9223372036854775807)
def Ik(l:List UInt8):Bool:=decide (l.length<=140737488355328)
end Go.Pl
namespace Go.Proofs
open Go Go.Sx Go.Pl Go.RowKit Go.Sort Go.Lib
theorem alp{H:Mem}{k:IntKind}{n:Int}{v:Value}(h:Rep H (.i k n) v):v=.int k n:=by cases h;rfl
theorem agA{H:Mem}{l:List UInt8}{v:Value}(h:Rep H (.str l) v):v=.string ⟨l.toArray⟩:=by cases h;rfl
theorem acI(w:World)(k:Nat)(os:Array Obj):Below w.heap.size w (grow (w.drewN k) os):=
 ⟨rfl,rfl,rfl,by show w.heap.size<=(w.heap++os).size;rw[Array.size_append];omega,fun j hj=>by
  show (w.heap++os)[j]?=w.heap[j]?;rw[Array.getElem?_append_left hj]⟩
theorem avd{H:Mem}{w:World}(on:H.on w)(hg:CS (AY W7) H):vV aB w "internal/strconv.uint64pow10" .u64 qR:=by
 obtain ⟨⟨cs,e,f,h1,h2⟩,c,h3,h4⟩:FH H 23 (.Aj (pow10.map (aW .u64))):=hg.at_ 23 _ (by rfl);have hgl:aB.globalNamed "internal/strconv.uint64pow10" = ay 23:=by kernel_rfl
 unfold vV World.var?;rw[hgl];simp only[Option.bind_some];rw[on _ _ h1];simp only[kL];apply Array.ext
 ·rw[h2];rfl
 ·intro i hi hi2
  have hi':i<(pow10.map (aW .u64)).length:=by rw[<-h2];exact hi
  obtain ⟨q1,_⟩:=h3 i hi';have q3:cs[i]?=ay (c i):=by simpa[hcell,h1] using q1
  have hip:i<pow10.length:=by simpa using hi'
  have q4:=h4 i (.i .u64 pow10[i]) (by rw[List.getElem?_map,List.getElem?_eq_getElem hip];rfl);have q5:c i=.int .u64 pow10[i]:=alp q4;rw[Array.getElem?_eq_getElem hi] at q3;rw[dD q3,q5];have e:qR=pow10:=by decide
  simp[e]
def F92:List Sh->Tree Sh
 |[.i .i64 n]=>.need (CQ n) (.leaf (.str (AU n))) |_=>.fail
theorem O92:Aq aB (AY W7) 170 F92:=YU fun H w AX args φ on hg hr h=>by
 unfold F92 at h;split at h
 ·obtain ⟨h1,h2⟩:=h
  match args,hr with
  |[v],⟨hv,_⟩=>
   cases hv;have h1:=of_decide_eq_true h1;exact ⟨_,_,h2,fun _=>rfl,fun _=>.str _,(Tryz.strconv_Itoa _ h1.1 h1.2 w (avd on hg)).mono fun e w' ⟨he,k,os,hw⟩=>⟨he,by rw[hw];exact acI w k os⟩⟩
 ·exact h.elim
def F56:List Sh->Tree Sh
 |[.sl 1 n g,.str sep]=>.need (okB (List UInt8) n g) (.need (Bo n 16) (.need (Ik (Dj (lst (List UInt8) n g) sep)) (.leaf (.str (Dj (lst (List UInt8) n g) sep))))) |_=>.fail
theorem O56:Aq aB (AY W7) 117 F56:=YU fun H w AX args φ on hg hr h=>by
 unfold F56 at h;split at h
 ·rename_i n g sep
  obtain ⟨h1,h2,h3,h4⟩:=h;match args,hr with
  |[v,u],⟨hv,hu,_⟩=>
   cases hu;have h3:=of_decide_eq_true h3;refine ⟨_,_,h4,fun _=>rfl,fun _=>.str _,?_⟩;cases hv with
   |sl0 _ _ A cap hc=>
    refine (Tryz.strings_Join_none A cap ⟨sep.toArray⟩ w).mono fun e w' ⟨he,hw⟩=>⟨?_,hw ▸ yS _ _⟩;rw[he];rfl
   |sl _ _ _ b off cap c q1 q2 q3 q4 q5 q6=>
    have hs:∀i,i<n->c i 0=.string ⟨(zY (α:=List UInt8) g i).toArray⟩:=fun i hi=>
     agA (q6 i 0 (.str (zY (α:=List UInt8) g i)) hi (by rw[IU h1 i hi];rfl))
    have hcell:∀i,i<n->w.cell? ⟨b,off+i,aK⟩=ay (.string ⟨(zY (α:=List UInt8) g i).toArray⟩):=fun i hi=>by
     have:=LW on (q4 i 0 hi (by decide));simpa[hs i hi] using this
    by_cases hn:n=0
    ·subst hn
     refine (Tryz.strings_Join_none _ cap ⟨sep.toArray⟩ w).mono fun e w' ⟨he,hw⟩=>⟨?_,hw ▸ yS _ _⟩;rw[he];rfl
    have hb:b<w.heap.size:=by
     have:=hcell 0 (by omega);unfold World.cell? at this;cases hq:w.heap[b]? with
     |none=>simp[hq] at this |some o=>exact (bG.1 hq).1
    have hl:(((lst (List UInt8) n g).map fun l=>(⟨l.toArray⟩:ByteArray)).map (·.data.toList))=lst (List UInt8) n g:=by
     rw[List.map_map];simp[Function.comp_def]
    have hlen:((lst (List UInt8) n g).map fun l=>(⟨l.toArray⟩:ByteArray)).length=n:=by simp
    have:=Tryz.strings_Join b off cap ((lst (List UInt8) n g).map fun l=>(⟨l.toArray⟩:ByteArray)) ⟨sep.toArray⟩ w (fun j x hx=>by
     have hj:j<n:=by
      have:=(List.getElem?_eq_some_iff.1 hx).1;simpa using this
     rw[hcell j hj];simp[lst,hj] at hx;rw[<-hx]) hb (by rw[hlen];have:=of_decide_eq_true h2;omega) (by rw[hlen];exact q1) (by rw[hl];exact h3)
    rw[hl,hlen] at this;exact this
 ·exact h.elim
end Go.Proofs
namespace Go.Sx
mutual
def Wk:Sh->Sh->Prop
 | .os _ st n g,s'=>match s' with
  | .sl st' n' g'=>(n=0/\n'=0)\/(st=st'/\n=n'/\∀i,i<n->g i=g' i) |_=>False
 | .sl st n g,s'=>match s' with
  | .sl st' n' g'=>(n=0/\n'=0)\/(st=st'/\n=n'/\∀i,i<n->g i=g' i) |_=>False
 | .agg l,s'=>match s' with
  | .agg l'=>Nu l l' |_=>False
 | .Aj l,s'=>match s' with
  | .Aj l'=>Nu l l' |_=>False
 | .b x,s'=>s'=.b x\/s'=.v (.bool x) |s,s'=>s=s'
def Nu:List Sh->List Sh->Prop
 |[],[]=>True |x::l,y::r=>Wk x y/\Nu l r |_,_=>False
end
theorem P9{H:Mem}{st n:Nat}{g:Nat->List Sh}{v:Value}(h:Rep H (.sl st n g) v){st' n':Nat}{g':Nat->List Sh}(hw:(n=0/\n'=0)\/(st=st'/\n=n'/\∀i,i<n->g i=g' i)):Rep H (.sl st' n' g') v:=by
 rcases hw with ⟨rfl,rfl⟩ |⟨rfl,rfl,hg⟩
 ·cases h with
  |sl0 _ _ A cap hc=>exact .sl0 _ _ _ _ hc |sl _ _ _ b off cap c h1 h2 h3 h4 h5 h6=>exact .sl0 _ _ _ _ h2
 ·cases h with
  |sl0 _ _ A cap hc=>exact .sl0 _ _ _ _ hc |sl _ _ _ b off cap c h1 h2 h3 h4 h5 h6=>exact .sl _ _ _ b off cap c h1 h2 (fun i hi=>by rw[<-hg i hi];exact h3 i hi) h4 h5 fun i j s hi e=>h6 i j s hi (by rw[hg i hi];exact e)
mutual
theorem aeI{H:Mem}:∀(s s':Sh) (b b':Nat) (v:Value),Wk s s'->Den H Ll (CB (Wy s) b).1 v->Den H Ll (CB s' b').1 v/\(CB s' b').2=([],b')
 | .os e st n g,s',b,b',v,hw,h=>by
  cases s'<;>simp only[Wk] at hw
  rename_i st' n' g';exact ⟨P9 (show Rep H (.sl st n g) v from h) hw,rfl⟩
 | .sl st n g,s',b,b',v,hw,h=>by
  cases s'<;>simp only[Wk] at hw
  rename_i st' n' g';exact ⟨P9 (show Rep H (.sl st n g) v from h) hw,rfl⟩
 | .agg l,s',b,b',v,hw,h=>by
  cases s'<;>simp only[Wk] at hw
  rename_i l';obtain ⟨vs,rfl,h⟩:=h;obtain ⟨q1,q2⟩:=aa5 l l' b b' vs.toList hw h;exact ⟨⟨vs,rfl,q1⟩,q2⟩
 | .Aj l,s',b,b',v,hw,h=>by
  cases s'<;>simp only[Wk] at hw
  rename_i l';obtain ⟨vs,rfl,h⟩:=h;obtain ⟨q1,q2⟩:=aa5 l l' b b' vs.toList hw h;exact ⟨⟨vs,rfl,q1⟩,q2⟩
 | .b x,s',b,b',v,hw,h=>by
  simp only[Wk] at hw;rcases hw with rfl|rfl
  ·exact ⟨h,rfl⟩
  ·exact ⟨h,rfl⟩
 | .i k n,s',b,b',v,hw,h=>by simp only[Wk] at hw;subst hw;exact ⟨h,rfl⟩ | .v x,s',b,b',v,hw,h=>by simp only[Wk] at hw;subst hw;exact ⟨h,rfl⟩ | .str l,s',b,b',v,hw,h=>by simp only[Wk] at hw;subst hw;exact ⟨h,rfl⟩ | .CG t x,s',b,b',v,hw,h=>by simp only[Wk] at hw;subst hw;exact ⟨h,rfl⟩ | .fn f l,s',b,b',v,hw,h=>by simp only[Wk] at hw;subst hw;exact ⟨h,rfl⟩ | .er g T,s',b,b',v,hw,h=>by simp only[Wk] at hw;subst hw;exact ⟨h,rfl⟩ | .pt l,s',b,b',v,hw,h=>by simp only[Wk] at hw;subst hw;exact ⟨h,rfl⟩
theorem aa5{H:Mem}:∀(l l':List Sh) (b b':Nat) (vs:List Value),Nu l l'->Af H Ll (Ej (WA l) b).1 vs->Af H Ll (Ej l' b').1 vs/\(Ej l' b').2=([],b')
 |[],[],_,_,[],_,_=>⟨trivial,rfl⟩ |[],_::_,_,_,_,hw,_=>by simp[Nu] at hw |_::_,[],_,_,_,hw,_=>by simp[Nu] at hw |[],[],_,_,_::_,_,h=>h.elim |_::_,_::_,_,_,[],_,h=>h.elim |x::l,y::r,b,b',v::vs,hw,h=>by
  simp only[Nu] at hw;obtain ⟨h1,h2⟩:=h;obtain ⟨q1,q2⟩:=aeI x y b b' v hw.1 h1;obtain ⟨q3,q4⟩:=aa5 l r _ b' vs hw.2 h2;simp only[Ej];rw[q2];simp only[jG];exact ⟨⟨q1,q3⟩,q4⟩
end
mutual
theorem adp:∀(s:Sh) (b:Nat),He (CB (Wy s) b).1=aC
 | .os _ _ _ _,_=>rfl | .agg l,b=>by simpa[Wy,CB,He] using UO l b | .Aj l,b=>by simpa[Wy,CB,He] using UO l b | .i _ _,_=>rfl | .b _,_=>rfl | .v x,_=>XL x | .str _,_=>rfl | .sl _ _ _,_=>rfl | .CG _ _,_=>rfl | .fn f l,_=>agy f l | .er _ _,_=>rfl | .pt _,_=>rfl
theorem UO:∀(l:List Sh) (b:Nat),KY (Ej (WA l) b).1=aC
 |[],_=>rfl |x::r,b=>by simp[WA,Ej,KY,adp x b,UO r]
end
theorem Eh.wk{H:Mem}{w:World}{s s':Sh}{v:Value}{H':Mem}{w':World}(r:Eh H w s v H' w')(hw:Wk s s'):∃H2,Eh H w s' v H2 w':=by
 obtain ⟨H2,r⟩:=r.Wy;obtain ⟨E1,h1,h2,h3,h4⟩:=r.res 0;have hd0:Den H2 Ll (CB (Go.Sx.Wy s) 0).1 v:=L8 (E:=E1) (adp s 0) h3;refine ⟨H2,r.Iw,r.on,r.os,r.tape,r.output,r.size,r.old,r.fresh,fun b0=>⟨Ll,fun i hi=>(hi rfl).elim,fun i b hb=>by simp[bk,Ll] at hb,(aeI s s' 0 b0 v hw hd0).1,?_⟩⟩;rw[(aeI s s' 0 b0 v hw hd0).2];exact OM
def up(φ:Sh->Prop)(s:Sh):Prop:=∃s',Wk s s'/\φ s'
def Bg:Nat->Bool:=fun _=>ak
section
variable{P:Program}{C:Ctx}
theorem agC(hC:A8 P C){g:Nat}{fn:Func}(hfn:C.fns.get g=ay fn)(hb:fn.body.isSome=aC){H:Mem}{w:World}{DR:List Sh}{args:List Value}{φ:Sh->Prop}{L:Nat}(hon:H.on w)(hg:CS C.gls H)(hr:Dq H DR args)
  (hgo:Bc P C (K0 H w) g [.code []] (zZ fn.ntmps DR L) [] emp φ):Calls P g args.toArray w fun e w'=>∃v s H',e=.returned v/\φ s/\Eh H w s v H' w':=by
 obtain ⟨body,hbody⟩:=gy.1 hb;have hP:=hC.fn g fn hfn;intro cs;let a:Act:={tmps:=args.toArray++Array.replicate (fn.ntmps - args.toArray.size) undef,defers:=[]}
 have hlen:=hr.length;have st:St C (K0 H w) H E0 w (zZ fn.ntmps DR L) a:=by
  refine ⟨?_,⟨fun _ _ h=>by simp[zZ,zX] at h,fun _ _ _ _ _ h=>by simp[zZ,zX] at h⟩,⟨rfl,rfl,rfl,dh _,fun _ _ _=>rfl,hon,fun _ _ h=>h,fun _ h=>.inl h⟩,fun _ _ _=>rfl,hg,rfl⟩;have:a.tmps.toList=args++dR (fn.ntmps - DR.length) undef:=by simp[a,hlen]
  rw[this];exact (Jb hr).append (Af.any _ _ (by simp))
 have hit:BU (Ae fn) [.code []] [.code body]:=by
  have:=BU.code (body:=Ae fn) [] BU.nil;have he:AA (Ae fn) []=body:=by simp[AA,Ae,hbody]
  rwa[he] at this
 obtain ⟨a',w',v,s,H',todo,fn0,q0,q1,q2,q3,q4,q5⟩:=hgo H E0 w a [.code body] [] cs fn hfn st hit trivial V5;exact ⟨.returned v,w',_,⟨v,s,H',rfl,q3,q4⟩,by rw[KG hP hbody];exact q1,rfl,rfl,q2,rfl,fn,hP,by cases hfn.symm.trans q0;exact q5⟩
theorem FM(hC:A8 P C){g:Nat}{fn:Func}{F:List Sh->Tree Sh}(hfn:C.fns.get g=ay fn)(hb:fn.body.isSome=aC)
  (h:∀(H:Mem) (w:World) (AX:List Sh) (args:List Value) (φ:Sh->Prop),Dq H AX args->(F AX).All φ->∃DR:List Sh,Dq H DR args/\∃L,Bc P C (K0 H w) g [.code []] (zZ fn.ntmps DR L) [] emp (up φ)):Aq P C.gls g F:=by
 intro H w AX args φ hon hg hr hφ;obtain ⟨DR,hr',L,hgo⟩:=h H w AX args φ hr hφ;refine (agC hC hfn hb hon hg hr' hgo).mono fun e w' ⟨v,s,H',he,⟨s',hw,hs⟩,r⟩=>?_;obtain ⟨H2,r2⟩:=r.wk hw;exact ⟨v,s',H2,he,hs,r2⟩
theorem DT(hC:A8 P C)(hF:Bz P C){m n g L:Nat}{fn:Func}{F:List Sh->Tree Sh}(hfn:C.fns.get g=ay fn)(hb:fn.body.isSome=aC)
  (h:∀(H:Mem) (w:World) (AX:List Sh) (args:List Value) (φ:Sh->Prop),Dq H AX args->(F AX).All φ->∃DR:List Sh,Dq H DR args/\(AP C Bg m n g [.code []] (zZ fn.ntmps DR L) [] []).All (Jw P C (K0 H w) [] emp (up φ))):Aq P C.gls g F:=
 FM hC hfn hb fun H w AX args φ hr hφ=>let ⟨DR,hr',ha⟩:=h H w AX args φ hr hφ;⟨DR,hr',L,G9 hC hF ha⟩
end
end Go.Sx
namespace Go.Proofs
open Go Go.Sx Go.Pl
def IJ:List It:=[bF [0,1,0,1,1],dA 0,bF [1,1,1]]
def WB:List It:=[bF [0,0,1,0,1,1],bF [0,1,0,1,1],dA 0,bF [1,1,1]]
end Go.Proofs
namespace Go.Pl
open Go Go.Sx
def aiF{α:Type}[DecidableEq α](a b:List α):Bool:=decide (a=b)
end Go.Pl
namespace Go.Proofs
open Go Go.Sx Go.Pl
def F13:List Sh->Tree Sh
 |[.sl 1 n g]=>.need (okB Int n g) (.need (Bo n 8) (.leaf (.os 3 1 n (zW (zY (α:=Int) g))))) |_=>.fail
end Go.Proofs
namespace Go.Pl
open Go Go.Sx
def AZ:Sh->Option Int
 | .i .i64 c=>ay c | .v (.int .i64 c)=>ay c |_=>aK
def Ew(c:Int):List UInt8:=if c=1 then Go.Proofs.W7 16 0 else if c=2 then Go.Proofs.W7 16 1 else if c=3 then Go.Proofs.W7 16 2 else if c=4 then Go.Proofs.W7 16 3 else []
end Go.Pl
namespace Go.Proofs
open Go Go.Sx Go.Pl
def F58:List Sh->Tree Sh
 |[t,s]=>match AZ t,AZ s with
  |some b,ay c=>.need (b==1) (.need (CQ c) (.leaf (.str (Ew c)))) |_,_=>.fail
 |_=>.fail
def Dp:Nat->Option (List Sh->Tree Sh)
 |170=>ay F92 |117=>ay F56 |122=>ay F58 |_=>aK
theorem a65(A:Prim)(W:Wd)(k i:Int):AP (C7 A W Dp Am) Bg 300 400 99 [.code []] (zZ 36 [.agg [.i .i64 k,.i .i64 i]] L0) [] []=aF (A.eq k (ah 1)) (aI aC (aI (CQ k) (aF (A.seq (Ew k) []) (aA (aO (aZ 7 329))) (aF (A.lt i (fF 999999999)) (aA (aO (aZ 7 329))) (aF (A.lt (ah 1000000000) i) (aA (aO (aZ 7 329))) (aA (aO (jB bI)))))))) (aI aC (aI (CQ k) (aF (A.seq (Ew k) []) (aA (aO (aZ 7 329))) (aF (A.lt i (fF 999999999)) (aA (aO (aZ 7 329))) (aF (A.lt (ah 1000000000) i) (aA (aO (aZ 7 329))) (aF (A.nt (A.eq k (ah 2))) (aF (A.nt (A.eq i (ah 0))) (aA (aO (aZ 7 329))) (aA (aO (jB bI)))) (aA (aO (jB bI))))))))):=by kernel_rfl
theorem a50(A:Prim)(W:Wd)(n a b:Nat)(g h l:Nat->List Sh)(x y:Int):AP (C7 A W Dp Am) Bg 300 400 96 [.code []] (zZ 11 [.agg [.sl 4 n g],.agg [.i .i64 x,.i .i64 y,.sl 1 a h,.sl 2 b l]] L0) [] []=aI (A.le (ah 0) (A.Az n)) (aI (A.room (A.toN (A.Az n)) 64) (aI (A.room (A.addN 0 n) 64) (aI (A.room (A.addN (A.addN 0 n) 1) 64) (aI (A.le (ah 0) (A.Az n)) (aI (A.room (A.toN (A.Az n)) 64) (aI (A.room (A.addN 0 n) 64) (aI (A.room (A.addN (A.addN 0 n) 1) 64) (Tree.must [aP (aG 4 n g) (aG 4 n g),aj x x,aj y y,aP (aG 1 a h) (aG 1 a h),aP (aG 2 b l) (aG 2 b l),aP (aG 4 n g) (aG 4 n g),aj x x,aj y y,aP (aG 1 a h) (aG 1 a h),aP (aG 2 b l) (aG 2 b l),aj x x,aj y y,aP (aG 1 a h) (aG 1 a h),aP (aG 2 b l) (aG 2 b l),aJ (A.addN (A.addN 0 n) 1) (A.addN (A.addN 0 n) 1),Bh.Le (A.snoc (A.snoc (fun (x:Nat)=>[]) 0 g) (A.addN 0 n) (AQ [[aW .i64 x,aW .i64 y,aG 1 a h,aG 2 b l]])) (A.snoc (A.snoc (fun (x:Nat)=>[]) 0 g) (A.addN 0 n) (AQ [[aW .i64 x,aW .i64 y,aG 1 a h,aG 2 b l]]))] (aA (aO (bM [jm 211 4 (A.addN (A.addN 0 n) 1) (A.snoc (A.snoc (fun (x:Nat)=>[]) 0 g) (A.addN 0 n) (AQ [[aW .i64 x,aW .i64 y,aG 1 a h,aG 2 b l]]))]))))))))))):=by kernel_rfl
theorem a33(A:Prim)(W:Wd)(n:Nat)(d:Nat->Cj)(i:Int):AP (C7 A W Dp Am) Bg 300 400 119 [.code []] (zZ 12 [.agg [.sl 4 n (BX d)],.i .i64 i] L0) [] []=aF (A.lt i (ah 0)) (aA (aO (cO [bM [aW .i64 (ah 0),aW .i64 (ah 0),aG 0 0 fun (x:Nat)=>[],aG 0 0 fun (x:Nat)=>[]],eP ak]))) (aF (A.le (A.Az n) i) (aA (aO (cO [bM [aW .i64 (ah 0),aW .i64 (ah 0),aG 0 0 fun (x:Nat)=>[],aG 0 0 fun (x:Nat)=>[]],eP ak]))) (aI (A.inB i n) (aA (aO (cO [bM [aW .i64 (d (A.toN i)).kind,aW .i64 (d (A.toN i)).num,aG 1 (len (d (A.toN i)).q) (zW (nth (d (A.toN i)).q)),aG 2 (len (d (A.toN i)).ps) (zW (nth (d (A.toN i)).ps))],eP aC]))))):=by kernel_rfl
theorem a54(A:Prim)(W:Wd)(n a b:Nat)(g h l:Nat->List Sh)(i x y:Int):AP (C7 A W Dp Am) Bg 300 400 121 [.code []] (zZ 27 [.agg [.sl 4 n g],.i .i64 i,.agg [.i .i64 x,.i .i64 y,.sl 1 a h,.sl 2 b l]] L0) [] []=aF (A.lt i (ah 0)) (aA (aO (bM [aG 4 n g]))) (aF (A.le (A.Az n) i) (aA (aO (bM [aG 4 n g]))) (aI (A.le (ah 0) (A.Az n)) (aI (A.room (A.toN (A.Az n)) 64) (aI (A.room (A.addN 0 n) 64) (aI (A.inB i (A.addN 0 n)) (aA (aO (bM [jm 211 4 (A.addN 0 n) (A.upd (A.snoc (fun (x:Nat)=>[]) 0 g) (A.toN i) 0 [aW .i64 x,aW .i64 y,aG 1 a h,aG 2 b l])])))))))):=by kernel_rfl
theorem a64(A:Prim)(W:Wd)(n:Nat)(g:Nat->List Sh):AP (C7 A W Dp Am) Bg 300 400 118 [.code []] (zZ 10 [.agg [.sl 4 n g]] L0) [] []=aI (A.le (ah 0) (A.Az n)) (aI (A.room (A.toN (A.Az n)) 64) (aI (A.room (A.addN 0 n) 64) (aA (aO (jm 211 4 (A.addN 0 n) (A.snoc (fun (x:Nat)=>[]) 0 g)))))):=by kernel_rfl
theorem a59(A:Prim)(W:Wd)(x:Int):AP (C7 A W Dp Am) Bg 300 400 145 [.code []] (zZ 5 [.i .i64 x] L0) [] []=aI (CQ x) (aA (aO (dn (AU x)))):=by kernel_rfl
theorem a60(A:Prim)(W:Wd)(n:Nat)(g:Nat->List Sh):AP (C7 A W Dp Am) Bg 300 400 146 [.code []] (zZ 5 [.sl 1 n g] L0) [] []=aI (okB (List UInt8) n g) (aI (Bo n 16) (aI (Ik (Dj (lst (List UInt8) n g) [32])) (aA (aO (dn (Dj (lst (List UInt8) n g) [32])))))):=by kernel_rfl
theorem a66(A:Prim)(W:Wd)(x:Int):AP (C7 A W Dp Am) Bg 300 400 102 [.code []] (zZ 17 [.i .i64 x] L0) [] []=aF (A.eq x (ah 1)) (aA (aO (aW .i64 (ah 1)))) (aF (A.eq x (ah 2)) (aA (aO (aW .i64 (ah 1)))) (aF (A.eq x (ah 3)) (aA (aO (aW .i64 (ah 2)))) (aF (A.eq x (ah 4)) (aA (aO (aW .i64 (ah 2)))) (aF (A.eq x (ah 5)) (aA (aO (aW .i64 (ah 3)))) (aF (A.eq x (ah 6)) (aA (aO (aW .i64 (ah 3)))) (aF (A.eq x (ah 7)) (aA (aO (aW .i64 (ah 4)))) (aF (A.eq x (ah 8)) (aA (aO (aW .i64 (ah 4)))) (aF (A.eq x (ah 9)) (aA (aO (aW .i64 (ah 4)))) (aA (aO (aW .i64 (ah 0)))))))))))):=by kernel_rfl
theorem a67(A:Prim)(W:Wd)(x:Int):AP (C7 A W Dp Am) Bg 300 400 151 [.code []] (zZ 13 [.i .i64 x] L0) [] []=aF (A.eq x (ah 7)) (aA (aO (eP aC))) (aF (A.eq x (ah 8)) (aA (aO (eP aC))) (aA (aO (eP (A.eq x (ah 9)))))):=by kernel_rfl
theorem a68(A:Prim)(W:Wd)(x:Int):AP (C7 A W Dp Am) Bg 300 400 152 [.code []] (zZ 17 [.i .i64 x] L0) [] []=aF (A.eq x (ah 2)) (aA (aO (eP aC))) (aF (A.eq x (ah 3)) (aA (aO (eP aC))) (aF (A.eq x (ah 5)) (aA (aO (eP aC))) (aA (aO (eP (A.eq x (ah 7))))))):=by kernel_rfl
theorem a69(A:Prim)(W:Wd)(k x y:Int):AP (C7 A W Dp Am) Bg 300 400 153 [.code []] (zZ 27 [.i .i64 k,.i .i64 x,.i .i64 y] L0) [] []=aF (A.eq k (ah 2)) (aF (A.lt x (ah 0)) (aA (aO (eP aC))) (aF (A.lt (ah 1000) x) (aA (aO (eP aC))) (aF (A.lt y (fF 999999999999999)) (aA (aO (eP aC))) (aA (aO (eP (A.lt (ah 1000000000000000) y))))))) (aF (A.lt x (ah 0)) (aA (aO (eP aC))) (aF (A.lt (ah 1000) x) (aA (aO (eP aC))) (aF (A.lt y (fF 999999999)) (aA (aO (eP aC))) (aA (aO (eP (A.lt (ah 1000000000) y))))))):=by kernel_rfl
theorem w58(A:Prim)(W:Wd)(c:Int):AP (C7 A W noSpec Am) Bg 300 400 122 [.code []] (zZ 16 [.v (.int .i64 1),.i .i64 c] L0) [] []=aF (A.lt (A.sub .i64 (A.max c (ah 0)) (ah 1)) (ah 0)) (aA (aO (dn []))) (aF (A.le (ah 4) (A.sub .i64 (A.max c (ah 0)) (ah 1))) (aA (aO (dn []))) (aI (A.inB (A.sub .i64 (A.max c (ah 0)) (ah 1)) 4) (aF (A.eq (A.sub .i64 (A.max c (ah 0)) (ah 1)) (ah 0)) (aA (aO (dn (W 16 0)))) (aF (A.eq (A.sub .i64 (A.max c (ah 0)) (ah 1)) (ah 1)) (aA (aO (dn (W 16 1)))) (aF (A.eq (A.sub .i64 (A.max c (ah 0)) (ah 1)) (ah 2)) (aA (aO (dn (W 16 2)))) (aF (A.eq (A.sub .i64 (A.max c (ah 0)) (ah 1)) (ah 3)) (aA (aO (dn (W 16 3)))) dG)))))):=by kernel_rfl
end Go.Proofs
namespace Go.Pl
open Go Go.Sx
theorem le0(n:Nat):zV.le (ah 0) (zV.Az n)=aC:=by simp[Dw,Ar]
theorem aa6(n:Nat):zV.toN (zV.Az n)=n:=rfl
theorem Qa(n:Nat):zV.addN 0 n=n:=gJ n
theorem aa7(n m:Nat):zV.addN n m=n+m:=rfl
theorem Qb(h g:Nat->List Sh):zV.snoc h 0 g=g:=by
 funext j;rw[Ed,if_neg (by omega),Nat.sub_zero]
theorem KJ{n m b:Nat}(h:Bo n b=aC)(hm:m<=n):Bo m b=aC:=by
 have:=of_decide_eq_true (show decide (n*b<=140737488355328/\n<=maxLen)=aC from h);have h2:m*b<=n*b:=Nat.mul_le_mul_right b hm;exact decide_eq_true (show m*b<=140737488355328/\m<=maxLen from ⟨by omega,by omega⟩)
theorem BH{φ:Sh->Prop}{s s':Sh}(hw:Wk s s')(h:φ s'):up φ s:=⟨s',hw,h⟩
def FY(n:Nat)(g:Nat->List Sh)(r:List Sh):Nat->List Sh:=fun j=>if j<n then g j else r
theorem adq{n:Nat}{g:Nat->List Sh}{r:List Sh}:∀j,j<n+1->zV.snoc g n (AQ [r]) j=FY n g r j:=fun j hj=>by
 rw[Ed];unfold FY;split
 ·rfl
 ·have:j=n:=by omega
  subst this;rw[Nat.sub_self];rfl
def Jz(n:Nat)(i:Int):Bool:=decide (0<=i/\i<n)
def RH(n:Nat)(g:Nat->List Sh)(i:Int)(r:List Sh):Nat->List Sh:=fun j=>if Jz n i=aC/\j=i.toNat then r else g j
noncomputable def stB(n:Nat)(g:Nat->List Sh):Bool:=@decide (∃d:Nat->Cj,∀j,j<n->g j=CY (d j)) (bD _)
noncomputable def Ee(n:Nat)(g:Nat->List Sh):Nat->Cj:=@dite _ (∃d:Nat->Cj,∀j,j<n->g j=CY (d j)) (bD _) (fun h=>h.choose) fun _ _=>⟨0,0,[],[]⟩
theorem Qc{n:Nat}{g:Nat->List Sh}(h:stB n g=aC):∀j,j<n->g j=BX (Ee n g) j:=by
 unfold stB at h;have h:=@of_decide_eq_true _ (bD _) h;unfold Ee;rw[dif_pos h];exact h.choose_spec
theorem aa8(n:Nat)(d:Nat->Cj):stB n (BX d)=aC:=by unfold stB;exact @decide_eq_true _ (bD _) ⟨d,fun _ _=>rfl⟩
theorem akc{n:Nat}{g:Nat->List Sh}{d:Nat->Cj}(h:∀j,j<n->g j=CY (d j)):stB n g=aC:=by unfold stB;exact @decide_eq_true _ (bD _) ⟨d,h⟩
theorem adr{α:Type}[Row α]{l m:List α}{st:Nat}(h:aG st (len l) (zW (nth l))=aG st (len m) (zW (nth m))):l=m:=by
 simp only[Sh.sl.injEq,true_and] at h;obtain ⟨h1,h2⟩:=h;rw[<-KI l,<-KI m];have h1:l.length=m.length:=h1;rw[h1,h2]
theorem Tj{s t:Cj}(h:CY s=CY t):s=t:=by
 obtain ⟨a,b,c,d⟩:=s;obtain ⟨a',b',c',d'⟩:=t;simp only[CY,qj,Sh.i.injEq,true_and,and_true] at h;obtain ⟨rfl,rfl,h3,h4⟩:=h;obtain rfl:=adr h3;obtain rfl:=adr h4;rfl
theorem anH{n:Nat}{d:Nat->Cj}:∀j,j<n->Ee n (BX d) j=d j:=fun j hj=>Tj (Qc (aa8 n d) j hj).symm
theorem akd{n:Nat}{g:Nat->List Sh}{d:Nat->Cj}(h:∀j,j<n->g j=CY (d j)):∀j,j<n->Ee n g j=d j:=fun j hj=>Tj ((Qc (akc h) j hj).symm.trans (h j hj))
def Nc:Cj:=⟨0,0,[],[]⟩
def atT(n:Nat)(d:Nat->Cj)(i:Int):Cj:=bif Jz n i then d i.toNat else Nc
def EM(k i:Int):Bool:=!(decide (1<=k)&&decide (k<=4))||decide (i < -1000000000)||decide (1000000000<i)||(!(decide (k=1)||decide (k=2)) && !decide (i=0))
def Lm(op:Int):Int:=if op=1\/op=2 then 1 else if op=3\/op=4 then 2 else if op=5\/op=6 then 3 else if op=7\/op=8\/op=9 then 4 else 0
def keyed(op:Int):Bool:=decide (op=7)||decide (op=8)||decide (op=9)
def valued(op:Int):Bool:=decide (op=2)||decide (op=3)||decide (op=5)||decide (op=7)
def IK(k x y:Int):Bool:=decide (x<0)||decide (1000<x)||decide (y < -(if k=2 then 1000000000000000 else 1000000000))||decide ((if k=2 then 1000000000000000 else 1000000000)<y)
def DJ(st:Nat):Sh->Option (Nat×(Nat->List Sh))
 | .sl st' n g=>bif fB st' st then ay (n,g) else bif fB n 0 then ay (0,fun _=>[]) else aK |_=>aK
theorem BD{H:Mem}{st n:Nat}{s:Sh}{g:Nat->List Sh}{v:Value}(hs:DJ st s=ay (n,g))(h:Rep H s v):Rep H (.sl st n g) v:=by
 cases s<;>simp only[DJ] at hs<;>try cases hs
 rename_i st' n' g';cases h1:fB st' st<;>simp only[h1,cond_true,cond_false] at hs
 ·cases h2:fB n' 0<;>simp only[h2,cond_true,cond_false] at hs
  ·cases hs
  ·cases hs
   exact P9 h (.inl ⟨fG h2,rfl⟩)
 ·cases hs
  have:=fG h1;subst this;exact h
theorem Md{H:Mem}{s s':Sh}{v:Value}(hv:Rep H (.agg [s]) v)(h0:∀u,Rep H s u->Rep H s' u):Rep H (.agg [s']) v:=by
 cases hv with
 |agg _ vs h2 h3=>
  refine .agg _ vs h2 fun j s v' e1 e2=>?_
  match j,e1 with
  |0,e1=>simp at e1;subst e1;exact h0 _ (h3 0 _ v' rfl e2) |j+1,e1=>simp at e1
theorem XR{H:Mem}{s2 s3 s2' s3':Sh}{v:Value}(hv:Rep H (.agg [s2,s3]) v)(h0:∀u,Rep H s2 u->Rep H s2' u)(h1:∀u,Rep H s3 u->Rep H s3' u):Rep H (.agg [s2',s3']) v:=by
 cases hv with
 |agg _ vs h2 h3=>
  refine .agg _ vs h2 fun j s v' e1 e2=>?_
  match j,e1 with
  |0,e1=>simp at e1;subst e1;exact h0 _ (h3 0 _ v' rfl e2) |1,e1=>simp at e1;subst e1;exact h1 _ (h3 1 _ v' rfl e2) |j+2,e1=>simp at e1
theorem Hw{H:Mem}{x y:Sh}{s2 s3 s2' s3':Sh}{v:Value}(hv:Rep H (.agg [x,y,s2,s3]) v)(h0:∀u,Rep H s2 u->Rep H s2' u)(h1:∀u,Rep H s3 u->Rep H s3' u):Rep H (.agg [x,y,s2',s3']) v:=by
 cases hv with
 |agg _ vs h2 h3=>
  refine .agg _ vs h2 fun j s v' e1 e2=>?_
  match j,e1 with
  |0,e1=>simp at e1;subst e1;exact h3 0 _ v' rfl e2 |1,e1=>simp at e1;subst e1;exact h3 1 _ v' rfl e2 |2,e1=>simp at e1;subst e1;exact h0 _ (h3 2 _ v' rfl e2) |3,e1=>simp at e1;subst e1;exact h1 _ (h3 3 _ v' rfl e2) |j+4,e1=>simp at e1
theorem ads(g:Nat->List Sh)(i off:Nat)(l:List Sh)(j:Nat):zV.upd g i off l j=if j=i then (g j).take off++l++(g j).drop (off+l.length) else g j:=rfl
theorem Ei{H:Mem}{s:Sh}{c:Int}{v:Value}(h:AZ s=ay c)(r:Rep H s v):Rep H (.i .i64 c) v:=by
 unfold AZ at h;split at h
 ·cases h;exact r
 ·cases h;cases r;exact .i _ _
 ·cases h
theorem UQ{H:Mem}{s:Sh}{c:Int}{v:Value}(h:AZ s=ay c)(r:Rep H s v):Rep H (.v (.int .i64 c)) v:=by
 have:=Ei h r;cases this;exact .v _ rfl
end Go.Pl
namespace Go.Proofs
open Go Go.Sx Go.Pl
theorem O58:Aq aB (AY W7) 122 F58:=by
 refine KA (C:=C7 zV W7 noSpec Am) (C7.ok _ _) (fn:=dH) (by kernel_rfl) (by kernel_rfl) fun H w AX args φ hrep h=>?_
 have hn:dH.ntmps=16:=by kernel_rfl
 unfold F58 at h;split at h
 ·rename_i t s
  split at h
  ·rename_i b c ht hs
   obtain ⟨h1,h2,hφ⟩:=h;have h1:b=1:=by simpa using h1
   subst h1;have h2:=of_decide_eq_true h2;match args,hrep with
   |[v,u],⟨hv,hu,_⟩=>
    refine ⟨[.v (.int .i64 1),.i .i64 c],⟨UQ ht hv,Ei hs hu,trivial⟩,L0,?_⟩;refine G9 (C7.ok _ _) (MZ _) (hold:=Bg) (m:=300) (n:=400) (ts:=[]) ?_;rw[hn,w58 zV W7 c];obtain ⟨m,e,hm⟩:∃m:Int,zV.sub .i64 (zV.max c (ah 0)) (ah 1)=m/\((c<=0/\m=-1)\/(1<=c/\m=c - 1)):=by
     refine ⟨_,rfl,?_⟩;rw[L9,Mc];show (_/\aT.wrap ((if (0:Int)>c then 0 else c) - 1)=_)\/(_/\aT.wrap ((if (0:Int)>c then 0 else c) - 1)=_);rw[BL (by split<;>omega) (by split<;>omega)]
     split<;>omega
    rw[e];have key (X:List UInt8) (hX:Ew c=X):φ (.str X):=hX ▸ hφ;have q0:ah 0=0:=rfl;have q1:ah 1=1:=rfl;have q2:ah 2=2:=rfl;have q3:ah 3=3:=rfl;have q4:ah 4=4:=rfl;simp only[Aa,Dw,Ap,Bj,q0,q1,q2,q3,q4];refine ⟨fun h=>key _ ?_,fun h=>⟨fun h2=>key _ ?_,fun h2=>⟨?_,fun h3=>key _ ?_,fun h3=>⟨fun h4=>key _ ?_,fun h4=>⟨fun h5=>key _ ?_,fun h5=>⟨fun h6=>key _ ?_,fun h6=>?_⟩⟩⟩⟩⟩⟩;all_goals simp only[decide_eq_true_eq,decide_eq_false_iff_not,beq_iff_eq,beq_eq_false_iff_ne,ne_eq] at *
    all_goals (try unfold Ew)
    all_goals first
     |omega
     |((repeat' split)<;>first|rfl|(exfalso;omega))
     |(show (decide _=aC);exact decide_eq_true (by omega))
     |(exfalso;omega)
  ·exact h.elim
 ·exact h.elim
theorem OAs:∀g F,Dp g=ay F->Aq aB (AY W7) g F:=fun g F h=>by
 unfold Dp at h;split at h
 ·cases h;exact O92
 ·cases h;exact O56
 ·cases h;exact O58
 ·cases h
theorem Lp(stop:Nat->List Nat->Bool):Bz aB (C7 zV W7 Dp stop):=C7.UK OAs fun g h=>by
 unfold Dp at h;split at h;all_goals first|(cases h;done) |kernel_rfl
def F14:List Sh->Tree Sh
 |[.sl 1 n g]=>.need (Bo n 8) (.leaf (.agg [.os 3 1 n g])) |_=>.fail
def F50:List Sh->Tree Sh
 |[.agg [s0],.agg [.i .i64 x,.i .i64 y,s2,s3]]=>match DJ 4 s0,DJ 1 s2,DJ 2 s3 with
  |some (n,g),ay (a,h),ay (b,l)=>.need (Bo (n+1) 64) (.leaf (.agg [.sl 4 (n+1) (FY n g [.i .i64 x,.i .i64 y,.sl 1 a h,.sl 2 b l])])) |_,_,_=>.fail
 |_=>.fail
theorem O50:Aq aB (AY W7) 96 F50:=by
 refine DT (C:=C7 zV W7 Dp Am) (C7.ok _ _) (Lp _) (m:=300) (n:=400) (L:=L0) (fn:=wH) (by kernel_rfl) (by kernel_rfl) fun H w AX args φ hrep h=>?_
 have hn:wH.ntmps=11:=by kernel_rfl
 unfold F50 at h;split at h
 ·rename_i s0 x y s2 s3
  split at h
  ·rename_i n g a hh b l hs0 hs2 hs3
   obtain ⟨h1,hφ⟩:=h;match args,hrep with
   |[v,u1],⟨hv,r1,_⟩=>
    refine ⟨[.agg [.sl 4 n g],.agg [.i .i64 x,.i .i64 y,.sl 1 a hh,.sl 2 b l]],⟨Md hv fun u hu=>BD hs0 hu,Hw r1 (fun u hu=>BD hs2 hu) (fun u hu=>BD hs3 hu),trivial⟩,?_⟩;have h0:=KJ h1 (vN n);rw[hn,a50 zV W7 n a b g hh l x y,Qa,Qb,aa6,aa7];refine ⟨le0 n,h0,h0,h1,le0 n,h0,h0,h1,?_,BH (s':=.agg [.sl 4 (n+1) (FY n g [.i .i64 x,.i .i64 y,.sl 1 a hh,.sl 2 b l])]) ⟨.inr ⟨rfl,rfl,adq⟩,trivial⟩ hφ⟩;repeat' (first|exact trivial|exact rfl|refine And.intro ?_ ?_)
  ·exact h.elim
 ·exact h.elim
theorem ake{n:Nat}{i:Int}(h:zV.lt i (ah 0)=aC):Jz n i=ak:=by simp[Aa] at h;simp[Jz];omega
theorem akf{n:Nat}{i:Int}(h:zV.le (zV.Az n) i=aC):Jz n i=ak:=by simp[Dw,Ar] at h;simp[Jz];omega
theorem aeK{n:Nat}{i:Int}(h:zV.lt i (ah 0)=ak)(h3:zV.le (zV.Az n) i=ak):Jz n i=aC:=by
 simp[Aa] at h;simp[Dw,Ar] at h3;simp[Jz];omega
noncomputable def F33:List Sh->Tree Sh
 |[.agg [s0],t]=>match DJ 4 s0,AZ t with
  |some (n,g),ay i=>.need (stB n g) (.leaf (.Aj [.agg (CY (atT n (Ee n g) i)),.b (Jz n i)])) |_,_=>.fail
 |_=>.fail
theorem O33:Aq aB (AY W7) 119 F33:=by
 refine DT (C:=C7 zV W7 Dp Am) (C7.ok _ _) (Lp _) (m:=300) (n:=400) (L:=L0) (fn:=uM) (by kernel_rfl) (by kernel_rfl) fun H w AX args φ hrep h=>?_
 have hn:uM.ntmps=12:=by kernel_rfl
 unfold F33 at h;split at h
 ·rename_i s0 t
  split at h
  ·rename_i n g i hs ht
   obtain ⟨h1,hφ⟩:=h;match args,hrep with
   |[v,u1],⟨hv,r1,_⟩=>
    refine ⟨[.agg [.sl 4 n (BX (Ee n g))],.i .i64 i],⟨Md hv fun u hu=>Ep (BD hs hu) (Qc h1),Ei ht r1,trivial⟩,?_⟩;generalize Ee n g=d at *;have out (hi:Jz n i=ak):up φ (.Aj [.agg [.i .i64 (ah 0),.i .i64 (ah 0),.sl 0 0 fun _=>[],.sl 0 0 fun _=>[]],.b ak]):=
     BH (s':=.Aj [.agg (CY (atT n d i)),.b (Jz n i)]) ⟨by simp[atT,hi,CY,Nc,Wk,Nu,len],by simp[hi,Wk],trivial⟩ hφ
    rw[hn,a33 zV W7 n d i];refine ⟨fun h=>out (ake h),fun h=>⟨fun h3=>out (akf h3),fun h3=>⟨aeK h h3,?_⟩⟩⟩;have hi:=aeK h h3;exact BH (s':=.Aj [.agg (CY (atT n d i)),.b (Jz n i)]) ⟨by simp[atT,hi,CY,Wk,Nu,CJ],by simp[hi,Wk],trivial⟩ hφ
  ·exact h.elim
 ·exact h.elim
noncomputable def F54:List Sh->Tree Sh
 |[.agg [s0],t,.agg [.i .i64 x,.i .i64 y,s2,s3]]=>match DJ 4 s0,AZ t,DJ 1 s2,DJ 2 s3 with
  |some (n,g),ay i,ay (a,h),ay (b,l)=>.need (Bo n 64) (.need (stB n g) (.leaf (.agg [.sl 4 n (RH n g i [.i .i64 x,.i .i64 y,.sl 1 a h,.sl 2 b l])]))) |_,_,_,_=>.fail
 |_=>.fail
theorem O54:Aq aB (AY W7) 121 F54:=by
 refine DT (C:=C7 zV W7 Dp Am) (C7.ok _ _) (Lp _) (m:=300) (n:=400) (L:=L0) (fn:=uN) (by kernel_rfl) (by kernel_rfl) fun H w AX args φ hrep h=>?_
 have hn:uN.ntmps=27:=by kernel_rfl
 unfold F54 at h;split at h
 ·rename_i s0 t x y s2 s3
  split at h
  ·rename_i n g i a hh b l hs0 ht hs2 hs3
   obtain ⟨h1,h2,hφ⟩:=h;match args,hrep with
   |[v,u1,u2],⟨hv,r1,r2,_⟩=>
    refine ⟨[.agg [.sl 4 n g],.i .i64 i,.agg [.i .i64 x,.i .i64 y,.sl 1 a hh,.sl 2 b l]],⟨Md hv fun u hu=>BD hs0 hu,Ei ht r1,Hw r2 (fun u hu=>BD hs2 hu) (fun u hu=>BD hs3 hu),trivial⟩,?_⟩;have same (hi:Jz n i=ak):up φ (.agg [.sl 4 n g]):=BH (s':=.agg [.sl 4 n (RH n g i [.i .i64 x,.i .i64 y,.sl 1 a hh,.sl 2 b l])]) ⟨.inr ⟨rfl,rfl,fun j hj=>by simp[RH,hi]⟩,trivial⟩ hφ;rw[hn,a54 zV W7 n a b g hh l i x y,Qa,Qb,aa6];refine ⟨fun h=>same (ake h),fun h=>⟨fun h3=>same (akf h3),fun h3=>⟨le0 n,h1,h1,aeK h h3,BH (s':=.agg [.sl 4 n (RH n g i [.i .i64 x,.i .i64 y,.sl 1 a hh,.sl 2 b l])]) ⟨.inr ⟨rfl,rfl,fun j hj=>?_⟩,trivial⟩ hφ⟩⟩⟩;have hi:=aeK h h3;simp only[RH,hi,true_and,ads,CJ];by_cases e:j=i.toNat
    ·have hl:(g j).length=4:=by rw[Qc h2 j hj];rfl
     rw[if_pos e,if_pos e];simp only[List.take_zero,jG,gJ];rw[List.drop_eq_nil_of_le (by rw[hl];exact dh _)];rfl
    ·simp[e]
  ·exact h.elim
 ·exact h.elim
def F65:List Sh->Tree Sh
 |[.agg [.i .i64 k,.i .i64 i]]=>.need (CQ k) (.node (EM k i) (.leaf (.er 7 329)) (.leaf (.v .nilIface))) |_=>.fail
theorem aiG{k:Int}:zV.seq (Ew k) []=!(decide (1<=k)&&decide (k<=4)):=by
 by_cases h1:k=1
 ·subst h1;rfl
 by_cases h2:k=2
 ·subst h2;rfl
 by_cases h3:k=3
 ·subst h3;rfl
 by_cases h4:k=4
 ·subst h4;rfl
 have:Ew k=[]:=by simp[Ew,h1,h2,h3,h4]
 rw[this,XQ];by_cases h5:1<=k
 ·have:¬k<=4:=by omega
  simp[this]
 ·simp[h5]
theorem O65:Aq aB (AY W7) 99 F65:=by
 refine KA (C:=C7 zV W7 Dp Am) (C7.ok _ _) (fn:=kH) (by kernel_rfl) (by kernel_rfl) fun H w AX args φ hrep h=>?_
 have hn:kH.ntmps=36:=by kernel_rfl
 unfold F65 at h;split at h
 ·rename_i k i
  obtain ⟨h1,hb,hg⟩:=h;refine ⟨_,hrep,L0,G9 (C7.ok _ _) (Lp _) (hold:=Bg) (m:=300) (n:=400) (ts:=[]) ?_⟩;rw[hn,a65 zV W7 k i,aiG];have q0:ah 0=0:=rfl;have q1:ah 1=1:=rfl;have q2:ah 2=2:=rfl;have q3:ah 1000000000=1000000000:=rfl;have q4:fF 999999999=-1000000000:=rfl;simp only[Aa,Ap,BP,q0,q1,q2,q3,q4];have bad (h:EM k i=aC):φ (.er 7 329):=hb h;have good (h:EM k i=ak):φ (.v .nilIface):=hg h;refine ⟨fun e=>⟨rfl,h1,fun e1=>bad ?_,fun e1=>⟨fun e2=>bad ?_,fun e2=>⟨fun e3=>bad ?_,fun e3=>good ?_⟩⟩⟩,fun e=>⟨rfl,h1,fun e1=>bad ?_,fun e1=>⟨fun e2=>bad ?_,fun e2=>⟨fun e3=>bad ?_,fun e3=>⟨fun e4=>⟨fun e5=>bad ?_,fun e5=>good ?_⟩,fun e4=>good ?_⟩⟩⟩⟩⟩;all_goals (simp at *;simp[EM];omega)
 ·exact h.elim
end Go.Proofs
namespace Go.Pl
open Go Go.Sx
def Gs(n:Nat)(l:List (Nat×SV)):List SV:=l.foldl (fun t p=>t.set p.1 p.2) (dR n .any)
end Go.Pl
namespace Go.Proofs
open Go Go.Sx Go.Pl
def F60:List Sh->Tree Sh
 |[.sl 1 n g]=>.need (okB (List UInt8) n g) (.need (Bo n 16) (.need (Ik (Dj (lst (List UInt8) n g) [32])) (.leaf (.str (Dj (lst (List UInt8) n g) [32]))))) |_=>.fail
def Ic:Nat->Option (List Sh->Tree Sh)
 |122=>ay F58 |145=>ay F92 |146=>ay F60 |99=>ay F65 |_=>aK
def Tm:Nat->Bool:=fun g=>fB g 101
def adt(n:Nat)(o:Nat->Oj)(e:Nat->List Sh)(i:Int):Core:={tm:=Gs 78 [(1,.ptr 0 0),(21,.sh (.sl 2 n (zW o))),(22,.sym .i64 (n:Int)),(23,.sym .i64 i)],hp:=[(0,.box [.sh (.sl 2 n (zW o)),.sh (.sl 8 0 e)] 25)],nx:=1,lim:=L0,tc:=[]}
def aiH(n:Nat)(o:Nat->Oj)(e:Nat->List Sh):Core:={tm:=Gs 78 [(38,.sym .i64 0),(39,.sym .i64 0)],hp:=[],nx:=0,lim:=L0,tc:=[]}
def aiI:List It:=[bF [0,1,0,1,1,1],dA 2,bF [1,1,1,1]]
def anI:List It:=bF [0,0,1,0,1,1,1]::aiI
def XT(a:Nat)(o:Nat->Int)(i:Int)(k:Nat)(gg:Nat->List Sh):Core:={tm:=Gs 61 [(3,.gs 0),(26,.sh (.sl 1 a (zW o))),(27,.sym .i64 (a:Int)),(28,.sym .i64 i)],hp:=[(0,.own 9 1 k gg)],nx:=1,lim:=L0,tc:=[]}
def XU(b:Nat)(p:Nat->Pr)(i:Int)(k:Nat)(gg:Nat->List Sh):Core:={tm:=Gs 61 [(3,.gs 0),(41,.sh (.sl 2 b (zW p))),(42,.sym .i64 (b:Int)),(43,.sym .i64 i)],hp:=[(0,.own 9 1 k gg)],nx:=1,lim:=L0,tc:=[]}
def XV:List It:=[bF [0,1,0,1,1,1,0,1,0,1,1],dA 1,dA 0,bF [1,1,1]]
def XW:List It:=[bF [0,1,0,1,1,1,1,1,0,1,0,1,1],dA 3,dA 0,bF [1,1,1]]
def anJ:List It:=bF [0,0,1,0,1,1,1,0,1,0,1,1]::XV
def anK:List It:=bF [0,0,1,0,1,1,1,1,1,0,1,0,1,1]::XW
theorem a41(A:Prim)(W:Wd)(k i:Int):AP (C7 A W Ic Am) Bg 300 400 95 [.code []] (zZ 16 [.agg [.i .i64 k,.i .i64 i]] L0) [] []=aI (CQ k) (aF (EM k i) (aA (aO (cO [bM [aW .i64 (ah 0),aW .i64 (ah 0),aG 0 0 fun (x:Nat)=>[],aG 0 0 fun (x:Nat)=>[]],aZ 7 329]))) (aA (aO (cO [bM [aW .i64 k,aW .i64 i,aG 0 0 fun (x:Nat)=>[],aG 0 0 fun (x:Nat)=>[]],jB bI])))):=by kernel_rfl
theorem a49(A:Prim)(W:Wd)(n:Nat)(o:Nat->Oj)(e:Nat->List Sh)(i':Int):AP (C7 A W Ic Am) Tm 300 400 77 [.code []] (zZ 78 [.agg [.sl 2 n (zW o),.sl 8 0 e]] L0) [] [⟨77,IJ,adt n o e i',[]⟩]=aF (A.lt (ah 8) (A.Az n)) (aA (aO (aZ 6 329))) (aF (A.lt (ah 400) (A.Az 0)) (aA (aO (aZ 6 329))) (aA (bJ 0 [aP (aG 2 n (zW o)) (aG 2 n (zW o)),aj (A.Az n) (ah n),aj (ah 0) i',aP (aG 2 n (zW o)) (aG 2 n (zW o)),aP (aG 8 0 e) (aG 8 0 e)]))):=by kernel_rfl
theorem b49(A:Prim)(W:Wd)(n:Nat)(o:Nat->Oj)(e:Nat->List Sh)(i i':Int):AP (C7 A W Ic Am) Tm 300 400 77 WB (adt n o e i) [] [⟨77,IJ,adt n o e i',[]⟩,⟨77,aiI,aiH n o e,[]⟩]=aF (A.lt i (ah n)) (aI (A.inB i n) (aI (CQ (o (A.toN i)).kind) (aF (EM (o (A.toN i)).kind (o (A.toN i)).init) (aA (aO (Sh.CG 109 (Sh.pt [aW .i64 i,aZ 7 329])))) (aA (bJ 0 [aP (aG 2 n (zW o)) (aG 2 n (zW o)),aj (ah n) (ah n),aj (A.add .i64 i (ah 1)) i',aP (aG 2 n (zW o)) (aG 2 n (zW o)),aP (aG 8 0 e) (aG 8 0 e)]))))) (aA (bJ 1 [aj (A.Az 0) (ah 0),aj (ah 0) (ah 0)])):=by kernel_rfl
theorem c49(A:Prim)(W:Wd)(n:Nat)(o:Nat->Oj)(e:Nat->List Sh):AP (C7 A W Ic Am) Tm 300 400 77 anI (aiH n o e) [] []=aF (A.lt (ah 0) (ah 0)) dG (aA (aO (jB bI))):=by kernel_rfl
theorem a35(A:Prim)(W:Wd)(x y:Int)(a b:Nat)(o:Nat->Int)(p:Nat->Pr)(i':Int)(k':Nat)(H7:Nat->List Sh):AP (C7 A W Ic Am) Bg 300 400 116 [.code []] (zZ 61 [.agg [.i .i64 x,.i .i64 y,.sl 1 a (zW o),.sl 2 b (zW p)]] L0) [] [⟨116,XV,XT a o i' k' H7,[]⟩,⟨116,XW,XU b p i' k' H7,[]⟩]=aI aC (aI (CQ x) (aF (A.eq x (ah 1)) (aI (CQ y) (aI (okB (List UInt8) 2 (AQ (chunks 1 (1+1) [dn (Ew x),dn (AU y)]))) (aI (Bo 2 16) (aI (Ik (Dj (lst (List UInt8) 2 (AQ (chunks 1 (1+1) [dn (Ew x),dn (AU y)]))) [32])) (aA (aO (dn (Dj (lst (List UInt8) 2 (AQ (chunks 1 (1+1) [dn (Ew x),dn (AU y)]))) [32])))))))) (aF (A.eq x (ah 2)) (aI (CQ y) (aI (okB (List UInt8) 2 (AQ (chunks 1 (1+1) [dn (Ew x),dn (AU y)]))) (aI (Bo 2 16) (aI (Ik (Dj (lst (List UInt8) 2 (AQ (chunks 1 (1+1) [dn (Ew x),dn (AU y)]))) [32])) (aA (aO (dn (Dj (lst (List UInt8) 2 (AQ (chunks 1 (1+1) [dn (Ew x),dn (AU y)]))) [32])))))))) (aF (A.eq x (ah 3)) (aA (bJ 0 [aP (aG 1 a (zW o)) (aG 1 a (zW o)),aj (A.Az a) (ah a),aj (ah 0) i',aJ 1 k',aS 1 (AQ [[dn (Ew x)]]) H7])) (aF (A.eq x (ah 4)) (aA (bJ 1 [aP (aG 2 b (zW p)) (aG 2 b (zW p)),aj (A.Az b) (ah b),aj (ah 0) i',aJ 1 k',aS 1 (AQ [[dn (Ew x)]]) H7])) (aI (okB (List UInt8) 1 (AQ (chunks 1 1 [dn (Ew x)]))) (aI (Bo 1 16) (aI (Ik (Dj (lst (List UInt8) 1 (AQ (chunks 1 1 [dn (Ew x)]))) [32])) (aA (aO (dn (Dj (lst (List UInt8) 1 (AQ (chunks 1 1 [dn (Ew x)]))) [32])))))))))))):=by kernel_rfl
theorem avg(A:Prim)(W:Wd)(a:Nat)(o:Nat->Int)(i i':Int)(k k':Nat)(gg H7:Nat->List Sh):AP (C7 A W Ic Am) Bg 300 400 116 anJ (XT a o i k gg) [] [⟨116,XV,XT a o i' k' H7,[]⟩]=aF (A.lt i (ah a)) (aI (A.inB i a) (aI (CQ (o (A.toN i))) (aI (A.room (A.addN k 1) 16) (aA (bJ 0 [aP (aG 1 a (zW o)) (aG 1 a (zW o)),aj (ah a) (ah a),aj (A.add .i64 i (ah 1)) i',aJ (A.addN k 1) k',aS (A.addN k 1) (A.snoc gg k (AQ [[dn (AU (o (A.toN i)))]])) H7]))))) (aI (okB (List UInt8) k gg) (aI (Bo k 16) (aI (Ik (Dj (lst (List UInt8) k gg) [32])) (aA (aO (dn (Dj (lst (List UInt8) k gg) [32]))))))):=by kernel_rfl
theorem avh(A:Prim)(W:Wd)(b:Nat)(p:Nat->Pr)(i i':Int)(k k':Nat)(gg H7:Nat->List Sh):AP (C7 A W Ic Am) Bg 300 400 116 anK (XU b p i k gg) [] [⟨116,XW,XU b p i' k' H7,[]⟩]=aF (A.lt i (ah b)) (aI (A.inB i b) (aI (CQ (p (A.toN i)).key) (aI (A.ZU (A.addN (A.len (AU (p (A.toN i)).key)) (A.len [58])) 9223372036854775807) (aI (CQ (p (A.toN i)).val) (aI (A.ZU (A.addN (A.len (A.app (AU (p (A.toN i)).key) [58])) (A.len (AU (p (A.toN i)).val))) 9223372036854775807) (aI (A.room (A.addN k 1) 16) (aA (bJ 0 [aP (aG 2 b (zW p)) (aG 2 b (zW p)),aj (ah b) (ah b),aj (A.add .i64 i (ah 1)) i',aJ (A.addN k 1) k',aS (A.addN k 1) (A.snoc gg k (AQ [[dn (A.app (A.app (AU (p (A.toN i)).key) [58]) (AU (p (A.toN i)).val))]])) H7])))))))) (aI (okB (List UInt8) k gg) (aI (Bo k 16) (aI (Ik (Dj (lst (List UInt8) k gg) [32])) (aA (aO (dn (Dj (lst (List UInt8) k gg) [32]))))))):=by kernel_rfl
end Go.Proofs
