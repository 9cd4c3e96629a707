/- Own work. -/
import Derived.Test.YthehnhaoiijkhaaGreatDoorF06
import Derived.Test.YthehnhaoiijkhaaGreatDoorProg
import Derived.Shelf.Strings.Builder1
import Derived.Shelf.Strings.Builder2
import Derived.Shelf.Strings.OnBuilder
import Derived.Shelf.Strconv.Itoa0
import Derived.Shelf.Strconv.Itoa1
import Derived.Shelf.LaysM
import Derived.Shelf.Strconv.Itoa2
import Derived.Shelf.Strconv.Itoa3
import Derived.Ground.Names2Prog
import Derived.Lib.ItoaLen
open Int (ofNat)
open Array renaming getElem?_eq_some_iff->bK
open Bool renaming false->ay,true->aC,and_eq_true->aG
open Classical renaming propDecidable->aX
open Go.Instr renaming checkKey->iq
open Go.IntKind renaming i64->aU
open Go.Lib renaming TabIs->vH,pow10Tab->pW,joinTail->kK
open Go.Proofs.Lays renaming n156->xE
open Go.Proofs.LaysM renaming n171->wC
open Go.Proofs.Tryz renaming f77->iF,f95->vS,f96->vT,f99->jB,f116->mX,f119->tX,f121->tY,f122->dn,f145->tZ,f146->uh,prog->aA,func117->wM,func148->wO,func147->wP,func149->wQ,func170->wR,func172->wS,func171->wU,func201->wV,func209->wW,func217->wX,func214->wY,func212->wZ,func211->xg,func213->xk,func216->xq,func220->xu,func219->xw,func218->xA,func222->xB,func221->xC,underlying0->uo,isAgg0->yj,sizeOf0->xG,zeroValue0->uZ,underlying3->nV,isAgg3->yt,sizeOf3->xH,zeroValue3->vg,underlying4->uq,isAgg4->yu,sizeOf4->xI,zeroValue4->vC,underlying9->kM,isAgg9->yw,sizeOf9->xJ,zeroValue9->vF,underlying20->sN,isAgg20->xK,sizeOf20->wz,zeroValue20->uw,underlying275->rH,isAgg275->wB,sizeOf275->vU,zeroValue275->sO,underlying5->uy,isAgg5->yx,sizeOf5->xM,zeroValue5->vG
open Go.RowKit.Below renaming refl->yA
open Go.Shelf renaming Ren->um
open Go.Sx.AQ renaming sh->aP,int->aj,nat->aJ,get->aQ,ok->gY
open Go.Sx.DF renaming ret->aS,at_->bJ
open Go.Sx.It renaming code->bF,inBlock->bZ
open Go.Sx.Sh renaming i->aT,er->aW,v->iW,sl->aI,agg->bP,os->iK,zQ->bT,b->gG,str->bU
open Go.Sx.Tree renaming node->aF,need->aH,leaf->aB,fail->cO
open Go.Value renaming nilIface->bG
open Int renaming ofNat->ah,negSucc->dZ,toNat_natCast->fB
open List renaming nil_append->kW,mem_append->cZ,mem_map->fC,range->aY,ext_getElem->uj,replicate->dL,all_eq_true->dA,mem_range->dD,length_append->dP,length_cons->jf,take_succ_eq_append_getElem->lV,map_append->lI,take_length->uz
open List.cons renaming injEq->oU
open Nat renaming le_refl->bV,le_succ->uY,zero_add->iw,mul_le_mul_right->dG,sub_self->pF,beq->dQ,add_mul->oQ,one_mul->oH
open Option renaming some->ak,none->aK,isSome_iff_exists->eF
open Option.some renaming injEq->jL,inj->dw
namespace Go.Tb
open Go Go.Sx
abbrev L{α:Type}(k:Nat)(v:α):BT α:=.node .nil k v .nil
abbrev N{α:Type}(l:BT α)(k:Nat)(v:α)(r:BT α):BT α:=.node l k v r
abbrev z:SV:=.int .i64 0
abbrev tF:Jt:=⟨.fn,1,8,[.FM]⟩
abbrev tS(n:Nat):Jt:=⟨.slice n,1,24,[.zY]⟩
abbrev tP(n:Nat):Jt:=⟨.ptr n,1,8,[.Ei]⟩
end Go.Tb
namespace Go.Proofs
section
open Go Go.Sx Go.Tb
def Tryz.tys:BT Jt:=(N (N (N (N (N (N (N (N (L 1 tF) 2 ⟨.int .i64,1,8,[z]⟩ .nil) 3 ⟨.int .i64,1,8,[z]⟩ (L 4 ⟨.bool,1,1,[.bool ay]⟩)) 5 ⟨.int .u8,1,1,[.int .u8 0]⟩ (N (N (L 7 ⟨.struct [(0,1,ay),(1,1,ay),(2,1,ay),(3,1,ay)],4,24,[z,z,.bool ay,.int .u8 0]⟩) 9 ⟨.str,1,16,[.str []]⟩ .nil) 12 ⟨.int .u64,1,8,[.int .u64 0]⟩ (L 13 ⟨.struct [(0,1,ay),(1,1,ay)],2,24,[.str [],.int .u64 0]⟩))) 15 (tP 331) (N (N (N (L 16 (tP 334)) 17 (tP 341) .nil) 18 ⟨.struct [(0,1,ay)],1,8,[.Ei]⟩ (L 20 ⟨.iface,1,16,[.CS]⟩)) 21 ⟨.int .i32,1,4,[.int .i32 0]⟩ (N (L 22 (tS 140)) 23 (tS 71) (L 24 ⟨.struct [(0,1,ay),(1,1,ay)],2,48,[.zY,.zY]⟩)))) 25 ⟨.struct [(0,1,ay),(1,1,ay)],2,48,[.zY,.zY]⟩ (N (N (N (N (L 26 tF) 27 tF .nil) 28 (tS 115) (L 29 (tS 3))) 30 (tS 147) (N (N (L 31 ⟨.struct [(0,1,ay),(1,1,ay),(2,1,ay),(3,1,ay),(4,1,ay)],5,104,[z,.zY,.zY,.zY,.zY]⟩) 32 ⟨.struct [(0,1,ay),(1,1,ay),(2,1,ay),(3,1,ay),(4,1,ay)],5,104,[z,.zY,.zY,.zY,.zY]⟩ .nil) 33 ⟨.struct [(0,1,ay),(1,1,ay)],2,32,[z,.zY]⟩ (L 34 ⟨.struct [(0,1,ay),(1,1,ay)],2,32,[z,.zY]⟩))) 36 tF (N (N (N (L 38 tF) 39 ⟨.struct [(0,1,ay),(1,1,ay)],2,32,[z,.zY]⟩ .nil) 40 ⟨.struct [(0,1,ay),(1,1,ay)],2,32,[z,.zY]⟩ (L 41 (tP 3))) 42 (tS 55) (N (L 43 ⟨.struct [(0,1,ay),(1,1,ay),(2,1,ay)],3,40,[.bool ay,.zY,z]⟩) 44 ⟨.struct [(0,1,ay),(1,1,ay),(2,1,ay)],3,40,[.bool ay,.zY,z]⟩ (L 45 ⟨.iface,1,16,[.CS]⟩))))) 46 ⟨.iface,1,16,[.CS]⟩ (N (N (N (N (N (L 48 tF) 49 tF .nil) 51 tF (L 52 tF)) 53 tF (N (N (L 54 ⟨.struct [(0,1,ay),(1,1,ay)],2,16,[z,.bool ay]⟩) 55 ⟨.struct [(0,1,ay),(1,1,ay)],2,16,[z,.bool ay]⟩ .nil) 56 tF (L 57 tF))) 58 tF (N (N (N (L 60 tF) 61 tF .nil) 62 tF (L 64 tF)) 65 (tS 42) (N (L 66 ⟨.struct [(0,1,ay),(1,1,ay),(2,1,ay),(3,1,ay),(4,1,ay)],5,72,[.bool ay,.zY,.zY,z,z]⟩) 67 ⟨.struct [(0,1,ay),(1,1,ay),(2,1,ay),(3,1,ay),(4,1,ay)],5,72,[.bool ay,.zY,.zY,z,z]⟩ (L 69 tF)))) 70 ⟨.struct [(0,1,ay),(1,1,ay),(2,1,ay),(3,1,ay),(4,1,ay),(5,1,ay),(6,1,ay),(7,1,ay)],8,64,[z,z,z,z,z,z,z,z]⟩ (N (N (N (N (L 71 ⟨.struct [(0,1,ay),(1,1,ay),(2,1,ay),(3,1,ay),(4,1,ay),(5,1,ay),(6,1,ay),(7,1,ay)],8,64,[z,z,z,z,z,z,z,z]⟩) 72 tF .nil) 73 tF (L 74 tF)) 75 (tS 76) (N (L 76 ⟨.struct [(0,1,ay),(1,1,ay),(2,1,ay)],3,40,[.bool ay,.zY,z]⟩) 78 tF (L 79 tF))) 80 tF (N (N (N (L 82 tF) 83 tF .nil) 85 tF (L 87 tF)) 88 tF (N (L 89 tF) 91 tF (L 92 tF)))))) 93 (tP 102) (N (N (N (N (N (N (L 95 tF) 96 (tS 211) .nil) 97 ⟨.struct [(0,1,ay)],1,24,[.zY]⟩ (L 98 ⟨.struct [(0,1,ay)],1,24,[.zY]⟩)) 99 ⟨.struct [(0,1,aC)],1,24,[.zY]⟩ (N (N (L 100 ⟨.struct [(0,1,aC)],1,24,[.zY]⟩) 101 ⟨.struct [(0,1,ay),(1,1,ay),(2,1,ay),(3,1,aC)],4,80,[z,.zY,.zY,.zY]⟩ .nil) 102 ⟨.struct [(0,1,ay),(1,1,ay),(2,1,ay),(3,1,aC)],4,80,[z,.zY,.zY,.zY]⟩ (L 103 ⟨.struct [(0,1,ay),(1,1,aC)],2,32,[z,.zY]⟩))) 104 ⟨.struct [(0,1,ay),(1,1,aC)],2,32,[z,.zY]⟩ (N (N (N (L 105 (tS 108)) 106 tF .nil) 107 ⟨.struct [(0,2,aC),(2,2,aC)],4,48,[z,.bool ay,z,.zY]⟩ (L 108 ⟨.struct [(0,2,aC),(2,2,aC)],4,48,[z,.bool ay,z,.zY]⟩)) 109 (tP 111) (N (L 110 ⟨.struct [(0,1,ay),(1,1,ay)],2,24,[z,.CS]⟩) 111 ⟨.struct [(0,1,ay),(1,1,ay)],2,24,[z,.CS]⟩ (L 112 tF)))) 113 (tS 197) (N (N (N (N (L 114 ⟨.struct [(0,1,ay),(1,1,ay),(2,1,ay),(3,1,ay),(4,1,ay),(5,1,ay),(6,1,ay)],7,72,[z,z,z,z,z,z,.zY]⟩) 115 ⟨.struct [(0,1,ay),(1,1,ay),(2,1,ay),(3,1,ay),(4,1,ay),(5,1,ay),(6,1,ay)],7,72,[z,z,z,z,z,z,.zY]⟩ .nil) 116 (tP 181) (L 118 tF)) 119 tF (N (L 120 tF) 122 tF (L 123 tF))) 124 tF (N (N (N (L 125 tF) 126 tF .nil) 127 tF (L 128 tF)) 129 ⟨.struct [(0,3,aC),(3,1,ay)],4,56,[.bool ay,.zY,z,.CS]⟩ (N (L 130 ⟨.struct [(0,3,aC),(3,1,ay)],4,56,[.bool ay,.zY,z,.CS]⟩) 131 (tS 40) (L 133 tF))))) 134 (tS 4) (N (N (N (N (N (L 135 tF) 136 tF .nil) 137 tF (L 138 tF)) 139 ⟨.struct [(0,1,ay),(1,1,ay)],2,16,[z,z]⟩ (N (N (L 140 ⟨.struct [(0,1,ay),(1,1,ay)],2,16,[z,z]⟩) 141 tF .nil) 142 ⟨.struct [(0,1,ay),(1,1,ay),(2,1,ay),(3,1,ay)],4,80,[.zY,.zY,.zY,z]⟩ (L 143 ⟨.struct [(0,1,ay),(1,1,ay),(2,1,ay),(3,1,ay)],4,80,[.zY,.zY,.zY,z]⟩))) 144 tF (N (N (N (L 145 tF) 146 ⟨.struct [(0,1,ay),(1,1,ay),(2,1,ay),(3,1,ay)],4,64,[z,z,.zY,.zY]⟩ .nil) 147 ⟨.struct [(0,1,ay),(1,1,ay),(2,1,ay),(3,1,ay)],4,64,[z,z,.zY,.zY]⟩ (L 149 tF)) 150 tF (N (L 151 ⟨.int .u64,1,8,[.int .u64 0]⟩) 152 tF (L 154 (tP 204))))) 155 tF (N (N (N (N (L 156 ⟨.struct [(0,1,ay),(1,1,ay)],2,24,[z,.str []]⟩) 157 ⟨.struct [(0,1,ay),(1,1,ay)],2,24,[z,.str []]⟩ .nil) 158 (tS 104) (L 159 ⟨.struct [(0,1,ay),(1,1,ay)],2,32,[.zY,z]⟩)) 160 ⟨.struct [(0,1,ay),(1,1,ay)],2,32,[.zY,z]⟩ (N (L 162 tF) 163 tF (L 164 tF))) 165 tF (N (N (N (L 167 tF) 168 tF .nil) 169 ⟨.map 157 4,1,8,[.EU]⟩ (L 170 tF)) 171 tF (N (L 172 tF) 174 tF (L 175 tF))))))) 176 tF (N (N (N (N (N (N (N (L 177 tF) 178 (tS 182) .nil) 179 ⟨.map 3 182,1,8,[.EU]⟩ (L 180 ⟨.struct [(0,1,ay),(1,1,ay),(2,1,ay),(3,1,ay),(4,1,ay)],5,72,[.zY,z,.zY,.EU,.EU]⟩)) 181 ⟨.struct [(0,1,ay),(1,1,ay),(2,1,ay),(3,1,ay),(4,1,ay)],5,72,[.zY,z,.zY,.EU,.EU]⟩ (N (N (L 182 (tP 184)) 183 ⟨.struct [(0,7,aC),(7,1,ay)],8,80,[z,z,z,z,z,z,.zY,z]⟩ .nil) 184 ⟨.struct [(0,7,aC),(7,1,ay)],8,80,[z,z,z,z,z,z,.zY,z]⟩ (L 185 tF))) 186 tF (N (N (N (L 187 tF) 188 tF .nil) 189 tF (L 190 tF)) 191 tF (N (L 192 tF) 193 (tP 143) (L 194 tF)))) 195 tF (N (N (N (N (L 196 ⟨.struct [(0,1,ay),(1,1,ay),(2,1,ay),(3,1,ay),(4,1,ay),(5,1,ay),(6,1,ay),(7,1,ay)],8,64,[z,z,z,z,z,z,z,z]⟩) 197 ⟨.struct [(0,1,ay),(1,1,ay),(2,1,ay),(3,1,ay),(4,1,ay),(5,1,ay),(6,1,ay),(7,1,ay)],8,64,[z,z,z,z,z,z,z,z]⟩ .nil) 199 tF (L 200 tF)) 201 ⟨.map 157 3,1,8,[.EU]⟩ (N (L 202 (tS 157)) 203 ⟨.struct [(0,1,ay),(1,1,ay),(2,1,ay)],3,40,[z,.EU,.zY]⟩ (L 204 ⟨.struct [(0,1,ay),(1,1,ay),(2,1,ay)],3,40,[z,.EU,.zY]⟩))) 205 tF (N (N (N (L 206 tF) 207 (tP 160) .nil) 208 ⟨.struct [],0,0,[]⟩ (L 209 (tS 272))) 210 ⟨.struct [(0,1,ay),(1,1,ay),(2,1,ay),(3,1,ay)],4,64,[z,z,.zY,.zY]⟩ (N (L 211 ⟨.struct [(0,1,ay),(1,1,ay),(2,1,ay),(3,1,ay)],4,64,[z,z,.zY,.zY]⟩) 213 tF (L 214 tF))))) 216 tF (N (N (N (N (N (L 217 tF) 218 tF .nil) 219 tF (L 220 tF)) 222 tF (N (N (L 223 ⟨.struct [(0,1,ay),(1,1,ay)],2,32,[.zY,.FM]⟩) 224 ⟨.struct [(0,1,ay),(1,1,ay)],2,32,[.zY,.FM]⟩ .nil) 225 ⟨.map 3 224,1,8,[.EU]⟩ (L 226 tF))) 227 tF (N (N (N (L 228 tF) 229 tF .nil) 230 tF (L 231 tF)) 232 tF (N (L 234 tF) 236 (tS 9) (L 237 tF)))) 238 tF (N (N (N (N (L 239 tF) 240 tF .nil) 241 tF (L 243 tF)) 245 tF (N (L 246 tF) 247 tF (L 248 tF))) 249 ⟨.map 3 248,1,8,[.EU]⟩ (N (N (N (L 250 tF) 251 tF .nil) 252 ⟨.struct [(0,1,ay),(1,1,ay),(2,1,ay),(3,1,ay)],4,32,[.FM,z,z,z]⟩ (L 253 ⟨.struct [(0,1,ay),(1,1,ay),(2,1,ay),(3,1,ay)],4,32,[.FM,z,z,z]⟩)) 255 (tP 71) (N (L 256 tF) 257 (tP 197) (L 258 tF)))))) 259 tF (N (N (N (N (N (N (L 260 tF) 261 tF .nil) 262 tF (L 263 tF)) 264 tF (N (N (L 265 tF) 266 tF .nil) 267 tF (L 268 tF))) 269 tF (N (N (N (L 270 tF) 271 ⟨.struct [(0,1,ay),(1,1,ay)],2,16,[z,z]⟩ .nil) 272 ⟨.struct [(0,1,ay),(1,1,ay)],2,16,[z,z]⟩ (L 273 tF)) 274 (tP 277) (N (L 275 (tS 5)) 276 ⟨.struct [(0,1,ay),(1,1,ay)],2,32,[.Ei,.zY]⟩ (L 277 ⟨.struct [(0,1,ay),(1,1,ay)],2,32,[.Ei,.zY]⟩)))) 278 tF (N (N (N (N (L 279 tF) 280 tF .nil) 282 tF (L 283 tF)) 284 ⟨.map 3 283,1,8,[.EU]⟩ (N (L 285 tF) 286 tF (L 288 tF))) 289 (tS 253) (N (N (N (L 290 tF) 291 tF .nil) 292 tF (L 293 (tP 5))) 294 tF (N (L 295 tF) 297 tF (L 298 tF))))) 299 tF (N (N (N (N (N (L 300 ⟨.arr 4 9,4,64,[.str [],.str [],.str [],.str []]⟩) 301 ⟨.arr 7 9,7,112,[.str [],.str [],.str [],.str [],.str [],.str [],.str []]⟩ .nil) 302 ⟨.arr 9 9,9,144,[.str [],.str [],.str [],.str [],.str [],.str [],.str [],.str [],.str []]⟩ (L 303 ⟨.arr 3 9,3,48,[.str [],.str [],.str []]⟩)) 305 tF (N (N (L 306 tF) 307 tF .nil) 308 tF (L 309 tF))) 310 tF (N (N (N (L 311 (tS 209)) 312 tF .nil) 313 tF (L 314 ⟨.arr 24 5,24,24,[.int .u8 0,.int .u8 0,.int .u8 0,.int .u8 0,.int .u8 0,.int .u8 0,.int .u8 0,.int .u8 0,.int .u8 0,.int .u8 0,.int .u8 0,.int .u8 0,.int .u8 0,.int .u8 0,.int .u8 0,.int .u8 0,.int .u8 0,.int .u8 0,.int .u8 0,.int .u8 0,.int .u8 0,.int .u8 0,.int .u8 0,.int .u8 0]⟩)) 315 ⟨.int .u64,1,8,[.int .u64 0]⟩ (N (L 316 tF) 317 tF (L 319 tF)))) 320 tF (N (N (N (N (L 321 tF) 322 ⟨.arr 20 315,20,160,[.int .u64 0,.int .u64 0,.int .u64 0,.int .u64 0,.int .u64 0,.int .u64 0,.int .u64 0,.int .u64 0,.int .u64 0,.int .u64 0,.int .u64 0,.int .u64 0,.int .u64 0,.int .u64 0,.int .u64 0,.int .u64 0,.int .u64 0,.int .u64 0,.int .u64 0,.int .u64 0]⟩ .nil) 323 ⟨.int .u32,1,4,[.int .u32 0]⟩ (L 324 ⟨.arr 65 5,65,65,[.int .u8 0,.int .u8 0,.int .u8 0,.int .u8 0,.int .u8 0,.int .u8 0,.int .u8 0,.int .u8 0,.int .u8 0,.int .u8 0,.int .u8 0,.int .u8 0,.int .u8 0,.int .u8 0,.int .u8 0,.int .u8 0,.int .u8 0,.int .u8 0,.int .u8 0,.int .u8 0,.int .u8 0,.int .u8 0,.int .u8 0,.int .u8 0,.int .u8 0,.int .u8 0,.int .u8 0,.int .u8 0,.int .u8 0,.int .u8 0,.int .u8 0,.int .u8 0,.int .u8 0,.int .u8 0,.int .u8 0,.int .u8 0,.int .u8 0,.int .u8 0,.int .u8 0,.int .u8 0,.int .u8 0,.int .u8 0,.int .u8 0,.int .u8 0,.int .u8 0,.int .u8 0,.int .u8 0,.int .u8 0,.int .u8 0,.int .u8 0,.int .u8 0,.int .u8 0,.int .u8 0,.int .u8 0,.int .u8 0,.int .u8 0,.int .u8 0,.int .u8 0,.int .u8 0,.int .u8 0,.int .u8 0,.int .u8 0,.int .u8 0,.int .u8 0,.int .u8 0]⟩)) 325 tF (N (L 326 tF) 327 ⟨.arr 32 5,32,32,[.int .u8 0,.int .u8 0,.int .u8 0,.int .u8 0,.int .u8 0,.int .u8 0,.int .u8 0,.int .u8 0,.int .u8 0,.int .u8 0,.int .u8 0,.int .u8 0,.int .u8 0,.int .u8 0,.int .u8 0,.int .u8 0,.int .u8 0,.int .u8 0,.int .u8 0,.int .u8 0,.int .u8 0,.int .u8 0,.int .u8 0,.int .u8 0,.int .u8 0,.int .u8 0,.int .u8 0,.int .u8 0,.int .u8 0,.int .u8 0,.int .u8 0,.int .u8 0]⟩ (L 328 ⟨.arr 64 5,64,64,[.int .u8 0,.int .u8 0,.int .u8 0,.int .u8 0,.int .u8 0,.int .u8 0,.int .u8 0,.int .u8 0,.int .u8 0,.int .u8 0,.int .u8 0,.int .u8 0,.int .u8 0,.int .u8 0,.int .u8 0,.int .u8 0,.int .u8 0,.int .u8 0,.int .u8 0,.int .u8 0,.int .u8 0,.int .u8 0,.int .u8 0,.int .u8 0,.int .u8 0,.int .u8 0,.int .u8 0,.int .u8 0,.int .u8 0,.int .u8 0,.int .u8 0,.int .u8 0,.int .u8 0,.int .u8 0,.int .u8 0,.int .u8 0,.int .u8 0,.int .u8 0,.int .u8 0,.int .u8 0,.int .u8 0,.int .u8 0,.int .u8 0,.int .u8 0,.int .u8 0,.int .u8 0,.int .u8 0,.int .u8 0,.int .u8 0,.int .u8 0,.int .u8 0,.int .u8 0,.int .u8 0,.int .u8 0,.int .u8 0,.int .u8 0,.int .u8 0,.int .u8 0,.int .u8 0,.int .u8 0,.int .u8 0,.int .u8 0,.int .u8 0,.int .u8 0]⟩))) 329 (tP 343) (N (N (N (L 330 ⟨.struct [(0,1,ay),(1,1,ay),(2,1,ay),(3,1,ay)],4,40,[.Ei,.Ei,.Ei,.str []]⟩) 332 ⟨.arr 0 16,0,0,[]⟩ .nil) 333 ⟨.struct [(0,0,aC)],0,0,[]⟩ (L 337 tF)) 340 ⟨.struct [(0,1,ay),(1,1,ay),(2,1,ay),(3,1,ay),(4,1,ay),(5,1,ay),(6,1,ay),(7,1,ay),(8,1,ay),(9,1,ay),(10,1,ay)],11,48,[.int .u64 0,.int .u64 0,.int .u32 0,.int .u8 0,.int .u8 0,.int .u8 0,.int .u8 0,.FM,.Ei,.int .i32 0,.int .i32 0]⟩ (N (L 342 ⟨.struct [(0,1,ay)],1,16,[.str []]⟩) 343 ⟨.struct [(0,1,ay)],1,16,[.str []]⟩ (L 344 tF))))))))
noncomputable def Tryz.fns:BT Func:=(N (N (N (N (N (N (N (L 3 Tryz.f3) 4 Tryz.f4 (L 5 Tryz.f5)) 6 Tryz.f6 (N (L 7 Tryz.f7) 8 Tryz.f8 .nil)) 9 Tryz.f9 (N (N (L 10 Tryz.f10) 11 Tryz.f11 (L 12 Tryz.f12)) 13 Tryz.f13 (N (L 14 Tryz.f14) 15 Tryz.f15 .nil))) 16 Tryz.f16 (N (N (N (L 17 Tryz.f17) 18 Tryz.f18 (L 19 Tryz.f19)) 20 Tryz.f20 (N (L 21 Tryz.f21) 22 Tryz.f22 .nil)) 23 Tryz.f23 (N (N (L 24 Tryz.f24) 25 Tryz.f25 (L 26 Tryz.f26)) 27 Tryz.f27 (N (L 28 Tryz.f28) 29 Tryz.f29 .nil)))) 30 Tryz.f30 (N (N (N (N (L 31 Tryz.f31) 32 Tryz.f32 (L 33 Tryz.f33)) 34 Tryz.f34 (N (L 35 Tryz.f35) 36 Tryz.f36 .nil)) 37 Tryz.f37 (N (N (L 38 Tryz.f38) 39 Tryz.f39 (L 40 Tryz.f40)) 41 Tryz.f41 (N (L 42 Tryz.f42) 43 Tryz.f43 .nil))) 44 Tryz.f44 (N (N (N (L 45 Tryz.f45) 46 Tryz.f46 (L 47 Tryz.f47)) 48 Tryz.f48 (N (L 49 Tryz.f49) 50 Tryz.f50 .nil)) 51 Tryz.f51 (N (N (L 52 Tryz.f52) 53 Tryz.f53 .nil) 54 Tryz.f54 (N (L 55 Tryz.f55) 56 Tryz.f56 .nil))))) 57 Tryz.f57 (N (N (N (N (N (L 58 Tryz.f58) 59 Tryz.f59 (L 60 Tryz.f60)) 61 Tryz.f61 (N (L 62 Tryz.f62) 63 Tryz.f63 .nil)) 64 Tryz.f64 (N (N (L 65 Tryz.f65) 66 Tryz.f66 (L 67 Tryz.f67)) 68 Tryz.f68 (N (L 69 Tryz.f69) 70 Tryz.f70 .nil))) 71 Tryz.f71 (N (N (N (L 72 Tryz.f72) 73 Tryz.f73 (L 74 Tryz.f74)) 75 Tryz.f75 (N (L 76 Tryz.f76) 77 iF .nil)) 78 Tryz.f78 (N (N (L 79 Tryz.f79) 80 Tryz.f80 .nil) 81 Tryz.f81 (N (L 82 Tryz.f82) 83 Tryz.f83 .nil)))) 84 Tryz.f84 (N (N (N (N (L 85 Tryz.f85) 86 Tryz.f86 (L 87 Tryz.f87)) 88 Tryz.f88 (N (L 89 Tryz.f89) 90 Tryz.f90 .nil)) 91 Tryz.f91 (N (N (L 92 Tryz.f92) 93 Tryz.f93 (L 94 Tryz.f94)) 95 vS (N (L 96 vT) 97 Tryz.f97 .nil))) 98 Tryz.f98 (N (N (N (L 99 jB) 100 Tryz.f100 (L 101 Tryz.f101)) 102 Tryz.f102 (N (L 103 Tryz.f103) 104 Tryz.f104 .nil)) 105 Tryz.f105 (N (N (L 106 Tryz.f106) 107 Tryz.f107 .nil) 108 Tryz.f108 (N (L 109 Tryz.f109) 110 Tryz.f110 .nil)))))) 111 Tryz.f111 (N (N (N (N (N (N (L 112 Tryz.f112) 113 Tryz.f113 (L 114 Tryz.f114)) 115 Tryz.f115 (N (L 116 mX) 117 Tryz.f117 .nil)) 118 Tryz.f118 (N (N (L 119 tX) 120 Tryz.f120 (L 121 tY)) 122 dn (N (L 123 Tryz.f123) 124 Tryz.f124 .nil))) 125 Tryz.f125 (N (N (N (L 126 Tryz.f126) 127 Tryz.f127 (L 128 Tryz.f128)) 129 Tryz.f129 (N (L 130 Tryz.f130) 131 Tryz.f131 .nil)) 132 Tryz.f132 (N (N (L 133 Tryz.f133) 134 Tryz.f134 (L 135 Tryz.f135)) 136 Tryz.f136 (N (L 137 Tryz.f137) 138 Tryz.f138 .nil)))) 139 Tryz.f139 (N (N (N (N (L 140 Tryz.f140) 141 Tryz.f141 (L 142 Tryz.f142)) 143 Tryz.f143 (N (L 144 Tryz.f144) 145 tZ .nil)) 146 uh (N (N (L 147 Tryz.f147) 148 Tryz.f148 (L 149 Tryz.f149)) 150 Tryz.f150 (N (L 151 Tryz.f151) 152 Tryz.f152 .nil))) 153 Tryz.f153 (N (N (N (L 154 Tryz.f154) 155 Tryz.f155 (L 156 Tryz.f156)) 157 Tryz.f157 (N (L 158 Tryz.f158) 159 Tryz.f159 .nil)) 160 Tryz.f160 (N (N (L 161 Tryz.f161) 162 Tryz.f162 .nil) 163 Tryz.f163 (N (L 164 Tryz.f164) 165 Tryz.f165 .nil))))) 166 Tryz.f166 (N (N (N (N (N (L 167 Tryz.f167) 168 Tryz.f168 (L 169 Tryz.f169)) 170 Tryz.f170 (N (L 171 Tryz.f171) 172 Tryz.f172 .nil)) 173 Tryz.f173 (N (N (L 174 Tryz.f174) 175 Tryz.f175 (L 176 Tryz.f176)) 177 Tryz.f177 (N (L 178 Tryz.f178) 179 Tryz.f179 .nil))) 180 Tryz.f180 (N (N (N (L 181 Tryz.f181) 182 Tryz.f182 (L 183 Tryz.f183)) 184 Tryz.f184 (N (L 185 Tryz.f185) 186 Tryz.f186 .nil)) 187 Tryz.f187 (N (N (L 188 Tryz.f188) 189 Tryz.f189 .nil) 190 Tryz.f190 (N (L 191 Tryz.f191) 192 Tryz.f192 .nil)))) 193 Tryz.f193 (N (N (N (N (L 194 Tryz.f194) 195 Tryz.f195 (L 196 Tryz.f196)) 197 Tryz.f197 (N (L 198 Tryz.f198) 199 Tryz.f199 .nil)) 200 Tryz.f200 (N (N (L 201 Tryz.f201) 204 Tryz.f204 (L 205 Tryz.f205)) 207 Tryz.f207 (N (L 208 Tryz.f208) 209 Tryz.f209 .nil))) 210 Tryz.f210 (N (N (N (L 211 Tryz.f211) 212 Tryz.f212 (L 213 Tryz.f213)) 214 Tryz.f214 (N (L 215 Tryz.f215) 216 Tryz.f216 .nil)) 217 Tryz.f217 (N (N (L 218 Tryz.f218) 219 Tryz.f219 .nil) 220 Tryz.f220 (N (L 221 Tryz.f221) 222 Tryz.f222 .nil)))))))
def Tryz.live:BT Nat:=(N (N (N (N (N (N (N (L 3 35218732883959) 4 81130257423585920070131644399567 (L 5 20282409603656282110240556613407)) 6 8797166791631 (N (L 7 9445021196115443195903) 8 1284520576830907153924047 .nil)) 9 2251937269424119 (N (N (L 10 4083471642060274948278853338158436843503) 11 8175 (L 12 7)) 13 17303031 (N (L 14 4612812064639959007) 15 207 .nil))) 16 70845017306208267517903 (N (N (N (L 17 33685943) 18 31 (L 19 268470387)) 20 4159 (N (L 21 23) 22 23 .nil)) 23 14335 (N (N (L 24 7) 25 36524002295 (L 26 33557455)) 27 31 (N (L 28 638777136133500232728028643279) 29 23 .nil)))) 30 15 (N (N (N (N (L 31 2077) 32 2149585151 (L 33 5)) 34 540925 (N (L 35 9007203621079027) 36 263283 .nil)) 37 7 (N (N (L 38 2785366273595414553384992575) 39 20282565482478322020874687348527 (L 40 295219962791579485687)) 41 1237940113072357669249454075 (N (L 42 131191) 43 69226996735 .nil))) 44 983149 (N (N (N (L 45 7) 46 2566129655 (L 47 268470387)) 48 36031478185920503 (N (L 49 2099007) 50 31 .nil)) 51 76561194806677495 (N (N (L 52 4611826824635484151) 53 536871483 .nil) 54 2077 (N (L 55 5) 56 5 .nil))))) 57 4504703438225535 (N (N (N (N (N (L 58 5488420038750559896029471567983428603) 59 83 (L 60 287)) 61 31 (N (L 62 45035996290519027) 63 5 .nil)) 64 33023 (N (N (L 65 262459) 66 7 (L 67 11)) 68 9007199254773821 (N (L 69 77) 70 5 .nil))) 71 16106194419 (N (N (N (L 72 1101690831219) 73 119 (L 74 4620196376434196339)) 75 538854333 (N (L 76 17867066114039) 77 9445318576492100452863 .nil)) 78 541 (N (N (L 79 2899107766173950474215390087288321352934114299) 80 268439295 .nil) 81 7 (N (L 82 19) 83 1073741831 .nil)))) 84 571 (N (N (N (N (L 85 1) 86 9444769005542164140283 (L 87 262707)) 88 7 (N (L 89 2199090887711) 90 2077 .nil)) 91 91 (N (N (L 92 943) 93 5 (L 94 31)) 95 287 (N (L 96 31) 97 2199158520895 .nil))) 98 65615 (N (N (N (L 99 17179869199) 100 19 (L 101 9481627579855335850495)) 102 9373 (N (L 103 21) 104 3 .nil)) 105 19 (N (N (L 106 131339) 107 1099511693427 .nil) 108 92522022212955275391 (N (L 109 4198555) 110 67109427 .nil)))))) 111 17660955854071 (N (N (N (N (N (N (L 112 34387) 113 2077 (L 114 77928346935781219122975)) 115 7 (N (L 116 33261241786543) 117 138351151749653378483 .nil)) 118 7 (N (N (L 119 55) 120 2361471471810991128351 (L 121 65775)) 122 51 (N (L 123 61463) 124 7 .nil))) 125 143 (N (N (N (L 126 87) 127 268435671 (L 128 525363)) 129 71 (N (L 130 67) 131 66483 .nil)) 132 127 (N (N (L 133 1037) 134 35787119 (L 135 71582839)) 136 66099 (N (L 137 275955859571) 138 131635 .nil)))) 139 15 (N (N (N (N (L 140 5) 141 73788102194745311519 (L 142 2077)) 143 83010348331718212735 (N (L 144 264091) 145 5 .nil)) 146 5 (N (N (L 147 2097283) 148 51 (L 149 5)) 150 32887 (N (L 151 5) 152 5 .nil))) 153 711 (N (N (N (L 154 3) 155 5 (L 156 4432676798715)) 157 7 (N (L 158 1127) 159 1 .nil)) 160 1 (N (N (L 161 2113775) 162 1 .nil) 163 1 (N (L 164 1) 165 1 .nil))))) 166 8431 (N (N (N (N (N (L 167 1) 168 5 (L 169 1048695)) 170 5 (N (L 171 524353) 172 19 .nil)) 173 457 (N (N (L 174 461) 175 461 (L 176 461)) 177 21 (N (L 178 9161) 179 2099151 .nil))) 180 21 (N (N (N (L 181 55) 182 295147905181504570311 (L 183 1995)) 184 16631 (N (L 185 33562571) 186 504373101 .nil)) 187 16583 (N (N (L 188 3) 189 3 .nil) 190 3 (N (L 191 3) 192 3 .nil)))) 193 3 (N (N (N (N (L 194 5) 195 5 (L 196 5)) 197 5 (N (L 198 5) 199 5 .nil)) 200 5 (N (N (L 201 5) 204 2147618759 (L 205 23)) 207 3 (N (L 208 65619) 209 17188391667 .nil))) 210 3 (N (N (N (L 211 21) 212 13 (L 213 2923003971560093291123168138537876760321514930163)) 214 20426010943356750102455122975 (N (L 215 525) 216 5 .nil)) 217 16661 (N (N (L 218 13) 219 5 .nil) 220 5 (N (L 221 21) 222 21 .nil)))))))
theorem Tryz.tysB_:asX aA Tryz.tys=aC:=by kernel_rfl
theorem Tryz.fnsAre_:aeA aA Tryz.fns:=⟨Tryz.func111,⟨Tryz.func57,⟨Tryz.func30,⟨Tryz.func16,⟨Tryz.func9,⟨Tryz.func6,⟨Tryz.func4,⟨Tryz.func3,trivial,trivial⟩,⟨Tryz.func5,trivial,trivial⟩⟩,⟨Tryz.func8,⟨Tryz.func7,trivial,trivial⟩,trivial⟩⟩,⟨Tryz.func13,⟨Tryz.func11,⟨Tryz.func10,trivial,trivial⟩,⟨Tryz.func12,trivial,trivial⟩⟩,⟨Tryz.func15,⟨Tryz.func14,trivial,trivial⟩,trivial⟩⟩⟩,⟨Tryz.func23,⟨Tryz.func20,⟨Tryz.func18,⟨Tryz.func17,trivial,trivial⟩,⟨Tryz.func19,trivial,trivial⟩⟩,⟨Tryz.func22,⟨Tryz.func21,trivial,trivial⟩,trivial⟩⟩,⟨Tryz.func27,⟨Tryz.func25,⟨Tryz.func24,trivial,trivial⟩,⟨Tryz.func26,trivial,trivial⟩⟩,⟨Tryz.func29,⟨Tryz.func28,trivial,trivial⟩,trivial⟩⟩⟩⟩,⟨Tryz.func44,⟨Tryz.func37,⟨Tryz.func34,⟨Tryz.func32,⟨Tryz.func31,trivial,trivial⟩,⟨Tryz.func33,trivial,trivial⟩⟩,⟨Tryz.func36,⟨Tryz.func35,trivial,trivial⟩,trivial⟩⟩,⟨Tryz.func41,⟨Tryz.func39,⟨Tryz.func38,trivial,trivial⟩,⟨Tryz.func40,trivial,trivial⟩⟩,⟨Tryz.func43,⟨Tryz.func42,trivial,trivial⟩,trivial⟩⟩⟩,⟨Tryz.func51,⟨Tryz.func48,⟨Tryz.func46,⟨Tryz.func45,trivial,trivial⟩,⟨Tryz.func47,trivial,trivial⟩⟩,⟨Tryz.func50,⟨Tryz.func49,trivial,trivial⟩,trivial⟩⟩,⟨Tryz.func54,⟨Tryz.func53,⟨Tryz.func52,trivial,trivial⟩,trivial⟩,⟨Tryz.func56,⟨Tryz.func55,trivial,trivial⟩,trivial⟩⟩⟩⟩⟩,⟨Tryz.func84,⟨Tryz.func71,⟨Tryz.func64,⟨Tryz.func61,⟨Tryz.func59,⟨Tryz.func58,trivial,trivial⟩,⟨Tryz.func60,trivial,trivial⟩⟩,⟨Tryz.func63,⟨Tryz.func62,trivial,trivial⟩,trivial⟩⟩,⟨Tryz.func68,⟨Tryz.func66,⟨Tryz.func65,trivial,trivial⟩,⟨Tryz.func67,trivial,trivial⟩⟩,⟨Tryz.func70,⟨Tryz.func69,trivial,trivial⟩,trivial⟩⟩⟩,⟨Tryz.func78,⟨Tryz.func75,⟨Tryz.func73,⟨Tryz.func72,trivial,trivial⟩,⟨Tryz.func74,trivial,trivial⟩⟩,⟨Tryz.func77,⟨Tryz.func76,trivial,trivial⟩,trivial⟩⟩,⟨Tryz.func81,⟨Tryz.func80,⟨Tryz.func79,trivial,trivial⟩,trivial⟩,⟨Tryz.func83,⟨Tryz.func82,trivial,trivial⟩,trivial⟩⟩⟩⟩,⟨Tryz.func98,⟨Tryz.func91,⟨Tryz.func88,⟨Tryz.func86,⟨Tryz.func85,trivial,trivial⟩,⟨Tryz.func87,trivial,trivial⟩⟩,⟨Tryz.func90,⟨Tryz.func89,trivial,trivial⟩,trivial⟩⟩,⟨Tryz.func95,⟨Tryz.func93,⟨Tryz.func92,trivial,trivial⟩,⟨Tryz.func94,trivial,trivial⟩⟩,⟨Tryz.func97,⟨Tryz.func96,trivial,trivial⟩,trivial⟩⟩⟩,⟨Tryz.func105,⟨Tryz.func102,⟨Tryz.func100,⟨Tryz.func99,trivial,trivial⟩,⟨Tryz.func101,trivial,trivial⟩⟩,⟨Tryz.func104,⟨Tryz.func103,trivial,trivial⟩,trivial⟩⟩,⟨Tryz.func108,⟨Tryz.func107,⟨Tryz.func106,trivial,trivial⟩,trivial⟩,⟨Tryz.func110,⟨Tryz.func109,trivial,trivial⟩,trivial⟩⟩⟩⟩⟩⟩,⟨Tryz.func166,⟨Tryz.func139,⟨Tryz.func125,⟨Tryz.func118,⟨Tryz.func115,⟨Tryz.func113,⟨Tryz.func112,trivial,trivial⟩,⟨Tryz.func114,trivial,trivial⟩⟩,⟨wM,⟨Tryz.func116,trivial,trivial⟩,trivial⟩⟩,⟨Tryz.func122,⟨Tryz.func120,⟨Tryz.func119,trivial,trivial⟩,⟨Tryz.func121,trivial,trivial⟩⟩,⟨Tryz.func124,⟨Tryz.func123,trivial,trivial⟩,trivial⟩⟩⟩,⟨Tryz.func132,⟨Tryz.func129,⟨Tryz.func127,⟨Tryz.func126,trivial,trivial⟩,⟨Tryz.func128,trivial,trivial⟩⟩,⟨Tryz.func131,⟨Tryz.func130,trivial,trivial⟩,trivial⟩⟩,⟨Tryz.func136,⟨Tryz.func134,⟨Tryz.func133,trivial,trivial⟩,⟨Tryz.func135,trivial,trivial⟩⟩,⟨Tryz.func138,⟨Tryz.func137,trivial,trivial⟩,trivial⟩⟩⟩⟩,⟨Tryz.func153,⟨Tryz.func146,⟨Tryz.func143,⟨Tryz.func141,⟨Tryz.func140,trivial,trivial⟩,⟨Tryz.func142,trivial,trivial⟩⟩,⟨Tryz.func145,⟨Tryz.func144,trivial,trivial⟩,trivial⟩⟩,⟨Tryz.func150,⟨wO,⟨wP,trivial,trivial⟩,⟨wQ,trivial,trivial⟩⟩,⟨Tryz.func152,⟨Tryz.func151,trivial,trivial⟩,trivial⟩⟩⟩,⟨Tryz.func160,⟨Tryz.func157,⟨Tryz.func155,⟨Tryz.func154,trivial,trivial⟩,⟨Tryz.func156,trivial,trivial⟩⟩,⟨Tryz.func159,⟨Tryz.func158,trivial,trivial⟩,trivial⟩⟩,⟨Tryz.func163,⟨Tryz.func162,⟨Tryz.func161,trivial,trivial⟩,trivial⟩,⟨Tryz.func165,⟨Tryz.func164,trivial,trivial⟩,trivial⟩⟩⟩⟩⟩,⟨Tryz.func193,⟨Tryz.func180,⟨Tryz.func173,⟨wR,⟨Tryz.func168,⟨Tryz.func167,trivial,trivial⟩,⟨Tryz.func169,trivial,trivial⟩⟩,⟨wS,⟨wU,trivial,trivial⟩,trivial⟩⟩,⟨Tryz.func177,⟨Tryz.func175,⟨Tryz.func174,trivial,trivial⟩,⟨Tryz.func176,trivial,trivial⟩⟩,⟨Tryz.func179,⟨Tryz.func178,trivial,trivial⟩,trivial⟩⟩⟩,⟨Tryz.func187,⟨Tryz.func184,⟨Tryz.func182,⟨Tryz.func181,trivial,trivial⟩,⟨Tryz.func183,trivial,trivial⟩⟩,⟨Tryz.func186,⟨Tryz.func185,trivial,trivial⟩,trivial⟩⟩,⟨Tryz.func190,⟨Tryz.func189,⟨Tryz.func188,trivial,trivial⟩,trivial⟩,⟨Tryz.func192,⟨Tryz.func191,trivial,trivial⟩,trivial⟩⟩⟩⟩,⟨Tryz.func210,⟨Tryz.func200,⟨Tryz.func197,⟨Tryz.func195,⟨Tryz.func194,trivial,trivial⟩,⟨Tryz.func196,trivial,trivial⟩⟩,⟨Tryz.func199,⟨Tryz.func198,trivial,trivial⟩,trivial⟩⟩,⟨Tryz.func207,⟨Tryz.func204,⟨wV,trivial,trivial⟩,⟨Tryz.func205,trivial,trivial⟩⟩,⟨wW,⟨Tryz.func208,trivial,trivial⟩,trivial⟩⟩⟩,⟨wX,⟨wY,⟨wZ,⟨xg,trivial,trivial⟩,⟨xk,trivial,trivial⟩⟩,⟨xq,⟨Tryz.func215,trivial,trivial⟩,trivial⟩⟩,⟨xu,⟨xw,⟨xA,trivial,trivial⟩,trivial⟩,⟨xB,⟨xC,trivial,trivial⟩,trivial⟩⟩⟩⟩⟩⟩⟩
theorem Tryz.entersB_:agj Tryz.fns=aC:=by kernel_rfl
theorem Tryz.mixed_:aA.follows .mixedOrders=aC:=by kernel_rfl
end
end Go.Proofs
namespace Go.Sx
def adp(P:Program)(t:Nat):Bool:=
 (match P.underlying t with
  |some (.struct fs)=>match fs.toList with
   |[f,g]=>f.name != "_" && g.name != "_" && f.offset==0&&g.offset==1&&(match P.underlying f.type with|some (.int .i64)=>aC|_=>ay)&&(match P.underlying g.type with|some .string=>aC|_=>ay)
   |_=>ay
  |_=>ay) && !P.stoodInHeld t
section
variable{P:Program}
theorem agM{t:Nat}{d:TypeDesc}(hu:P.underlying t=ak d)(hd:(match d with| .struct _| .array _ _=>aC|_=>ay)=ay){cs:Array Value}{j:Nat}{v:Value}(hj:cs[j]?=ak v)(w:World):(part t cs j).run P w=.ok v w:=by
 cases d<;>first|(simp at hd;done) |simp[part,isAgg,run_underlying hu,hj]
theorem aeJ{t:Nat}(h:adp P t=aC):Q8 P t:=by
 unfold adp at h;rw[aG] at h;obtain ⟨h1,h2⟩:=h;have h2:P.stoodInHeld t=ay:=by simpa using h2
 split at h1
 ·rename_i fs hu
  split at h1
  ·rename_i f g hl
   simp only[aG,bne_iff_ne,ne_eq,beq_iff_eq] at h1;obtain ⟨⟨⟨⟨⟨a1,a2⟩,a3⟩,a4⟩,a5⟩,a6⟩:=h1;have uf:P.underlying f.type=ak (.int .i64):=by
    split at a5
    ·assumption
    ·cases a5
   have ug:P.underlying g.type=ak .string:=by
    split at a6
    ·assumption
    ·cases a6
   have hfs:fs=#[f,g]:=by
    obtain ⟨l⟩:=fs;have hl:l=[f,g]:=hl;rw[hl]
   have p0 (n:CZ) (w:World):(part f.type #[.int .i64 n.1,.string ⟨n.2.toArray⟩] 0).run P w=.ok (.int .i64 n.1) w:=agM uf rfl rfl w;have p1 (n:CZ) (w:World):(part g.type #[.int .i64 n.1,.string ⟨n.2.toArray⟩] 1).run P w=.ok (.string ⟨n.2.toArray⟩) w:=agM ug rfl rfl w;refine ⟨⟨fs,hu⟩,fun em n w=>?_,fun n m w=>?_⟩
   ·have ci:∀(d:Nat) (k:Int),(iq em (d+1) f.type (.int .i64 k)).run P w=.ok () w:=fun d k=>by simp[iq,run_underlying uf]
    have cs:∀(d:Nat) (s:ByteArray),(iq em (d+1) g.type (.string s)).run P w=.ok () w:=fun d s=>by simp[iq,run_underlying ug]
    have:∀d:Nat,(iq em (d+2) t (Ci n)).run P w=.ok () w:=fun d=>by
     unfold Ci;rw[iq];simp[run_underlying hu,hfs,a1,a2,a3,a4,p0,p1,ci,cs]
    exact this 9998
   ·have hf:P.fieldsOf t=fs:=by simp[Program.fieldsOf,hu]
    have he:=run_equalIn_struct (P:=P) w 9999 t #[.int .i64 n.1,.string ⟨n.2.toArray⟩] #[.int .i64 m.1,.string ⟨m.2.toArray⟩] (by rw[hf];exact hu) h2;have q1:=run_equalIn_int (P:=P) w 9998 f.type .i64 .i64 n.1 m.1 uf;have q2:=run_equalIn_string (P:=P) w 9998 g.type ⟨n.2.toArray⟩ ⟨m.2.toArray⟩ ug;show (Op.equalIn 10000 t (Ci n) (Ci m)).run P w=_;unfold Ci;rw[he,hf,hl];simp only[Op.eqFields,a1,a2,a3,a4,p0,p1,q1,q2,acu,ne_eq,not_false_eq_true,if_true,Sem.run_bind,Result.andThen_ok,Sem.run_ite,Sem.run_pure];obtain ⟨x,l⟩:=n;obtain ⟨y,k⟩:=m;by_cases q:x=y<;>by_cases q2:l=k<;>simp[q,q2]
  ·cases h1
 ·cases h1
end
end Go.Sx
namespace Go.Proofs
open Go Go.Sx
abbrev Wd:=Nat->Nat->List UInt8
def WT(W:Wd)(g:Nat)(n:Nat):List Sh:=match n with
 |3=>[.str (W g 0),.str (W g 1),.str (W g 2)] |4=>[.str (W g 0),.str (W g 1),.str (W g 2),.str (W g 3)] |7=>[.str (W g 0),.str (W g 1),.str (W g 2),.str (W g 3),.str (W g 4),.str (W g 5),.str (W g 6)] |9=>[.str (W g 0),.str (W g 1),.str (W g 2),.str (W g 3),.str (W g 4),.str (W g 5),.str (W g 6),.str (W g 7),.str (W g 8)] |_=>[]
def pow10:List Int:=[1,10,100,1000,10000,100000,1000000,10000000,100000000,1000000000,10000000000,100000000000,1000000000000,10000000000000,100000000000000,1000000000000000,10000000000000000,100000000000000000,1000000000000000000,10000000000000000000]
def Ar(W:Wd):List (Nat×Sh):=[(0,.er 0 329),(1,.er 1 329),(2,.er 2 329),(4,.er 4 329),(5,.er 5 329),(6,.er 6 329),(7,.er 7 329),(8,.er 8 329),(9,.er 9 329),(10,.er 10 329),(11,.er 11 329),(12,.er 12 329),(13,.er 13 329),(14,.er 14 329),(15,.er 15 329),
 (16,.zQ (WT W 16 4)),(17,.zQ (WT W 17 7)),(18,.zQ (WT W 18 9)),(19,.zQ (WT W 19 3)),(20,.zQ (WT W 20 4)),(21,.zQ (WT W 21 4)),(23,.zQ (pow10.map (aT .u64)))]
def W7:Wd:=fun g i=>(match g,i with
 |16,0=>[114,101,103,105,115,116,101,114] |16,1=>[99,111,117,110,116,101,114] |16,2=>[113,117,101,117,101] |16,3=>[109,97,112] |17,0=>[98,101,103,105,110] |17,1=>[99,97,108,108] |17,2=>[114,101,116,117,114,110] |17,3=>[116,114,121] |17,4=>[99,111,109,109,105,116] |17,5=>[97,98,111,114,116] |17,6=>[99,97,110,99,101,108] |18,0=>[114,101,97,100] |18,1=>[119,114,105,116,101] |18,2=>[97,100,100] |18,3=>[103,101,116] |18,4=>[101,110,113] |18,5=>[100,101,113] |18,6=>[112,117,116] |18,7=>[108,111,111,107] |18,8=>[100,101,108] |19,0=>[111,107] |19,1=>[110,111,110,101] |19,2=>[118,97,108] |20,0=>[108,105,118,101] |20,1=>[112,101,110,100,105,110,103] |20,2=>[99,111,109,109,105,116,116,101,100] |20,3=>[97,98,111,114,116,101,100] |21,0=>[115,101,114,105,97,108] |21,1=>[115,116,114,105,99,116] |21,2=>[102,105,110,97,108] |21,3=>[111,112,97,113,117,101] |_,_=>[])
def noSpec:Nat->Option (List Sh->Tree Sh):=fun _=>aK
def aoc:Nat->Option VT
 |169=>ak .bool |201=>ak .int |_=>aK
theorem akA(t:Nat)(h:List.contains [157] t=aC):Q8 aA t:=by
 obtain rfl:t=157:=by simpa using h
 exact aeJ (by kernel_rfl)
noncomputable def C7(A:Prim)(W:Wd)(spec:Nat->Option (List Sh->Tree Sh))(stop:Nat->List Nat->Bool):Ctx:=
 {A,tys:=Tryz.tys,fns:=Tryz.fns,spec,eqs:=[272,55],VB:=[329],LU:=stop,gls:=Ar W,live:=Tryz.live,Z9:=[157],ad5:=aoc}
theorem as2:WE aA Tryz.tys [272,55]=aC:=by kernel_rfl
theorem as3:ags aA [329]=aC:=by kernel_rfl
def aod:Nat->Option Nat
 |182=>ak 272 |_=>aK
def aiZ:Nat->Option Nat
 |208=>ak 272 |_=>aK
noncomputable def XZ(A:Prim)(W:Wd)(spec:Nat->Option (List Sh->Tree Sh))(stop:Nat->List Nat->Bool):Ctx:=
 {A,tys:=Tryz.tys,fns:=Tryz.fns,spec,eqs:=[272,55],VB:=[329],LU:=stop,gls:=Ar W,live:=Tryz.live,Z9:=[157],ad5:=aoc,ins:=aod,lend:=fun g=>g==181||g==184,grow:=aiZ}
theorem C7.ok(spec:Nat->Option (List Sh->Tree Sh))(stop:Nat->List Nat->Bool):Az aA (C7 zG W7 spec stop):=
 ⟨aaN Tryz.tysB_,P7 Tryz.fnsAre_,rfl,Tryz.mixed_,fun t i h hi xs ys w h1 h2 x y=>XT (Qb as2 t i h hi) xs ys w h1 h2 x y,WC as3,akA⟩
theorem XZ.ok(spec:Nat->Option (List Sh->Tree Sh))(stop:Nat->List Nat->Bool):Az aA (XZ zG W7 spec stop):=
 ⟨aaN Tryz.tysB_,P7 Tryz.fnsAre_,rfl,Tryz.mixed_,fun t i h hi xs ys w h1 h2 x y=>XT (Qb as2 t i h hi) xs ys w h1 h2 x y,WC as3,akA⟩
theorem C7.O5{spec:Nat->Option (List Sh->Tree Sh)}{stop:Nat->List Nat->Bool}(hs:∀g F,spec g=ak F->zZ aA (Ar W7) g F)(he:∀g,(spec g).isSome=aC->(Tryz.fns.get g).isSome=aC):AU aA (C7 zG W7 spec stop):=
 ⟨hs,fun g h=>by
  rcases h with h|h
  ·exact F7 Tryz.fnsAre_ Tryz.entersB_ g (he g h)
  ·exact F7 Tryz.fnsAre_ Tryz.entersB_ g h,fun _ _ _ h=>(by cases h),fun _ _ _ h=>(by cases h)⟩
theorem Kv(stop:Nat->List Nat->Bool):AU aA (C7 zG W7 noSpec stop):=C7.O5 (fun _ _ h=>by cases h) (fun _ h=>by cases h)
def Dh:Nat->Bool:=fun _=>ay
def zW:Nat->List Nat->Bool:=fun _ _=>aC
abbrev L0:Nat:=1000000000000000000000000000000
def zV:Nat->List Nat->Bool:=fun _ _=>ay
end Go.Proofs
namespace Go.Sx
open Go.RowKit (Below)
theorem abb{H:Mem}{w w':World}{s:Sh}{v:Value}(hs:∀b0,(BP s b0).2=([],b0))(hd:∀b0,Den H (fun _=>aK) (BP s b0).1 v)(on:H.on w)(h:Below w.heap.size w w'):CV H w s v H w':=by
 have hb (b:Nat) (o:Obj) (e:H b=ak o):b<w.heap.size:=(bK.1 (on b o e)).1;refine ⟨fun _ _ e=>e,fun b o e=>?_,h.os,h.tape,h.output,h.size,h.block,fun b hb=>.inl hb,fun b0=>⟨fun _=>aK,fun i hi=>(hi rfl).elim,fun i b hb=>by simp[bk] at hb,hd b0,?_⟩⟩
 ·rw[h.block b (hb b o e)];exact on b o e
 ·rw[hs b0]
  exact ⟨fun _ _ h=>by simp[CJ,zI] at h,fun _ _ _ _ _ h=>by simp[CJ,zI] at h⟩
theorem Y4{P:Program}{gls:List (Nat×Sh)}{f:Nat}{F:List Sh->Tree Sh}
  (h:∀(H:Mem) (w:World) (Aq:List Sh) (args:List Value) (φ:Sh->Prop),H.on w->BU gls H->CU H Aq args->(F Aq).All φ->
   ∃s v,φ s/\(∀b0,(BP s b0).2=([],b0))/\(∀b0,Den H (fun _=>aK) (BP s b0).1 v)/\Calls P f args.toArray w fun e w'=>e=.returned v/\Below w.heap.size w w'):zZ P gls f F:=by
 intro H w Aq args φ on hg hr hφ;obtain ⟨s,v,hs,h1,h2,hc⟩:=h H w Aq args φ on hg hr hφ;exact hc.mono fun e w' ⟨he,hw⟩=>⟨v,s,H,he,hs,abb h1 h2 on hw⟩
mutual
def WU:Sh->Sh
 | .os _ st n g=>.sl st n g | .agg l=>.agg (WV l) | .zQ l=>.zQ (WV l) |s=>s
def WV:List Sh->List Sh
 |[]=>[] |x::r=>WU x::WV r
end
def aoe(H:Mem)(E:Env)(l:List (Nat×SB)):Prop:=∀i e st n g,(i,SB.own e st n g)∈l->∃v,E i=ak v/\Rep H (.sl st n g) v
theorem X0(x:Value):Ij (SV.lit x)=aC:=by cases x<;>rfl
mutual
theorem alT:∀s:Sh,Ij (Xw s)=aC
 | .agg l=>by simpa[Xw,Ij] using MX l | .zQ l=>by simpa[Xw,Ij] using MX l | .fn f l=>by simpa[Xw,Ij] using MX l | .i _ _=>rfl | .b _=>rfl | .v x=>X0 x | .pt _=>rfl | .str _=>rfl | .sl _ _ _=>rfl | .os _ _ _ _=>rfl | .BM _ _=>rfl | .er _ _=>rfl
theorem MX:∀l:List Sh,KN (QD l)=aC
 |[]=>rfl |x::r=>by simp[QD,KN,alT x,MX r]
end
theorem agN(f:Nat)(l:List Sh):Ij (.fn f (QD l))=aC:=by simpa[Ij] using MX l
mutual
theorem agO{H:Mem}{E:Env}:∀(s:Sh) (b:Nat) (v:Value),aoe H E (BP s b).2.1->Den H E (BP s b).1 v->∀b',Den H KW (BP (WU s) b').1 v/\(BP (WU s) b').2=([],b')
 | .os e st n g,b,v,hf,h,b'=>by
  obtain ⟨h1,_⟩:=h;obtain ⟨u,h2,h3⟩:=hf b e st n g (by simp[BP]);rw[h1] at h2;cases h2;exact ⟨h3,rfl⟩
 | .agg l,b,v,hf,h,b'=>by
  obtain ⟨vs,rfl,h⟩:=h;obtain ⟨h1,h2⟩:=X3 l b vs.toList hf h b';exact ⟨⟨vs,rfl,h1⟩,h2⟩
 | .zQ l,b,v,hf,h,b'=>by
  obtain ⟨vs,rfl,h⟩:=h;obtain ⟨h1,h2⟩:=X3 l b vs.toList hf h b';exact ⟨⟨vs,rfl,h1⟩,h2⟩
 | .i k n,b,v,_,h,b'=>⟨h,rfl⟩ | .b x,b,v,_,h,b'=>⟨h,rfl⟩ | .v x,b,v,_,h,b'=>⟨L8 (E:=E) (X0 x) h,rfl⟩ | .str l,b,v,_,h,b'=>⟨h,rfl⟩ | .sl st n g,b,v,_,h,b'=>⟨h,rfl⟩ | .BM t x,b,v,_,h,b'=>⟨h,rfl⟩ | .fn f l,b,v,_,h,b'=>⟨L8 (E:=E) (x:=.fn f (QD l)) (agN f l) h,rfl⟩ | .er g T,b,v,_,h,b'=>⟨h,rfl⟩ | .pt l,b,v,_,h,b'=>⟨h,rfl⟩
theorem X3{H:Mem}{E:Env}:∀(l:List Sh) (b:Nat) (vs:List Value),aoe H E (DU l b).2.1->zO H E (DU l b).1 vs->∀b',zO H KW (DU (WV l) b').1 vs/\(DU (WV l) b').2=([],b')
 |[],_,[],_,_,_=>⟨trivial,rfl⟩ |[],_,_::_,_,h,_=>h.elim |_::_,_,[],_,h,_=>h.elim |x::r,b,v::vs,hf,h,b'=>by
  obtain ⟨h1,h2⟩:=h;obtain ⟨q1,q2⟩:=agO x b v (fun i e st n g hm=>hf i e st n g (by simp[DU,hm])) h1 b';obtain ⟨q3,q4⟩:=X3 r _ vs (fun i e st n g hm=>hf i e st n g (by simp[DU,hm])) h2 b';simp only[WV,DU];rw[q2];simp only[kW];exact ⟨⟨q1,q3⟩,q4⟩
end
theorem RI(hp:List (Nat×SB)):∀l l':List (Nat×SB),CJ hp (l++l')=CJ (CJ hp l) l'
 |[],_=>rfl |(i,b)::l,l'=>RI (hins hp i b) l l'
theorem U1:∀(l:List (Nat×SB)) (i:Nat) (x:SB),zI (CJ [] l) i=ak x->(i,x)∈l
 |[],_,_,h=>by simp[CJ,zI] at h |(j,b)::l,i,x,h=>by
  rw[CJ,EY] at h;cases hq:zI (CJ [] l) i with
  |some y=>
   rw[hq] at h;cases h;exact List.mem_cons_of_mem _ (U1 l i _ hq)
  |none=>
   rw[hq] at h;simp only[Ec] at h;grind [zI]
structure RJ(l:List (Nat×SB))(b c:Nat):Prop where
 le:b<=c
 rng:∀i x,(i,x)∈l->b<=i/\i<c
 own:∀i x,(i,x)∈l->∃e st n g,x=.own e st n g
 at_:∀i x,(i,x)∈l->zI (CJ [] l) i=ak x
theorem RJ.nil(b:Nat):RJ [] b b:=⟨bV _,fun _ _ h=>by simp at h,fun _ _ h=>by simp at h,fun _ _ h=>by simp at h⟩
theorem RJ.append{l l':List (Nat×SB)}{b c d:Nat}(h:RJ l b c)(h':RJ l' c d):RJ (l++l') b d:=by
 refine ⟨Nat.le_trans h.le h'.le,fun i x hm=>?_,fun i x hm=>?_,fun i x hm=>?_⟩
 ·rcases cZ.1 hm with hm|hm
  ·have:=h.rng i x hm;have:=h'.le;omega
  ·have:=h'.rng i x hm;have:=h.le;omega
 ·rcases cZ.1 hm with hm|hm
  ·exact h.own i x hm
  ·exact h'.own i x hm
 ·rw[RI,EY]
  rcases cZ.1 hm with hm|hm
  ·cases hq:zI (CJ [] l') i with
   |none=>exact h.at_ i x hm |some y=>
    have h1:=h'.rng i y (U1 l' i y hq);have h2:=h.rng i x hm;omega
  ·rw[h'.at_ i x hm]
mutual
theorem adq:∀(s:Sh) (b:Nat),RJ (BP s b).2.1 b (BP s b).2.2
 | .os e st n g,b=>by
  simp only[BP];refine ⟨uY b,fun i x hm=>?_,fun i x hm=>?_,fun i x hm=>?_⟩<;>simp at hm<;>obtain ⟨rfl,rfl⟩:=hm
  ·omega
  ·exact ⟨_,_,_,_,rfl⟩
  ·simp[CJ,hins,zI]
 | .agg l,b=>U2 l b | .zQ l,b=>U2 l b | .i _ _,b=>.nil b | .b _,b=>.nil b | .v _,b=>.nil b | .str _,b=>.nil b | .sl _ _ _,b=>.nil b | .BM _ _,b=>.nil b | .fn _ _,b=>.nil b | .er _ _,b=>.nil b | .pt _,b=>.nil b
theorem U2:∀(l:List Sh) (b:Nat),RJ (DU l b).2.1 b (DU l b).2.2
 |[],b=>.nil b |x::r,b=>(adq x b).append (U2 r _)
end
theorem U3:∀(ids:List Nat) (hp:List (Nat×SB)),(∀i x,zI hp i=ak x->(∃e st n g,x=.own e st n g)\/∃st n g,x=.fz st n g)->(∀i,i∈ids->zI hp i≠aK)->
  ∃hp',EW ids.length hp ids=ak hp'/\(∀i st n g,zI hp i=ak (.fz st n g)->zI hp' i=ak (.fz st n g))/\∀i e st n g,i∈ids->zI hp i=ak (.own e st n g)->zI hp' i=ak (.fz st n g)
 |[],hp,_,_=>⟨hp,rfl,fun _ _ _ _ h=>h,fun _ _ _ _ _ h=>by simp at h⟩ |id::ids,hp,ho,hi=>by
  cases hl:zI hp id with
  |none=>simp_all |some x=>
   rcases ho id x hl with ⟨e,st,n,g,rfl⟩ |⟨st,n,g,rfl⟩
   ·have look (i:Nat):zI (hset hp id (.fz st n g)) i=bif id==i then ak (.fz st n g) else zI hp i:=by rw[D5,hl];rfl
    obtain ⟨hp',h1,h2,h3⟩:=U3 ids (hset hp id (.fz st n g)) (fun i x h=>by
     grind) (fun i hm=>by
     grind)
    grind [EW]
   ·obtain ⟨hp',h1,h2,h3⟩:=U3 ids hp ho (fun i hm=>hi i (by simp[hm]))
    grind [EW]
theorem CV.WU{H:Mem}{w:World}{s:Sh}{v:Value}{H':Mem}{w':World}(r:CV H w s v H' w'):∃H2,CV H w (WU s) v H2 w':=by
 obtain ⟨E1,h1,h2,h3,h4⟩:=r.res 0;have ids:=adq s 0;have Bg:Du ⟨w,fun _=>False,H⟩ H' w':=⟨r.os,r.tape,r.output,r.size,fun b hb _=>r.old b hb,r.on,r.H7,fun b hb=>(r.fresh b hb).imp id .inl⟩;obtain ⟨hp',a1,a2,a3⟩:=U3 ((BP s 0).2.1.map (·.1)) (CJ [] (BP s 0).2.1) (fun i x h=>.inl (ids.own i x (U1 _ i x h))) (fun i hm=>by
  obtain ⟨⟨j,x⟩,hm',rfl⟩:=fC.1 hm;show zI _ j≠aK;rw[ids.at_ j x hm'];simp)
 obtain ⟨H2,b1,b2,b3,_⟩:=He a1 h4 Bg;have fz:aoe H2 E1 (BP s 0).2.1:=fun i e st n g hm=>b2.ent i _ (a3 i e st n g (fC.2 ⟨_,hm,rfl⟩) (ids.at_ i _ hm));have hd:=agO s 0 v fz (Den.le b1 (fun _ _ e=>e) h3);refine ⟨H2,b3.le,b3.on,r.os,r.tape,r.output,r.size,r.old,fun b hb=>?_,fun b0=>⟨KW,fun i hi=>(hi rfl).elim,fun i b hb=>by simp[bk,KW] at hb,(hd b0).1,?_⟩⟩
 ·(rcases b3.fresh b hb with h|h|h)<;>simp_all
 ·rw[(hd b0).2]
  exact O4
theorem zZ.WU{P:Program}{gls:List (Nat×Sh)}{f:Nat}{F F':List Sh->Tree Sh}(h:zZ P gls f F)(hF:∀Aq (φ:Sh->Prop),(F' Aq).All φ->(F Aq).All fun s=>φ (Go.Sx.WU s)):zZ P gls f F':=
 fun H w Aq args φ on hg hr hφ=>(h H w Aq args _ on hg hr (hF Aq φ hφ)).mono fun _ _ ⟨v,_,_,he,hs,r⟩=>let ⟨H2,r2⟩:=r.WU;⟨v,_,H2,he,hs,r2⟩
end Go.Sx
namespace Go.Pl
open Go Go.Sx
structure Oj where
 kind:Int
 init:Int
 deriving DecidableEq,Inhabited
structure Pr where
 key:Int
 val:Int
 deriving DecidableEq,Inhabited
structure Cl where
 obj:Int
 op:Int
 key:Int
 val:Int
 deriving DecidableEq,Inhabited
def obR(o:Oj):List Sh:=[.i .i64 o.kind,.i .i64 o.init]
def prR(e:Pr):List Sh:=[.i .i64 e.key,.i .i64 e.val]
def clR(e:Cl):List Sh:=[.i .i64 e.obj,.i .i64 e.op,.i .i64 e.key,.i .i64 e.val]
def stR(s:List UInt8):List Sh:=[.str s]
def inR(n:Int):List Sh:=[.i .i64 n]
class Row(α:Type)where
 put:α->List Sh
 get:List Sh->Option α
 Dk:∀l a,get l=ak a->put a=l
 get_put:∀a,get (put a)=ak a
 Jl:α
instance:Row Oj where
 put:=obR
 get l:=match l with
  |[.i .i64 a,.i .i64 b]=>ak ⟨a,b⟩ |_=>aK
 Dk l a h:=by
  split at h
  ·cases h;rfl
  ·cases h
 get_put a:=rfl
 Jl:=⟨0,0⟩
instance:Row Pr where
 put:=prR
 get l:=match l with
  |[.i .i64 a,.i .i64 b]=>ak ⟨a,b⟩ |_=>aK
 Dk l a h:=by
  split at h
  ·cases h;rfl
  ·cases h
 get_put a:=rfl
 Jl:=⟨0,0⟩
instance:Row Cl where
 put:=clR
 get l:=match l with
  |[.i .i64 a,.i .i64 b,.i .i64 c,.i .i64 d]=>ak ⟨a,b,c,d⟩ |_=>aK
 Dk l a h:=by
  split at h
  ·cases h;rfl
  ·cases h
 get_put a:=rfl
 Jl:=⟨0,0,0,0⟩
instance:Row (List UInt8) where
 put:=stR
 get l:=match l with
  |[.str a]=>ak a |_=>aK
 Dk l a h:=by
  split at h
  ·cases h;rfl
  ·cases h
 get_put a:=rfl
 Jl:=[]
instance:Row Int where
 put:=inR
 get l:=match l with
  |[.i .i64 a]=>ak a |_=>aK
 Dk l a h:=by
  split at h
  ·cases h;rfl
  ·cases h
 get_put a:=rfl
 Jl:=0
def okB(α:Type)[Row α](n:Nat)(g:Nat->List Sh):Bool:=
 match n with
 |0=>aC |n+1=>okB α n g&&(Row.get (α:=α) (g n)).isSome
def zJ{α:Type}[Row α](g:Nat->List Sh)(i:Nat):α:=(Row.get (g i)).getD Row.Jl
def lst(α:Type)[Row α](n:Nat)(g:Nat->List Sh):List α:=(aY n).map (zJ g)
def nth{α:Type}[Row α](l:List α)(i:Nat):α:=l.getD i Row.Jl
def zH{α:Type}[Row α](o:Nat->α):Nat->List Sh:=fun j=>Row.put (o j)
section
variable{α:Type}[Row α]
theorem J9{n:Nat}{g:Nat->List Sh}(h:okB α n g=aC):∀i,i<n->g i=Row.put (zJ (α:=α) g i):=by
 induction n with
 |zero=>omega |succ n ih=>
  simp only[okB,aG] at h;grind [eF,zJ,Row.Dk]
theorem Dx(o:Nat->α):∀n,okB α n (zH o)=aC
 |0=>rfl |n+1=>by simp[okB,Dx o n,zH,Row.get_put]
theorem Tz{g:Nat->List Sh}{o:Nat->α}:∀{n:Nat},(∀i,i<n->g i=Row.put (o i))->okB α n g=aC
 |0,_=>rfl |n+1,h=>by simp[okB,Tz (n:=n) fun i hi=>h i (by omega),h n (by omega),Row.get_put]
theorem MZ(o:Nat->α)(i:Nat):zJ (zH o) i=o i:=by simp[zJ,zH,Row.get_put]
@[simp] theorem E8 (n:Nat) (g:Nat->List Sh):(lst α n g).length=n:=by simp[lst]
theorem WW{n:Nat}{g:Nat->List Sh}{i:Nat}(h:i<n):nth (lst α n g) i=zJ g i:=by simp[nth,lst,h]
theorem aof(o:Nat->α)(n:Nat):lst α n (zH o)=(aY n).map o:=by
 simp_all [lst,List.map_congr_left,MZ]
theorem abd(l:List α):(aY l.length).map (nth l)=l:=by
 (apply uj)<;>simp_all [nth]
theorem Kw(l:List α):lst α l.length (zH (nth l))=l:=by rw[aof,abd]
end
theorem DZ{H:Mem}{st n:Nat}{g g':Nat->List Sh}{v:Value}(h:Rep H (.sl st n g) v)(hg:∀j,j<n->g j=g' j):Rep H (.sl st n g') v:=by
 cases h with
 |sl0 _ _ A cap hc=>exact .sl0 _ _ _ _ hc |sl _ _ _ b off cap c h1 h2 h3 h4 h5 h6=>exact .sl _ _ _ b off cap c h1 h2 (fun i hi=>by simp_all) h4 h5 fun i j s hi e=>h6 i j s hi (by simp_all)
theorem Ed{α:Type}[Row α]{H:Mem}{st n:Nat}{g:Nat->List Sh}{v:Value}(h:Rep H (.sl st n g) v)(hg:okB α n g=aC):Rep H (.sl st n (zH (zJ (α:=α) g))) v:=
 DZ h fun j hj=>J9 hg j hj
def len{α:Type}(l:List α):Nat:=l.length
def fO(g:Nat->List Sh):Nat->List Sh:=zH (zJ (α:=Oj) g)
open Go Go.Sx
theorem zN(a b:Int):zG.lt a b=decide (a<b):=rfl
theorem Dy(a b:Int):zG.le a b=decide (a<=b):=rfl
theorem Ac(a b:Int):zG.eq a b=(a==b):=rfl
theorem AY(a:Int)(n:Nat):zG.inB a n=decide (0<=a/\a<n):=rfl
theorem IE(a:Int)(n:Nat):zG.upTo a n=decide (0<=a/\a<=n):=rfl
theorem Ee(n b:Nat):zG.room n b=decide (n*b<=140737488355328/\n<=maxLen):=rfl
theorem BL(a:Int):zG.toN a=a.toNat:=rfl
theorem Ad(n:Nat):zG.Aa n=(n:Int):=rfl
theorem Cj(n m:Nat):zG.addN n m=n+m:=rfl
theorem abe(n m:Nat):zG.Jb n m=n - m:=rfl
theorem X4(n m:Nat):zG.Z8 n m=decide (n<=m):=rfl
theorem Bh(b:Bool):zG.nt b=!b:=rfl
theorem Dt(a b c:Bool):zG.ite a b c=bif a then b else c:=rfl
theorem X5(a b:List UInt8):zG.seq a b=(a==b):=rfl
theorem CB(a b:Int):zG.add .i64 a b=aU.wrap (a+b):=rfl
theorem L9(a b:Int):zG.sub .i64 a b=aU.wrap (a - b):=rfl
theorem I7(a b:Int):zG.max a b=if b>a then b else a:=rfl
theorem O6(a b:Int):zG.min a b=if b<a then b else a:=rfl
theorem Ef(g:Nat->List Sh)(n:Nat)(h:Nat->List Sh)(i:Nat):zG.snoc g n h i=if i<n then g i else h (i - n):=rfl
theorem BF{a:Int}(h1:-9223372036854775808<=a)(h2:a<=9223372036854775807):aU.wrap a=a:=by
 rw[IntKind.wrap_i64];omega
theorem Gl:ah 1=1:=rfl
theorem maxLen_eq:maxLen=9223372036854775807:=rfl
def AV(n b:Nat):Bool:=zG.room n b
structure BK where
 kind:Int
 num:Int
 q:List Int
 ps:List Pr
 deriving DecidableEq,Inhabited
def Cb(s:BK):List Sh:=[.i .i64 s.kind,.i .i64 s.num,.sl 1 (len s.q) (zH (nth s.q)),.sl 2 (len s.ps) (zH (nth s.ps))]
def BD(d:Nat->BK):Nat->List Sh:=fun j=>Cb (d j)
end Go.Pl
namespace Go.Proofs
open Go.Shelf
def Tryz.lays156_ren:um:=⟨fun|156=>117|165=>147|166=>148|169=>149|240=>171|241=>172|276=>202|277=>203|n=>n,fun|31=>236|9=>9|3=>3|4=>4|0=>0|20=>20|72=>277|76=>121|70=>274|37=>275|75=>46|127=>293|164=>304|5=>5|80=>206|n=>n,fun|n=>n⟩
theorem Tryz.lays156:xE aA Tryz.lays156_ren:={
 mixed:=by kernel_rfl
 f156:=wM.trans (congrArg ak (by kernel_rfl))
 f165:=wP.trans (congrArg ak (by kernel_rfl))
 f166:=wO.trans (congrArg ak (by kernel_rfl))
 f169:=wQ.trans (congrArg ak (by kernel_rfl))
 f240:=wU.trans (congrArg ak (by kernel_rfl))
 f241:=wS.trans (congrArg ak (by kernel_rfl))
 f276:=Tryz.func202.trans (congrArg ak (by kernel_rfl))
 f277:=Tryz.func203.trans (congrArg ak (by kernel_rfl))
 t0:=uo
 a0:=yj
 z0:=xG
 v0:=uZ
 t3:=nV
 a3:=yt
 z3:=xH
 v3:=vg
 t4:=uq
 a4:=yu
 z4:=xI
 v4:=vC
 t9:=kM
 a9:=yw
 z9:=xJ
 v9:=vF
 t20:=sN
 a20:=xK
 z20:=wz
 v20:=uw
 t31:=Tryz.underlying236
 a31:=Tryz.isAgg236
 z31:=Tryz.sizeOf236
 v31:=Tryz.zeroValue236
 t37:=rH
 a37:=wB
 z37:=vU
 v37:=sO
 t70:=Tryz.underlying274
 a70:=Tryz.isAgg274
 z70:=Tryz.sizeOf274
 v70:=Tryz.zeroValue274
 t72:=Tryz.underlying277
 a72:=Tryz.isAgg277
 z72:=Tryz.sizeOf277
 v72:=Tryz.zeroValue277
 t75:=Tryz.underlying46
 a75:=Tryz.isAgg46
 z75:=Tryz.sizeOf46
 v75:=Tryz.zeroValue46
 t76:=Tryz.underlying121
 a76:=Tryz.isAgg121
 z76:=Tryz.sizeOf121
 v76:=Tryz.zeroValue121
 t127:=Tryz.underlying293
 a127:=Tryz.isAgg293
 z127:=Tryz.sizeOf293
 v127:=Tryz.zeroValue293
 t164:=Tryz.underlying304
 a164:=Tryz.isAgg304
 z164:=Tryz.sizeOf304
 v164:=Tryz.zeroValue304}
theorem Tryz.Builder_Extra_156:Builder.Extra aA Tryz.lays156_ren:={
 sizeBuilder:=by kernel_rfl
 liesBuilder:=by kernel_rfl
 t5:=uy
 a5:=yx
 z5:=xM
 v5:=vG
 infoByte:=by kernel_rfl
 cellsByte:=by kernel_rfl
 sizeByte:=by kernel_rfl
 neB5:=by decide}
open Go.RowKit in
theorem Tryz.strings_Join_none(a:Option Addr)(c:Nat)(sep:ByteArray)(w:World):
  Calls aA 117 #[.slice a 0 c,.string sep] w fun e w'=>e=.returned (.string ⟨#[]⟩)/\w'=w:=Any.strings_Join_none Tryz.lays156 Tryz.Builder_Extra_156 a c sep w
open Go.RowKit in
theorem Tryz.strings_Join(bk o c:Nat)(xs:List ByteArray)(sep:ByteArray)(w:World)(hcells:∀(j:Nat) x,xs[j]?=ak x->w.cell? ⟨bk,o+j,aK⟩=ak (.string x))(hbk:bk<w.heap.size)(hN:xs.length<=140737488355328)(hcap:xs.length<=c)(hlen:(Lib.join (xs.map (·.data.toList)) sep.data.toList).length<=140737488355328):
  Calls aA 117 #[.slice (ak ⟨bk,o,aK⟩) xs.length c,.string sep] w fun e w'=>e=.returned (.string ⟨(Lib.join (xs.map (·.data.toList)) sep.data.toList).toArray⟩)/\Below w.heap.size w w':=Any.strings_Join Tryz.lays156 Tryz.Builder_Extra_156 bk o c xs sep w hcells hbk hN hcap hlen
def Tryz.laysM171_ren:um:=⟨fun|171=>170|243=>201|246=>209|283=>211|284=>212|285=>213|286=>214|129=>217|317=>216|318=>218|319=>219|320=>220|337=>221|338=>222|n=>n,fun|3=>3|9=>9|2=>2|4=>4|171=>314|0=>0|53=>315|37=>275|5=>5|173=>318|212=>322|51=>323|20=>20|213=>324|46=>151|232=>327|233=>328|n=>n,fun|17=>23|18=>24|19=>25|n=>n⟩
theorem Tryz.laysM171:wC aA Tryz.laysM171_ren:={
 mixed:=by kernel_rfl
 f129:=wX.trans (congrArg ak (by kernel_rfl))
 f171:=wR.trans (congrArg ak (by kernel_rfl))
 f243:=wV.trans (congrArg ak (by kernel_rfl))
 f246:=wW.trans (congrArg ak (by kernel_rfl))
 f283:=xg.trans (congrArg ak (by kernel_rfl))
 f284:=wZ.trans (congrArg ak (by kernel_rfl))
 f285:=xk.trans (congrArg ak (by kernel_rfl))
 f286:=wY.trans (congrArg ak (by kernel_rfl))
 f317:=xq.trans (congrArg ak (by kernel_rfl))
 f318:=xA.trans (congrArg ak (by kernel_rfl))
 f319:=xw.trans (congrArg ak (by kernel_rfl))
 f320:=xu.trans (congrArg ak (by kernel_rfl))
 f337:=xC.trans (congrArg ak (by kernel_rfl))
 f338:=xB.trans (congrArg ak (by kernel_rfl))
 t0:=uo
 a0:=yj
 z0:=xG
 v0:=uZ
 t2:=Tryz.underlying2
 a2:=Tryz.isAgg2
 z2:=Tryz.sizeOf2
 v2:=Tryz.zeroValue2
 t3:=nV
 a3:=yt
 z3:=xH
 v3:=vg
 t4:=uq
 a4:=yu
 z4:=xI
 v4:=vC
 t5:=uy
 a5:=yx
 z5:=xM
 v5:=vG
 t9:=kM
 a9:=yw
 z9:=xJ
 v9:=vF
 t20:=sN
 a20:=xK
 z20:=wz
 v20:=uw
 t37:=rH
 a37:=wB
 z37:=vU
 v37:=sO
 t46:=Tryz.underlying151
 a46:=Tryz.isAgg151
 z46:=Tryz.sizeOf151
 v46:=Tryz.zeroValue151
 t51:=Tryz.underlying323
 a51:=Tryz.isAgg323
 z51:=Tryz.sizeOf323
 v51:=Tryz.zeroValue323
 t53:=Tryz.underlying315
 a53:=Tryz.isAgg315
 z53:=Tryz.sizeOf315
 v53:=Tryz.zeroValue315
 t171:=Tryz.underlying314
 a171:=Tryz.isAgg314
 z171:=Tryz.sizeOf314
 v171:=Tryz.zeroValue314
 t173:=Tryz.underlying318
 a173:=Tryz.isAgg318
 z173:=Tryz.sizeOf318
 v173:=Tryz.zeroValue318
 t212:=Tryz.underlying322
 a212:=Tryz.isAgg322
 z212:=Tryz.sizeOf322
 v212:=Tryz.zeroValue322
 t213:=Tryz.underlying324
 a213:=Tryz.isAgg324
 z213:=Tryz.sizeOf324
 t232:=Tryz.underlying327
 a232:=Tryz.isAgg327
 z232:=Tryz.sizeOf327
 v232:=Tryz.zeroValue327
 t233:=Tryz.underlying328
 a233:=Tryz.isAgg328
 z233:=Tryz.sizeOf328
 v233:=Tryz.zeroValue328
 g17:=by kernel_rfl
 g18:=by kernel_rfl
 g19:=by kernel_rfl
 i0:=by kernel_rfl
 i2:=by kernel_rfl
 i3:=by kernel_rfl
 i4:=by kernel_rfl
 i5:=by kernel_rfl
 i9:=by kernel_rfl
 i20:=by kernel_rfl
 i37:=by kernel_rfl
 i46:=by kernel_rfl
 i51:=by kernel_rfl
 i53:=by kernel_rfl
 i171:=by kernel_rfl
 i173:=by kernel_rfl
 i212:=by kernel_rfl
 i232:=by kernel_rfl
 i233:=by kernel_rfl
 m17:=by kernel_rfl
 m18:=by kernel_rfl
 m19:=by kernel_rfl}
open Go.RowKit Go.Sort Go.Lib in
theorem Tryz.strconv_Itoa(n:Int)(h0:-9223372036854775808<=n)(h1:n<=9223372036854775807)(w:World)(htab:vH aA w "internal/strconv.uint64pow10" .u64 pW) :
  Calls aA 170 #[.int .i64 n] w fun e w'=>e=.returned (.string ⟨(Lib.itoa n).toArray⟩)/\∃k os,w'=grow (w.drewN k) os:=Any.strconv_Itoa Tryz.laysM171 n h0 h1 w htab
end Go.Proofs
namespace Go.Pl
open Go Go.Sx
def Am(n:Int):List UInt8:=Go.Lib.itoa n
def CG(l:List (List UInt8))(sep:List UInt8):List UInt8:=Go.Lib.join l sep
def BR(n:Int):Bool:=decide (-9223372036854775808<=n/\n<=9223372036854775807)
def Hw(l:List UInt8):Bool:=decide (l.length<=140737488355328)
end Go.Pl
namespace Go.Proofs
open Go Go.Sx Go.Pl Go.RowKit Go.Sort Go.Lib
theorem alU{H:Mem}{k:IntKind}{n:Int}{v:Value}(h:Rep H (.i k n) v):v=.int k n:=by cases h;rfl
theorem agQ{H:Mem}{l:List UInt8}{v:Value}(h:Rep H (.str l) v):v=.string ⟨l.toArray⟩:=by cases h;rfl
theorem acI(w:World)(k:Nat)(os:Array Obj):Below w.heap.size w (grow (w.drewN k) os):=
 ⟨rfl,rfl,rfl,by show w.heap.size<=(w.heap++os).size;rw[Array.size_append];omega,fun j hj=>by
  show (w.heap++os)[j]?=w.heap[j]?;rw[Array.getElem?_append_left hj]⟩
theorem awn{H:Mem}{w:World}(on:H.on w)(hg:BU (Ar W7) H):vH aA w "internal/strconv.uint64pow10" .u64 pW:=by
 obtain ⟨⟨cs,e,f,h1,h2⟩,c,h3,h4⟩:EX H 23 (.zQ (pow10.map (aT .u64))):=hg.at_ 23 _ (by rfl);have hgl:aA.globalNamed "internal/strconv.uint64pow10" = ak 23:=by kernel_rfl
 unfold vH World.var?;rw[hgl];simp only[Option.bind_some];rw[on _ _ h1];simp only[jL];apply Array.ext
 ·rw[h2];rfl
 ·intro i hi hi2
  have hi':i<(pow10.map (aT .u64)).length:=by rw[<-h2];exact hi
  obtain ⟨q1,_⟩:=h3 i hi';have q3:cs[i]?=ak (c i):=by simpa[hcell,h1] using q1
  have hip:i<pow10.length:=by simpa using hi'
  have q4:=h4 i (.i .u64 pow10[i]) (by rw[List.getElem?_map,List.getElem?_eq_getElem hip];rfl);have q5:c i=.int .u64 pow10[i]:=alU q4;rw[Array.getElem?_eq_getElem hi] at q3;rw[dw q3,q5];have e:pW=pow10:=by decide
  simp[e]
def F92:List Sh->Tree Sh
 |[.i .i64 n]=>.need (BR n) (.leaf (.str (Am n))) |_=>.fail
theorem O92:zZ aA (Ar W7) 170 F92:=Y4 fun H w Aq args φ on hg hr h=>by
 unfold F92 at h;split at h
 ·obtain ⟨h1,h2⟩:=h
  match args,hr with
  |[v],⟨hv,_⟩=>
   cases hv;have h1:=of_decide_eq_true h1;exact ⟨_,_,h2,fun _=>rfl,fun _=>.str _,(Tryz.strconv_Itoa _ h1.1 h1.2 w (awn on hg)).mono fun e w' ⟨he,k,os,hw⟩=>⟨he,by rw[hw];exact acI w k os⟩⟩
 ·exact h.elim
def F56:List Sh->Tree Sh
 |[.sl 1 n g,.str sep]=>.need (okB (List UInt8) n g) (.need (AV n 16) (.need (Hw (CG (lst (List UInt8) n g) sep)) (.leaf (.str (CG (lst (List UInt8) n g) sep))))) |_=>.fail
theorem O56:zZ aA (Ar W7) 117 F56:=Y4 fun H w Aq args φ on hg hr h=>by
 unfold F56 at h;split at h
 ·rename_i n g sep
  obtain ⟨h1,h2,h3,h4⟩:=h;match args,hr with
  |[v,u],⟨hv,hu,_⟩=>
   cases hu;have h3:=of_decide_eq_true h3;refine ⟨_,_,h4,fun _=>rfl,fun _=>.str _,?_⟩;cases hv with
   |sl0 _ _ A cap hc=>
    refine (Tryz.strings_Join_none A cap ⟨sep.toArray⟩ w).mono fun e w' ⟨he,hw⟩=>⟨?_,hw ▸ yA _ _⟩;rw[he];rfl
   |sl _ _ _ b off cap c q1 q2 q3 q4 q5 q6=>
    have hs:∀i,i<n->c i 0=.string ⟨(zJ (α:=List UInt8) g i).toArray⟩:=fun i hi=>
     agQ (q6 i 0 (.str (zJ (α:=List UInt8) g i)) hi (by rw[J9 h1 i hi];rfl))
    have hcell:∀i,i<n->w.cell? ⟨b,off+i,aK⟩=ak (.string ⟨(zJ (α:=List UInt8) g i).toArray⟩):=fun i hi=>by
     have:=LW on (q4 i 0 hi (by decide));simpa[hs i hi] using this
    by_cases hn:n=0
    ·subst hn
     refine (Tryz.strings_Join_none _ cap ⟨sep.toArray⟩ w).mono fun e w' ⟨he,hw⟩=>⟨?_,hw ▸ yA _ _⟩;rw[he];rfl
    have hb:b<w.heap.size:=by
     have:=hcell 0 (by omega);unfold World.cell? at this;cases hq:w.heap[b]? with
     |none=>simp[hq] at this |some o=>exact (bK.1 hq).1
    have hl:(((lst (List UInt8) n g).map fun l=>(⟨l.toArray⟩:ByteArray)).map (·.data.toList))=lst (List UInt8) n g:=by
     rw[List.map_map];simp[Function.comp_def]
    have hlen:((lst (List UInt8) n g).map fun l=>(⟨l.toArray⟩:ByteArray)).length=n:=by simp
    have:=Tryz.strings_Join b off cap ((lst (List UInt8) n g).map fun l=>(⟨l.toArray⟩:ByteArray)) ⟨sep.toArray⟩ w (fun j x hx=>by
     have hj:j<n:=by
      have:=(List.getElem?_eq_some_iff.1 hx).1;simpa using this
     rw[hcell j hj];simp[lst,hj] at hx;rw[<-hx]) hb (by rw[hlen];have:=of_decide_eq_true h2;omega) (by rw[hlen];exact q1) (by rw[hl];exact h3)
    rw[hl,hlen] at this;exact this
 ·exact h.elim
end Go.Proofs
namespace Go.Sx
mutual
def Wk:Sh->Sh->Prop
 | .os _ st n g,s'=>match s' with
  | .sl st' n' g'=>(n=0/\n'=0)\/(st=st'/\n=n'/\∀i,i<n->g i=g' i) |_=>False
 | .sl st n g,s'=>match s' with
  | .sl st' n' g'=>(n=0/\n'=0)\/(st=st'/\n=n'/\∀i,i<n->g i=g' i) |_=>False
 | .agg l,s'=>match s' with
  | .agg l'=>Nu l l' |_=>False
 | .zQ l,s'=>match s' with
  | .zQ l'=>Nu l l' |_=>False
 | .b x,s'=>s'=.b x\/s'=.v (.bool x) |s,s'=>s=s'
def Nu:List Sh->List Sh->Prop
 |[],[]=>True |x::l,y::r=>Wk x y/\Nu l r |_,_=>False
end
theorem Na{H:Mem}{st n:Nat}{g:Nat->List Sh}{v:Value}(h:Rep H (.sl st n g) v){st' n':Nat}{g':Nat->List Sh}(hw:(n=0/\n'=0)\/(st=st'/\n=n'/\∀i,i<n->g i=g' i)):Rep H (.sl st' n' g') v:=by
 rcases hw with ⟨rfl,rfl⟩ |⟨rfl,rfl,hg⟩
 ·cases h with
  |sl0 _ _ A cap hc=>exact .sl0 _ _ _ _ hc |sl _ _ _ b off cap c h1 h2 h3 h4 h5 h6=>exact .sl0 _ _ _ _ h2
 ·cases h with
  |sl0 _ _ A cap hc=>exact .sl0 _ _ _ _ hc |sl _ _ _ b off cap c h1 h2 h3 h4 h5 h6=>exact .sl _ _ _ b off cap c h1 h2 (fun i hi=>by simp_all) h4 h5 fun i j s hi e=>h6 i j s hi (by simp_all)
mutual
theorem aeK{H:Mem}:∀(s s':Sh) (b b':Nat) (v:Value),Wk s s'->Den H KW (BP (WU s) b).1 v->Den H KW (BP s' b').1 v/\(BP s' b').2=([],b')
 | .os e st n g,s',b,b',v,hw,h=>by
  cases s'<;>simp only[Wk] at hw
  rename_i st' n' g';exact ⟨Na (show Rep H (.sl st n g) v from h) hw,rfl⟩
 | .sl st n g,s',b,b',v,hw,h=>by
  cases s'<;>simp only[Wk] at hw
  rename_i st' n' g';exact ⟨Na (show Rep H (.sl st n g) v from h) hw,rfl⟩
 | .agg l,s',b,b',v,hw,h=>by
  cases s'<;>simp only[Wk] at hw
  rename_i l';obtain ⟨vs,rfl,h⟩:=h;obtain ⟨q1,q2⟩:=abf l l' b b' vs.toList hw h;exact ⟨⟨vs,rfl,q1⟩,q2⟩
 | .zQ l,s',b,b',v,hw,h=>by
  cases s'<;>simp only[Wk] at hw
  rename_i l';obtain ⟨vs,rfl,h⟩:=h;obtain ⟨q1,q2⟩:=abf l l' b b' vs.toList hw h;exact ⟨⟨vs,rfl,q1⟩,q2⟩
 | .b x,s',b,b',v,hw,h=>by
  simp only[Wk] at hw;rcases hw with rfl|rfl
  ·exact ⟨h,rfl⟩
  ·exact ⟨h,rfl⟩
 | .i k n,s',b,b',v,hw,h=>by simp only[Wk] at hw;subst hw;exact ⟨h,rfl⟩ | .v x,s',b,b',v,hw,h=>by simp only[Wk] at hw;subst hw;exact ⟨h,rfl⟩ | .str l,s',b,b',v,hw,h=>by simp only[Wk] at hw;subst hw;exact ⟨h,rfl⟩ | .BM t x,s',b,b',v,hw,h=>by simp only[Wk] at hw;subst hw;exact ⟨h,rfl⟩ | .fn f l,s',b,b',v,hw,h=>by simp only[Wk] at hw;subst hw;exact ⟨h,rfl⟩ | .er g T,s',b,b',v,hw,h=>by simp only[Wk] at hw;subst hw;exact ⟨h,rfl⟩ | .pt l,s',b,b',v,hw,h=>by simp only[Wk] at hw;subst hw;exact ⟨h,rfl⟩
theorem abf{H:Mem}:∀(l l':List Sh) (b b':Nat) (vs:List Value),Nu l l'->zO H KW (DU (WV l) b).1 vs->zO H KW (DU l' b').1 vs/\(DU l' b').2=([],b')
 |[],[],_,_,[],_,_=>⟨trivial,rfl⟩ |[],_::_,_,_,_,hw,_=>by simp[Nu] at hw |_::_,[],_,_,_,hw,_=>by simp[Nu] at hw |[],[],_,_,_::_,_,h=>h.elim |_::_,_::_,_,_,[],_,h=>h.elim |x::l,y::r,b,b',v::vs,hw,h=>by
  simp only[Nu] at hw;obtain ⟨h1,h2⟩:=h;obtain ⟨q1,q2⟩:=aeK x y b b' v hw.1 h1;obtain ⟨q3,q4⟩:=abf l r _ b' vs hw.2 h2;simp only[DU];rw[q2];simp only[kW];exact ⟨⟨q1,q3⟩,q4⟩
end
mutual
theorem adr:∀(s:Sh) (b:Nat),Ij (BP (WU s) b).1=aC
 | .os _ _ _ _,_=>rfl | .agg l,b=>by simpa[WU,BP,Ij] using U4 l b | .zQ l,b=>by simpa[WU,BP,Ij] using U4 l b | .i _ _,_=>rfl | .b _,_=>rfl | .v x,_=>X0 x | .str _,_=>rfl | .sl _ _ _,_=>rfl | .BM _ _,_=>rfl | .fn f l,_=>agN f l | .er _ _,_=>rfl | .pt _,_=>rfl
theorem U4:∀(l:List Sh) (b:Nat),KN (DU (WV l) b).1=aC
 |[],_=>rfl |x::r,b=>by simp[WV,DU,KN,adr x b,U4 r]
end
theorem CV.wk{H:Mem}{w:World}{s s':Sh}{v:Value}{H':Mem}{w':World}(r:CV H w s v H' w')(hw:Wk s s'):∃H2,CV H w s' v H2 w':=by
 obtain ⟨H2,r⟩:=r.WU;obtain ⟨E1,h1,h2,h3,h4⟩:=r.res 0;have hd0:Den H2 KW (BP (Go.Sx.WU s) 0).1 v:=L8 (E:=E1) (adr s 0) h3;refine ⟨H2,r.H7,r.on,r.os,r.tape,r.output,r.size,r.old,r.fresh,fun b0=>⟨KW,fun i hi=>(hi rfl).elim,fun i b hb=>by simp[bk,KW] at hb,(aeK s s' 0 b0 v hw hd0).1,?_⟩⟩;rw[(aeK s s' 0 b0 v hw hd0).2];exact O4
def up(φ:Sh->Prop)(s:Sh):Prop:=∃s',Wk s s'/\φ s'
def AX:Nat->Bool:=fun _=>ay
section
variable{P:Program}{C:Ctx}
theorem agS(hC:Az P C){g:Nat}{fn:Func}(hfn:C.fns.get g=ak fn)(hb:fn.body.isSome=aC){H:Mem}{w:World}{C9:List Sh}{args:List Value}{φ:Sh->Prop}{L:Nat}(hon:H.on w)(hg:BU C.gls H)(hr:CU H C9 args)
  (hgo:Aw P C (K0 H w) g [.code []] (zL fn.ntmps C9 L) [] emp φ):Calls P g args.toArray w fun e w'=>∃v s H',e=.returned v/\φ s/\CV H w s v H' w':=by
 obtain ⟨body,hbody⟩:=eF.1 hb;have hP:=hC.fn g fn hfn;intro cs;let a:Act:={tmps:=args.toArray++Array.replicate (fn.ntmps - args.toArray.size) undef,defers:=[]}
 have hlen:=hr.length;have st:St C (K0 H w) H E0 w (zL fn.ntmps C9 L) a:=by
  refine ⟨?_,⟨fun _ _ h=>by simp[zL,zI] at h,fun _ _ _ _ _ h=>by simp[zL,zI] at h⟩,⟨rfl,rfl,rfl,bV _,fun _ _ _=>rfl,hon,fun _ _ h=>h,fun _ h=>.inl h⟩,fun _ _ _=>rfl,hg,rfl⟩;have:a.tmps.toList=args++dL (fn.ntmps - C9.length) undef:=by simp[a,hlen]
  rw[this];exact (IW hr).append (zO.any _ _ (by simp))
 have hit:BA (zS fn) [.code []] [.code body]:=by
  have:=BA.code (body:=zS fn) [] BA.nil;simp_all [Ai,zS]
 obtain ⟨a',w',v,s,H',todo,fn0,q0,q1,q2,q3,q4,q5⟩:=hgo H E0 w a [.code body] [] cs fn hfn st hit trivial WA;exact ⟨.returned v,w',_,⟨v,s,H',rfl,q3,q4⟩,by rw[Ku hP hbody];exact q1,rfl,rfl,q2,rfl,fn,hP,by cases hfn.symm.trans q0;exact q5⟩
theorem Fa(hC:Az P C){g:Nat}{fn:Func}{F:List Sh->Tree Sh}(hfn:C.fns.get g=ak fn)(hb:fn.body.isSome=aC)
  (h:∀(H:Mem) (w:World) (Aq:List Sh) (args:List Value) (φ:Sh->Prop),CU H Aq args->(F Aq).All φ->∃C9:List Sh,CU H C9 args/\∃L,Aw P C (K0 H w) g [.code []] (zL fn.ntmps C9 L) [] emp (up φ)):zZ P C.gls g F:=by
 intro H w Aq args φ hon hg hr hφ;obtain ⟨C9,hr',L,hgo⟩:=h H w Aq args φ hr hφ;refine (agS hC hfn hb hon hg hr' hgo).mono fun e w' ⟨v,s,H',he,⟨s',hw,hs⟩,r⟩=>?_;obtain ⟨H2,r2⟩:=r.wk hw;grind
theorem Dl(hC:Az P C)(hF:AU P C){m n g L:Nat}{fn:Func}{F:List Sh->Tree Sh}(hfn:C.fns.get g=ak fn)(hb:fn.body.isSome=aC)
  (h:∀(H:Mem) (w:World) (Aq:List Sh) (args:List Value) (φ:Sh->Prop),CU H Aq args->(F Aq).All φ->∃C9:List Sh,CU H C9 args/\(AA C AX m n g [.code []] (zL fn.ntmps C9 L) [] []).All (H8 P C (K0 H w) [] emp (up φ))):zZ P C.gls g F:=
 Fa hC hfn hb fun H w Aq args φ hr hφ=>let ⟨C9,hr',ha⟩:=h H w Aq args φ hr hφ;⟨C9,hr',L,Gv hC hF ha⟩
end
end Go.Sx
namespace Go.Proofs
open Go Go.Sx Go.Pl
def Ik:List It:=[bF [0,1,0,1,1],bZ 0,bF [1,1,1]]
def WX:List It:=[bF [0,0,1,0,1,1],bF [0,1,0,1,1],bZ 0,bF [1,1,1]]
end Go.Proofs
namespace Go.Pl
open Go Go.Sx
def ai0{α:Type}[DecidableEq α](a b:List α):Bool:=decide (a=b)
end Go.Pl
namespace Go.Proofs
open Go Go.Sx Go.Pl
def F13:List Sh->Tree Sh
 |[.sl 1 n g]=>.need (okB Int n g) (.need (AV n 8) (.leaf (.os 3 1 n (zH (zJ (α:=Int) g))))) |_=>.fail
end Go.Proofs
namespace Go.Pl
open Go Go.Sx
def Ak:Sh->Option Int
 | .i .i64 c=>ak c | .v (.int .i64 c)=>ak c |_=>aK
def D8(c:Int):List UInt8:=if c=1 then Go.Proofs.W7 16 0 else if c=2 then Go.Proofs.W7 16 1 else if c=3 then Go.Proofs.W7 16 2 else if c=4 then Go.Proofs.W7 16 3 else []
end Go.Pl
namespace Go.Proofs
open Go Go.Sx Go.Pl
def F58:List Sh->Tree Sh
 |[t,s]=>match Ak t,Ak s with
  |some b,ak c=>.need (b==1) (.need (BR c) (.leaf (.str (D8 c)))) |_,_=>.fail
 |_=>.fail
def CO:Nat->Option (List Sh->Tree Sh)
 |170=>ak F92 |117=>ak F56 |122=>ak F58 |_=>aK
theorem a65(A:Prim)(W:Wd)(k i:Int):AA (C7 A W CO zW) AX 300 400 99 [.code []] (zL 36 [.agg [.i .i64 k,.i .i64 i]] L0) [] []=aF (A.eq k (ah 1)) (aH aC (aH (BR k) (aF (A.seq (D8 k) []) (aB (aS (aW 7 329))) (aF (A.lt i (dZ 999999999)) (aB (aS (aW 7 329))) (aF (A.lt (ah 1000000000) i) (aB (aS (aW 7 329))) (aB (aS (iW bG)))))))) (aH aC (aH (BR k) (aF (A.seq (D8 k) []) (aB (aS (aW 7 329))) (aF (A.lt i (dZ 999999999)) (aB (aS (aW 7 329))) (aF (A.lt (ah 1000000000) i) (aB (aS (aW 7 329))) (aF (A.nt (A.eq k (ah 2))) (aF (A.nt (A.eq i (ah 0))) (aB (aS (aW 7 329))) (aB (aS (iW bG)))) (aB (aS (iW bG))))))))):=by kernel_rfl
theorem a50(A:Prim)(W:Wd)(n a b:Nat)(g h l:Nat->List Sh)(x y:Int):AA (C7 A W CO zW) AX 300 400 96 [.code []] (zL 11 [.agg [.sl 4 n g],.agg [.i .i64 x,.i .i64 y,.sl 1 a h,.sl 2 b l]] L0) [] []=aH (A.le (ah 0) (A.Aa n)) (aH (A.room (A.toN (A.Aa n)) 64) (aH (A.room (A.addN 0 n) 64) (aH (A.room (A.addN (A.addN 0 n) 1) 64) (aH (A.le (ah 0) (A.Aa n)) (aH (A.room (A.toN (A.Aa n)) 64) (aH (A.room (A.addN 0 n) 64) (aH (A.room (A.addN (A.addN 0 n) 1) 64) (Tree.must [aP (aI 4 n g) (aI 4 n g),aj x x,aj y y,aP (aI 1 a h) (aI 1 a h),aP (aI 2 b l) (aI 2 b l),aP (aI 4 n g) (aI 4 n g),aj x x,aj y y,aP (aI 1 a h) (aI 1 a h),aP (aI 2 b l) (aI 2 b l),aj x x,aj y y,aP (aI 1 a h) (aI 1 a h),aP (aI 2 b l) (aI 2 b l),aJ (A.addN (A.addN 0 n) 1) (A.addN (A.addN 0 n) 1),AQ.Nz (A.snoc (A.snoc (fun _=>[]) 0 g) (A.addN 0 n) (Af [[aT .i64 x,aT .i64 y,aI 1 a h,aI 2 b l]])) (A.snoc (A.snoc (fun _=>[]) 0 g) (A.addN 0 n) (Af [[aT .i64 x,aT .i64 y,aI 1 a h,aI 2 b l]]))] (aB (aS (bP [iK 211 4 (A.addN (A.addN 0 n) 1) (A.snoc (A.snoc (fun _=>[]) 0 g) (A.addN 0 n) (Af [[aT .i64 x,aT .i64 y,aI 1 a h,aI 2 b l]]))]))))))))))):=by kernel_rfl
theorem a33(A:Prim)(W:Wd)(n:Nat)(d:Nat->BK)(i:Int):AA (C7 A W CO zW) AX 300 400 119 [.code []] (zL 12 [.agg [.sl 4 n (BD d)],.i .i64 i] L0) [] []=aF (A.lt i (ah 0)) (aB (aS (bT [bP [aT .i64 (ah 0),aT .i64 (ah 0),aI 0 0 fun _=>[],aI 0 0 fun _=>[]],gG ay]))) (aF (A.le (A.Aa n) i) (aB (aS (bT [bP [aT .i64 (ah 0),aT .i64 (ah 0),aI 0 0 fun _=>[],aI 0 0 fun _=>[]],gG ay]))) (aH (A.inB i n) (aB (aS (bT [bP [aT .i64 (d (A.toN i)).kind,aT .i64 (d (A.toN i)).num,aI 1 (len (d (A.toN i)).q) (zH (nth (d (A.toN i)).q)),aI 2 (len (d (A.toN i)).ps) (zH (nth (d (A.toN i)).ps))],gG aC]))))):=by kernel_rfl
theorem a54(A:Prim)(W:Wd)(n a b:Nat)(g h l:Nat->List Sh)(i x y:Int):AA (C7 A W CO zW) AX 300 400 121 [.code []] (zL 27 [.agg [.sl 4 n g],.i .i64 i,.agg [.i .i64 x,.i .i64 y,.sl 1 a h,.sl 2 b l]] L0) [] []=aF (A.lt i (ah 0)) (aB (aS (bP [aI 4 n g]))) (aF (A.le (A.Aa n) i) (aB (aS (bP [aI 4 n g]))) (aH (A.le (ah 0) (A.Aa n)) (aH (A.room (A.toN (A.Aa n)) 64) (aH (A.room (A.addN 0 n) 64) (aH (A.inB i (A.addN 0 n)) (aB (aS (bP [iK 211 4 (A.addN 0 n) (A.upd (A.snoc (fun _=>[]) 0 g) (A.toN i) 0 [aT .i64 x,aT .i64 y,aI 1 a h,aI 2 b l])])))))))):=by kernel_rfl
theorem a64(A:Prim)(W:Wd)(n:Nat)(g:Nat->List Sh):AA (C7 A W CO zW) AX 300 400 118 [.code []] (zL 10 [.agg [.sl 4 n g]] L0) [] []=aH (A.le (ah 0) (A.Aa n)) (aH (A.room (A.toN (A.Aa n)) 64) (aH (A.room (A.addN 0 n) 64) (aB (aS (iK 211 4 (A.addN 0 n) (A.snoc (fun _=>[]) 0 g)))))):=by kernel_rfl
theorem a59(A:Prim)(W:Wd)(x:Int):AA (C7 A W CO zW) AX 300 400 145 [.code []] (zL 5 [.i .i64 x] L0) [] []=aH (BR x) (aB (aS (bU (Am x)))):=by kernel_rfl
theorem a60(A:Prim)(W:Wd)(n:Nat)(g:Nat->List Sh):AA (C7 A W CO zW) AX 300 400 146 [.code []] (zL 5 [.sl 1 n g] L0) [] []=aH (okB (List UInt8) n g) (aH (AV n 16) (aH (Hw (CG (lst (List UInt8) n g) [32])) (aB (aS (bU (CG (lst (List UInt8) n g) [32])))))):=by kernel_rfl
theorem a66(A:Prim)(W:Wd)(x:Int):AA (C7 A W CO zW) AX 300 400 102 [.code []] (zL 17 [.i .i64 x] L0) [] []=aF (A.eq x (ah 1)) (aB (aS (aT .i64 (ah 1)))) (aF (A.eq x (ah 2)) (aB (aS (aT .i64 (ah 1)))) (aF (A.eq x (ah 3)) (aB (aS (aT .i64 (ah 2)))) (aF (A.eq x (ah 4)) (aB (aS (aT .i64 (ah 2)))) (aF (A.eq x (ah 5)) (aB (aS (aT .i64 (ah 3)))) (aF (A.eq x (ah 6)) (aB (aS (aT .i64 (ah 3)))) (aF (A.eq x (ah 7)) (aB (aS (aT .i64 (ah 4)))) (aF (A.eq x (ah 8)) (aB (aS (aT .i64 (ah 4)))) (aF (A.eq x (ah 9)) (aB (aS (aT .i64 (ah 4)))) (aB (aS (aT .i64 (ah 0)))))))))))):=by kernel_rfl
theorem a67(A:Prim)(W:Wd)(x:Int):AA (C7 A W CO zW) AX 300 400 151 [.code []] (zL 13 [.i .i64 x] L0) [] []=aF (A.eq x (ah 7)) (aB (aS (gG aC))) (aF (A.eq x (ah 8)) (aB (aS (gG aC))) (aB (aS (gG (A.eq x (ah 9)))))):=by kernel_rfl
theorem a68(A:Prim)(W:Wd)(x:Int):AA (C7 A W CO zW) AX 300 400 152 [.code []] (zL 17 [.i .i64 x] L0) [] []=aF (A.eq x (ah 2)) (aB (aS (gG aC))) (aF (A.eq x (ah 3)) (aB (aS (gG aC))) (aF (A.eq x (ah 5)) (aB (aS (gG aC))) (aB (aS (gG (A.eq x (ah 7))))))):=by kernel_rfl
theorem a69(A:Prim)(W:Wd)(k x y:Int):AA (C7 A W CO zW) AX 300 400 153 [.code []] (zL 27 [.i .i64 k,.i .i64 x,.i .i64 y] L0) [] []=aF (A.eq k (ah 2)) (aF (A.lt x (ah 0)) (aB (aS (gG aC))) (aF (A.lt (ah 1000) x) (aB (aS (gG aC))) (aF (A.lt y (dZ 999999999999999)) (aB (aS (gG aC))) (aB (aS (gG (A.lt (ah 1000000000000000) y))))))) (aF (A.lt x (ah 0)) (aB (aS (gG aC))) (aF (A.lt (ah 1000) x) (aB (aS (gG aC))) (aF (A.lt y (dZ 999999999)) (aB (aS (gG aC))) (aB (aS (gG (A.lt (ah 1000000000) y))))))):=by kernel_rfl
theorem w58(A:Prim)(W:Wd)(c:Int):AA (C7 A W noSpec zW) AX 300 400 122 [.code []] (zL 16 [.v (.int .i64 1),.i .i64 c] L0) [] []=aF (A.lt (A.sub .i64 (A.max c (ah 0)) (ah 1)) (ah 0)) (aB (aS (bU []))) (aF (A.le (ah 4) (A.sub .i64 (A.max c (ah 0)) (ah 1))) (aB (aS (bU []))) (aH (A.inB (A.sub .i64 (A.max c (ah 0)) (ah 1)) 4) (aF (A.eq (A.sub .i64 (A.max c (ah 0)) (ah 1)) (ah 0)) (aB (aS (bU (W 16 0)))) (aF (A.eq (A.sub .i64 (A.max c (ah 0)) (ah 1)) (ah 1)) (aB (aS (bU (W 16 1)))) (aF (A.eq (A.sub .i64 (A.max c (ah 0)) (ah 1)) (ah 2)) (aB (aS (bU (W 16 2)))) (aF (A.eq (A.sub .i64 (A.max c (ah 0)) (ah 1)) (ah 3)) (aB (aS (bU (W 16 3)))) cO)))))):=by kernel_rfl
end Go.Proofs
namespace Go.Pl
open Go Go.Sx
theorem le0(n:Nat):zG.le (ah 0) (zG.Aa n)=aC:=by rfl
theorem Nb(n:Nat):zG.toN (zG.Aa n)=n:=rfl
theorem Hg(n:Nat):zG.addN 0 n=n:=iw n
theorem abg(n m:Nat):zG.addN n m=n+m:=rfl
theorem JQ(h g:Nat->List Sh):zG.snoc h 0 g=g:=by
 rfl
theorem Ky{n m b:Nat}(h:AV n b=aC)(hm:m<=n):AV m b=aC:=by
 have:=of_decide_eq_true (show decide (n*b<=140737488355328/\n<=maxLen)=aC from h);have h2:m*b<=n*b:=dG b hm;exact decide_eq_true (show m*b<=140737488355328/\m<=maxLen from ⟨by omega,by omega⟩)
theorem AB{φ:Sh->Prop}{s s':Sh}(hw:Wk s s')(h:φ s'):up φ s:=⟨s',hw,h⟩
def FQ(n:Nat)(g:Nat->List Sh)(r:List Sh):Nat->List Sh:=fun j=>if j<n then g j else r
theorem ads{n:Nat}{g:Nat->List Sh}{r:List Sh}:∀j,j<n+1->zG.snoc g n (Af [r]) j=FQ n g r j:=fun j hj=>by
 rw[Ef];unfold FQ;split
 ·rfl
 ·have:j=n:=by omega
  subst this;rw[pF];rfl
def Jm(n:Nat)(i:Int):Bool:=decide (0<=i/\i<n)
def RN(n:Nat)(g:Nat->List Sh)(i:Int)(r:List Sh):Nat->List Sh:=fun j=>if Jm n i=aC/\j=i.toNat then r else g j
noncomputable def stB(n:Nat)(g:Nat->List Sh):Bool:=@decide (∃d:Nat->BK,∀j,j<n->g j=Cb (d j)) (aX _)
noncomputable def DN(n:Nat)(g:Nat->List Sh):Nat->BK:=@dite _ (∃d:Nat->BK,∀j,j<n->g j=Cb (d j)) (aX _) (fun h=>h.choose) fun _ _=>⟨0,0,[],[]⟩
theorem Qi{n:Nat}{g:Nat->List Sh}(h:stB n g=aC):∀j,j<n->g j=BD (DN n g) j:=by
 unfold stB at h;have h:=@of_decide_eq_true _ (aX _) h;unfold DN;rw[dif_pos h];exact h.choose_spec
theorem abh(n:Nat)(d:Nat->BK):stB n (BD d)=aC:=by unfold stB;exact @decide_eq_true _ (aX _) ⟨d,fun _ _=>rfl⟩
theorem akB{n:Nat}{g:Nat->List Sh}{d:Nat->BK}(h:∀j,j<n->g j=Cb (d j)):stB n g=aC:=by unfold stB;exact @decide_eq_true _ (aX _) ⟨d,h⟩
theorem alX{α:Type}[Row α]{l m:List α}{st:Nat}(h:aI st (len l) (zH (nth l))=aI st (len m) (zH (nth m))):l=m:=by
 simp only[Sh.sl.injEq,true_and] at h;obtain ⟨h1,h2⟩:=h;rw[<-Kw l,<-Kw m];have h1:l.length=m.length:=h1;rw[h1,h2]
theorem TA{s t:BK}(h:Cb s=Cb t):s=t:=by
 obtain ⟨a,b,c,d⟩:=s;obtain ⟨a',b',c',d'⟩:=t;simp only[Cb,oU,Sh.i.injEq,true_and,and_true] at h;grind [alX]
theorem aog{n:Nat}{d:Nat->BK}:∀j,j<n->DN n (BD d) j=d j:=fun j hj=>TA (Qi (abh n d) j hj).symm
theorem akC{n:Nat}{g:Nat->List Sh}{d:Nat->BK}(h:∀j,j<n->g j=Cb (d j)):∀j,j<n->DN n g j=d j:=fun j hj=>TA ((Qi (akB h) j hj).symm.trans (h j hj))
def Nc:BK:=⟨0,0,[],[]⟩
def atT(n:Nat)(d:Nat->BK)(i:Int):BK:=bif Jm n i then d i.toNat else Nc
def En(k i:Int):Bool:=!(decide (1<=k)&&decide (k<=4))||decide (i < -1000000000)||decide (1000000000<i)||(!(decide (k=1)||decide (k=2)) && !decide (i=0))
def KX(op:Int):Int:=if op=1\/op=2 then 1 else if op=3\/op=4 then 2 else if op=5\/op=6 then 3 else if op=7\/op=8\/op=9 then 4 else 0
def keyed(op:Int):Bool:=decide (op=7)||decide (op=8)||decide (op=9)
def valued(op:Int):Bool:=decide (op=2)||decide (op=3)||decide (op=5)||decide (op=7)
def Il(k x y:Int):Bool:=decide (x<0)||decide (1000<x)||decide (y < -(if k=2 then 1000000000000000 else 1000000000))||decide ((if k=2 then 1000000000000000 else 1000000000)<y)
def DI(st:Nat):Sh->Option (Nat×(Nat->List Sh))
 | .sl st' n g=>bif dQ st' st then ak (n,g) else bif dQ n 0 then ak (0,fun _=>[]) else aK |_=>aK
theorem Bd{H:Mem}{st n:Nat}{s:Sh}{g:Nat->List Sh}{v:Value}(hs:DI st s=ak (n,g))(h:Rep H s v):Rep H (.sl st n g) v:=by
 cases s<;>simp only[DI] at hs<;>try cases hs
 rename_i st' n' g';cases h1:dQ st' st<;>simp only[h1,cond_true,cond_false] at hs
 ·cases h2:dQ n' 0<;>simp only[h2,cond_true,cond_false] at hs
  ·cases hs
  ·cases hs
   exact Na h (.inl ⟨Nat.eq_of_beq_eq_true h2,rfl⟩)
 simp_all
theorem Mc{H:Mem}{s s':Sh}{v:Value}(hv:Rep H (.agg [s]) v)(h0:∀u,Rep H s u->Rep H s' u):Rep H (.agg [s']) v:=by
 cases hv with
 |agg _ vs h2 h3=>
  refine .agg _ vs h2 fun j s v' e1 e2=>?_
  grind
theorem X6{H:Mem}{s2 s3 s2' s3':Sh}{v:Value}(hv:Rep H (.agg [s2,s3]) v)(h0:∀u,Rep H s2 u->Rep H s2' u)(h1:∀u,Rep H s3 u->Rep H s3' u):Rep H (.agg [s2',s3']) v:=by
 cases hv with
 |agg _ vs h2 h3=>
  refine .agg _ vs h2 fun j s v' e1 e2=>?_
  grind
theorem GN{H:Mem}{x y:Sh}{s2 s3 s2' s3':Sh}{v:Value}(hv:Rep H (.agg [x,y,s2,s3]) v)(h0:∀u,Rep H s2 u->Rep H s2' u)(h1:∀u,Rep H s3 u->Rep H s3' u):Rep H (.agg [x,y,s2',s3']) v:=by
 cases hv with
 |agg _ vs h2 h3=>
  refine .agg _ vs h2 fun j s v' e1 e2=>?_
  grind
theorem adt(g:Nat->List Sh)(i off:Nat)(l:List Sh)(j:Nat):zG.upd g i off l j=if j=i then (g j).take off++l++(g j).drop (off+l.length) else g j:=rfl
theorem Dn{H:Mem}{s:Sh}{c:Int}{v:Value}(h:Ak s=ak c)(r:Rep H s v):Rep H (.i .i64 c) v:=by
 unfold Ak at h;split at h
 ·simp_all
 ·cases h;cases r;exact .i _ _
 ·cases h
theorem U5{H:Mem}{s:Sh}{c:Int}{v:Value}(h:Ak s=ak c)(r:Rep H s v):Rep H (.v (.int .i64 c)) v:=by
 have:=Dn h r;cases this;exact .v _ rfl
end Go.Pl
namespace Go.Proofs
open Go Go.Sx Go.Pl
theorem O58:zZ aA (Ar W7) 122 F58:=by
 refine J8 (C:=C7 zG W7 noSpec zW) (C7.ok _ _) (fn:=dn) (by kernel_rfl) (by kernel_rfl) fun H w Aq args φ hrep h=>?_
 have hn:dn.ntmps=16:=by kernel_rfl
 unfold F58 at h;split at h
 ·rename_i t s
  split at h
  ·rename_i b c ht hs
   obtain ⟨h1,h2,hφ⟩:=h;have h1:b=1:=by grind
   subst h1;have h2:=of_decide_eq_true h2;match args,hrep with
   |[v,u],⟨hv,hu,_⟩=>
    refine ⟨[.v (.int .i64 1),.i .i64 c],⟨U5 ht hv,Dn hs hu,trivial⟩,L0,?_⟩;refine Gv (C7.ok _ _) (Kv _) (hold:=AX) (m:=300) (n:=400) (ts:=[]) ?_;rw[hn,w58 zG W7 c];obtain ⟨m,e,hm⟩:∃m:Int,zG.sub .i64 (zG.max c (ah 0)) (ah 1)=m/\((c<=0/\m=-1)\/(1<=c/\m=c - 1)):=by
     refine ⟨_,rfl,?_⟩;grind [L9,I7,BF]
    rw[e];have key (X:List UInt8) (hX:D8 c=X):φ (.str X):=hX ▸ hφ;have q0:ah 0=0:=rfl;have q1:ah 1=1:=rfl;have q2:ah 2=2:=rfl;have q3:ah 3=3:=rfl;have q4:ah 4=4:=rfl;simp only[zN,Dy,Ac,AY,q0,q1,q2,q3,q4];refine ⟨fun h=>key _ ?_,fun h=>⟨fun h2=>key _ ?_,fun h2=>⟨?_,fun h3=>key _ ?_,fun h3=>⟨fun h4=>key _ ?_,fun h4=>⟨fun h5=>key _ ?_,fun h5=>⟨fun h6=>key _ ?_,fun h6=>?_⟩⟩⟩⟩⟩⟩;all_goals simp only[decide_eq_true_eq,decide_eq_false_iff_not,beq_iff_eq,beq_eq_false_iff_ne,ne_eq] at *
    all_goals (try unfold D8)
    all_goals grind
  ·exact h.elim
 ·exact h.elim
theorem OAs:∀g F,CO g=ak F->zZ aA (Ar W7) g F:=fun g F h=>by
 unfold CO at h;grind [O92,O56,O58]
theorem KY(stop:Nat->List Nat->Bool):AU aA (C7 zG W7 CO stop):=C7.O5 OAs fun g h=>by
 unfold CO at h;split at h;all_goals first|(cases h;done) |kernel_rfl
def F14:List Sh->Tree Sh
 |[.sl 1 n g]=>.need (AV n 8) (.leaf (.agg [.os 3 1 n g])) |_=>.fail
def F50:List Sh->Tree Sh
 |[.agg [s0],.agg [.i .i64 x,.i .i64 y,s2,s3]]=>match DI 4 s0,DI 1 s2,DI 2 s3 with
  |some (n,g),ak (a,h),ak (b,l)=>.need (AV (n+1) 64) (.leaf (.agg [.sl 4 (n+1) (FQ n g [.i .i64 x,.i .i64 y,.sl 1 a h,.sl 2 b l])])) |_,_,_=>.fail
 |_=>.fail
theorem O50:zZ aA (Ar W7) 96 F50:=by
 refine Dl (C:=C7 zG W7 CO zW) (C7.ok _ _) (KY _) (m:=300) (n:=400) (L:=L0) (fn:=vT) (by kernel_rfl) (by kernel_rfl) fun H w Aq args φ hrep h=>?_
 have hn:vT.ntmps=11:=by kernel_rfl
 unfold F50 at h;split at h
 ·rename_i s0 x y s2 s3
  split at h
  ·rename_i n g a hh b l hs0 hs2 hs3
   obtain ⟨h1,hφ⟩:=h;match args,hrep with
   |[v,u1],⟨hv,r1,_⟩=>
    refine ⟨[.agg [.sl 4 n g],.agg [.i .i64 x,.i .i64 y,.sl 1 a hh,.sl 2 b l]],⟨Mc hv fun u hu=>Bd hs0 hu,GN r1 (fun u hu=>Bd hs2 hu) (fun u hu=>Bd hs3 hu),trivial⟩,?_⟩;have h0:=Ky h1 (uY n);rw[hn,a50 zG W7 n a b g hh l x y,Hg,JQ,Nb,abg];refine ⟨le0 n,h0,h0,h1,le0 n,h0,h0,h1,?_,AB (s':=.agg [.sl 4 (n+1) (FQ n g [.i .i64 x,.i .i64 y,.sl 1 a hh,.sl 2 b l])]) ⟨.inr ⟨rfl,rfl,ads⟩,trivial⟩ hφ⟩;repeat' (first|exact trivial|exact rfl|refine And.intro ?_ ?_)
  ·exact h.elim
 ·exact h.elim
theorem akD{n:Nat}{i:Int}(h:zG.lt i (ah 0)=aC):Jm n i=ay:=by grind [zN,Jm]
theorem akE{n:Nat}{i:Int}(h:zG.le (zG.Aa n) i=aC):Jm n i=ay:=by simp_all [Dy,Ad,Jm]
theorem aeM{n:Nat}{i:Int}(h:zG.lt i (ah 0)=ay)(h3:zG.le (zG.Aa n) i=ay):Jm n i=aC:=by
 simp_all [zN,Dy,Ad,Jm]
noncomputable def F33:List Sh->Tree Sh
 |[.agg [s0],t]=>match DI 4 s0,Ak t with
  |some (n,g),ak i=>.need (stB n g) (.leaf (.zQ [.agg (Cb (atT n (DN n g) i)),.b (Jm n i)])) |_,_=>.fail
 |_=>.fail
theorem O33:zZ aA (Ar W7) 119 F33:=by
 refine Dl (C:=C7 zG W7 CO zW) (C7.ok _ _) (KY _) (m:=300) (n:=400) (L:=L0) (fn:=tX) (by kernel_rfl) (by kernel_rfl) fun H w Aq args φ hrep h=>?_
 have hn:tX.ntmps=12:=by kernel_rfl
 unfold F33 at h;split at h
 ·rename_i s0 t
  split at h
  ·rename_i n g i hs ht
   obtain ⟨h1,hφ⟩:=h;match args,hrep with
   |[v,u1],⟨hv,r1,_⟩=>
    refine ⟨[.agg [.sl 4 n (BD (DN n g))],.i .i64 i],⟨Mc hv fun u hu=>DZ (Bd hs hu) (Qi h1),Dn ht r1,trivial⟩,?_⟩;generalize DN n g=d at *;have out (hi:Jm n i=ay):up φ (.zQ [.agg [.i .i64 (ah 0),.i .i64 (ah 0),.sl 0 0 fun _=>[],.sl 0 0 fun _=>[]],.b ay]):=
     AB (s':=.zQ [.agg (Cb (atT n d i)),.b (Jm n i)]) ⟨by simp[atT,hi,Cb,Nc,Wk,Nu,len],by simp[hi,Wk],trivial⟩ hφ
    rw[hn,a33 zG W7 n d i];refine ⟨fun h=>out (akD h),fun h=>⟨fun h3=>out (akE h3),fun h3=>⟨aeM h h3,?_⟩⟩⟩;have hi:=aeM h h3;exact AB (s':=.zQ [.agg (Cb (atT n d i)),.b (Jm n i)]) ⟨by simp[atT,hi,Cb,Wk,Nu,BL],by simp[hi,Wk],trivial⟩ hφ
  ·exact h.elim
 ·exact h.elim
noncomputable def F54:List Sh->Tree Sh
 |[.agg [s0],t,.agg [.i .i64 x,.i .i64 y,s2,s3]]=>match DI 4 s0,Ak t,DI 1 s2,DI 2 s3 with
  |some (n,g),ak i,ak (a,h),ak (b,l)=>.need (AV n 64) (.need (stB n g) (.leaf (.agg [.sl 4 n (RN n g i [.i .i64 x,.i .i64 y,.sl 1 a h,.sl 2 b l])]))) |_,_,_,_=>.fail
 |_=>.fail
theorem O54:zZ aA (Ar W7) 121 F54:=by
 refine Dl (C:=C7 zG W7 CO zW) (C7.ok _ _) (KY _) (m:=300) (n:=400) (L:=L0) (fn:=tY) (by kernel_rfl) (by kernel_rfl) fun H w Aq args φ hrep h=>?_
 have hn:tY.ntmps=27:=by kernel_rfl
 unfold F54 at h;split at h
 ·rename_i s0 t x y s2 s3
  split at h
  ·rename_i n g i a hh b l hs0 ht hs2 hs3
   obtain ⟨h1,h2,hφ⟩:=h;match args,hrep with
   |[v,u1,u2],⟨hv,r1,r2,_⟩=>
    refine ⟨[.agg [.sl 4 n g],.i .i64 i,.agg [.i .i64 x,.i .i64 y,.sl 1 a hh,.sl 2 b l]],⟨Mc hv fun u hu=>Bd hs0 hu,Dn ht r1,GN r2 (fun u hu=>Bd hs2 hu) (fun u hu=>Bd hs3 hu),trivial⟩,?_⟩;have same (hi:Jm n i=ay):up φ (.agg [.sl 4 n g]):=AB (s':=.agg [.sl 4 n (RN n g i [.i .i64 x,.i .i64 y,.sl 1 a hh,.sl 2 b l])]) ⟨.inr ⟨rfl,rfl,fun j hj=>by simp[RN,hi]⟩,trivial⟩ hφ;rw[hn,a54 zG W7 n a b g hh l i x y,Hg,JQ,Nb];refine ⟨fun h=>same (akD h),fun h=>⟨fun h3=>same (akE h3),fun h3=>⟨le0 n,h1,h1,aeM h h3,AB (s':=.agg [.sl 4 n (RN n g i [.i .i64 x,.i .i64 y,.sl 1 a hh,.sl 2 b l])]) ⟨.inr ⟨rfl,rfl,fun j hj=>?_⟩,trivial⟩ hφ⟩⟩⟩;have hi:=aeM h h3;simp only[RN,hi,true_and,adt,BL];by_cases e:j=i.toNat
    ·have hl:(g j).length=4:=by rw[Qi h2 j hj];rfl
     rw[if_pos e,if_pos e];simp only[List.take_zero,kW,iw];rw[List.drop_eq_nil_of_le (by rw[hl];exact bV _)];rfl
    ·simp[e]
  ·exact h.elim
 ·exact h.elim
def F65:List Sh->Tree Sh
 |[.agg [.i .i64 k,.i .i64 i]]=>.need (BR k) (.node (En k i) (.leaf (.er 7 329)) (.leaf (.v .nilIface))) |_=>.fail
theorem ai1{k:Int}:zG.seq (D8 k) []=!(decide (1<=k)&&decide (k<=4)):=by
 by_cases h1:k=1
 ·subst h1;rfl
 by_cases h2:k=2
 ·subst h2;rfl
 by_cases h3:k=3
 ·subst h3;rfl
 by_cases h4:k=4
 ·subst h4;rfl
 have:D8 k=[]:=by simp[D8,h1,h2,h3,h4]
 rw[this,X5];by_cases h5:1<=k
 ·have:¬k<=4:=by omega
  simp[this]
 ·simp[h5]
theorem O65:zZ aA (Ar W7) 99 F65:=by
 refine J8 (C:=C7 zG W7 CO zW) (C7.ok _ _) (fn:=jB) (by kernel_rfl) (by kernel_rfl) fun H w Aq args φ hrep h=>?_
 have hn:jB.ntmps=36:=by kernel_rfl
 unfold F65 at h;split at h
 ·rename_i k i
  obtain ⟨h1,hb,hg⟩:=h;refine ⟨_,hrep,L0,Gv (C7.ok _ _) (KY _) (hold:=AX) (m:=300) (n:=400) (ts:=[]) ?_⟩;rw[hn,a65 zG W7 k i,ai1];have q0:ah 0=0:=rfl;have q1:ah 1=1:=rfl;have q2:ah 2=2:=rfl;have q3:ah 1000000000=1000000000:=rfl;have q4:dZ 999999999=-1000000000:=rfl;simp only[zN,Ac,Bh,q0,q1,q2,q3,q4];have bad (h:En k i=aC):φ (.er 7 329):=hb h;have good (h:En k i=ay):φ (.v .nilIface):=hg h;refine ⟨fun e=>⟨rfl,h1,fun e1=>bad ?_,fun e1=>⟨fun e2=>bad ?_,fun e2=>⟨fun e3=>bad ?_,fun e3=>good ?_⟩⟩⟩,fun e=>⟨rfl,h1,fun e1=>bad ?_,fun e1=>⟨fun e2=>bad ?_,fun e2=>⟨fun e3=>bad ?_,fun e3=>⟨fun e4=>⟨fun e5=>bad ?_,fun e5=>good ?_⟩,fun e4=>good ?_⟩⟩⟩⟩⟩;all_goals (simp at *;simp[En];omega)
 ·exact h.elim
end Go.Proofs
namespace Go.Pl
open Go Go.Sx
def FT(n:Nat)(l:List (Nat×SV)):List SV:=l.foldl (fun t p=>t.set p.1 p.2) (dL n .any)
end Go.Pl
namespace Go.Proofs
open Go Go.Sx Go.Pl
def F60:List Sh->Tree Sh
 |[.sl 1 n g]=>.need (okB (List UInt8) n g) (.need (AV n 16) (.need (Hw (CG (lst (List UInt8) n g) [32])) (.leaf (.str (CG (lst (List UInt8) n g) [32]))))) |_=>.fail
def Hl:Nat->Option (List Sh->Tree Sh)
 |122=>ak F58 |145=>ak F92 |146=>ak F60 |99=>ak F65 |_=>aK
def TB:Nat->Bool:=fun g=>dQ g 101
def adu(n:Nat)(o:Nat->Oj)(e:Nat->List Sh)(i:Int):Core:={tm:=FT 78 [(1,.ptr 0 0),(21,.sh (.sl 2 n (zH o))),(22,.sym .i64 (n:Int)),(23,.sym .i64 i)],hp:=[(0,.box [.sh (.sl 2 n (zH o)),.sh (.sl 8 0 e)] 25)],nx:=1,lim:=L0,tc:=[]}
def ai2(n:Nat)(o:Nat->Oj)(e:Nat->List Sh):Core:={tm:=FT 78 [(38,.sym .i64 0),(39,.sym .i64 0)],hp:=[],nx:=0,lim:=L0,tc:=[]}
def ai3:List It:=[bF [0,1,0,1,1,1],bZ 2,bF [1,1,1,1]]
def aoh:List It:=bF [0,0,1,0,1,1,1]::ai3
def X7(a:Nat)(o:Nat->Int)(i:Int)(k:Nat)(gg:Nat->List Sh):Core:={tm:=FT 61 [(3,.gs 0),(26,.sh (.sl 1 a (zH o))),(27,.sym .i64 (a:Int)),(28,.sym .i64 i)],hp:=[(0,.own 9 1 k gg)],nx:=1,lim:=L0,tc:=[]}
def X8(b:Nat)(p:Nat->Pr)(i:Int)(k:Nat)(gg:Nat->List Sh):Core:={tm:=FT 61 [(3,.gs 0),(41,.sh (.sl 2 b (zH p))),(42,.sym .i64 (b:Int)),(43,.sym .i64 i)],hp:=[(0,.own 9 1 k gg)],nx:=1,lim:=L0,tc:=[]}
def X9:List It:=[bF [0,1,0,1,1,1,0,1,0,1,1],bZ 1,bZ 0,bF [1,1,1]]
def Ya:List It:=[bF [0,1,0,1,1,1,1,1,0,1,0,1,1],bZ 3,bZ 0,bF [1,1,1]]
def aoi:List It:=bF [0,0,1,0,1,1,1,0,1,0,1,1]::X9
def aoj:List It:=bF [0,0,1,0,1,1,1,1,1,0,1,0,1,1]::Ya
theorem a41(A:Prim)(W:Wd)(k i:Int):AA (C7 A W Hl zW) AX 300 400 95 [.code []] (zL 16 [.agg [.i .i64 k,.i .i64 i]] L0) [] []=aH (BR k) (aF (En k i) (aB (aS (bT [bP [aT .i64 (ah 0),aT .i64 (ah 0),aI 0 0 fun _=>[],aI 0 0 fun _=>[]],aW 7 329]))) (aB (aS (bT [bP [aT .i64 k,aT .i64 i,aI 0 0 fun _=>[],aI 0 0 fun _=>[]],iW bG])))):=by kernel_rfl
theorem a49(A:Prim)(W:Wd)(n:Nat)(o:Nat->Oj)(e:Nat->List Sh)(i':Int):AA (C7 A W Hl zW) TB 300 400 77 [.code []] (zL 78 [.agg [.sl 2 n (zH o),.sl 8 0 e]] L0) [] [⟨77,Ik,adu n o e i',[]⟩]=aF (A.lt (ah 8) (A.Aa n)) (aB (aS (aW 6 329))) (aF (A.lt (ah 400) (A.Aa 0)) (aB (aS (aW 6 329))) (aB (bJ 0 [aP (aI 2 n (zH o)) (aI 2 n (zH o)),aj (A.Aa n) (ah n),aj (ah 0) i',aP (aI 2 n (zH o)) (aI 2 n (zH o)),aP (aI 8 0 e) (aI 8 0 e)]))):=by kernel_rfl
theorem b49(A:Prim)(W:Wd)(n:Nat)(o:Nat->Oj)(e:Nat->List Sh)(i i':Int):AA (C7 A W Hl zW) TB 300 400 77 WX (adu n o e i) [] [⟨77,Ik,adu n o e i',[]⟩,⟨77,ai3,ai2 n o e,[]⟩]=aF (A.lt i (ah n)) (aH (A.inB i n) (aH (BR (o (A.toN i)).kind) (aF (En (o (A.toN i)).kind (o (A.toN i)).init) (aB (aS (Sh.BM 109 (Sh.pt [aT .i64 i,aW 7 329])))) (aB (bJ 0 [aP (aI 2 n (zH o)) (aI 2 n (zH o)),aj (ah n) (ah n),aj (A.add .i64 i (ah 1)) i',aP (aI 2 n (zH o)) (aI 2 n (zH o)),aP (aI 8 0 e) (aI 8 0 e)]))))) (aB (bJ 1 [aj (A.Aa 0) (ah 0),aj (ah 0) (ah 0)])):=by kernel_rfl
theorem c49(A:Prim)(W:Wd)(n:Nat)(o:Nat->Oj)(e:Nat->List Sh):AA (C7 A W Hl zW) TB 300 400 77 aoh (ai2 n o e) [] []=aF (A.lt (ah 0) (ah 0)) cO (aB (aS (iW bG))):=by kernel_rfl
theorem a35(A:Prim)(W:Wd)(x y:Int)(a b:Nat)(o:Nat->Int)(p:Nat->Pr)(i':Int)(k':Nat)(G7:Nat->List Sh):AA (C7 A W Hl zW) AX 300 400 116 [.code []] (zL 61 [.agg [.i .i64 x,.i .i64 y,.sl 1 a (zH o),.sl 2 b (zH p)]] L0) [] [⟨116,X9,X7 a o i' k' G7,[]⟩,⟨116,Ya,X8 b p i' k' G7,[]⟩]=aH aC (aH (BR x) (aF (A.eq x (ah 1)) (aH (BR y) (aH (okB (List UInt8) 2 (Af (chunks 1 (1+1) [bU (D8 x),bU (Am y)]))) (aH (AV 2 16) (aH (Hw (CG (lst (List UInt8) 2 (Af (chunks 1 (1+1) [bU (D8 x),bU (Am y)]))) [32])) (aB (aS (bU (CG (lst (List UInt8) 2 (Af (chunks 1 (1+1) [bU (D8 x),bU (Am y)]))) [32])))))))) (aF (A.eq x (ah 2)) (aH (BR y) (aH (okB (List UInt8) 2 (Af (chunks 1 (1+1) [bU (D8 x),bU (Am y)]))) (aH (AV 2 16) (aH (Hw (CG (lst (List UInt8) 2 (Af (chunks 1 (1+1) [bU (D8 x),bU (Am y)]))) [32])) (aB (aS (bU (CG (lst (List UInt8) 2 (Af (chunks 1 (1+1) [bU (D8 x),bU (Am y)]))) [32])))))))) (aF (A.eq x (ah 3)) (aB (bJ 0 [aP (aI 1 a (zH o)) (aI 1 a (zH o)),aj (A.Aa a) (ah a),aj (ah 0) i',aJ 1 k',aQ 1 (Af [[bU (D8 x)]]) G7])) (aF (A.eq x (ah 4)) (aB (bJ 1 [aP (aI 2 b (zH p)) (aI 2 b (zH p)),aj (A.Aa b) (ah b),aj (ah 0) i',aJ 1 k',aQ 1 (Af [[bU (D8 x)]]) G7])) (aH (okB (List UInt8) 1 (Af (chunks 1 1 [bU (D8 x)]))) (aH (AV 1 16) (aH (Hw (CG (lst (List UInt8) 1 (Af (chunks 1 1 [bU (D8 x)]))) [32])) (aB (aS (bU (CG (lst (List UInt8) 1 (Af (chunks 1 1 [bU (D8 x)]))) [32])))))))))))):=by kernel_rfl
theorem awq(A:Prim)(W:Wd)(a:Nat)(o:Nat->Int)(i i':Int)(k k':Nat)(gg G7:Nat->List Sh):AA (C7 A W Hl zW) AX 300 400 116 aoi (X7 a o i k gg) [] [⟨116,X9,X7 a o i' k' G7,[]⟩]=aF (A.lt i (ah a)) (aH (A.inB i a) (aH (BR (o (A.toN i))) (aH (A.room (A.addN k 1) 16) (aB (bJ 0 [aP (aI 1 a (zH o)) (aI 1 a (zH o)),aj (ah a) (ah a),aj (A.add .i64 i (ah 1)) i',aJ (A.addN k 1) k',aQ (A.addN k 1) (A.snoc gg k (Af [[bU (Am (o (A.toN i)))]])) G7]))))) (aH (okB (List UInt8) k gg) (aH (AV k 16) (aH (Hw (CG (lst (List UInt8) k gg) [32])) (aB (aS (bU (CG (lst (List UInt8) k gg) [32]))))))):=by kernel_rfl
theorem awr(A:Prim)(W:Wd)(b:Nat)(p:Nat->Pr)(i i':Int)(k k':Nat)(gg G7:Nat->List Sh):AA (C7 A W Hl zW) AX 300 400 116 aoj (X8 b p i k gg) [] [⟨116,Ya,X8 b p i' k' G7,[]⟩]=aF (A.lt i (ah b)) (aH (A.inB i b) (aH (BR (p (A.toN i)).key) (aH (A.Z8 (A.addN (A.len (Am (p (A.toN i)).key)) (A.len [58])) 9223372036854775807) (aH (BR (p (A.toN i)).val) (aH (A.Z8 (A.addN (A.len (A.app (Am (p (A.toN i)).key) [58])) (A.len (Am (p (A.toN i)).val))) 9223372036854775807) (aH (A.room (A.addN k 1) 16) (aB (bJ 0 [aP (aI 2 b (zH p)) (aI 2 b (zH p)),aj (ah b) (ah b),aj (A.add .i64 i (ah 1)) i',aJ (A.addN k 1) k',aQ (A.addN k 1) (A.snoc gg k (Af [[bU (A.app (A.app (Am (p (A.toN i)).key) [58]) (Am (p (A.toN i)).val))]])) G7])))))))) (aH (okB (List UInt8) k gg) (aH (AV k 16) (aH (Hw (CG (lst (List UInt8) k gg) [32])) (aB (aS (bU (CG (lst (List UInt8) k gg) [32]))))))):=by kernel_rfl
end Go.Proofs
namespace Go.Pl
open Go Go.Sx
def Jo(s:BK):List (List UInt8):=D8 s.kind::(if s.kind=1\/s.kind=2 then [Am s.num] else if s.kind=3 then s.q.map Am else if s.kind=4 then s.ps.map (fun p=>Am p.key++[58]++Am p.val) else [])
def noI:Nat->List Sh:=zH (nth ([]:List Int))
def noP:Nat->List Sh:=zH (nth ([]:List Pr))
def keyS(s:BK):List UInt8:=CG (Jo s) [32]
def RP(n:Nat):Bool:=decide (8<n)
def Nh(n:Nat)(o:Nat->Oj):Bool:=(aY n).all fun j=>!En (o j).kind (o j).init
def Kz(n:Nat)(o:Nat->Oj):Nat:=((aY n).find? fun j=>En (o j).kind (o j).init).getD 0
def Qj(n:Nat)(o:Nat->Oj):Bool:=(aY n).all fun j=>BR (o j).kind
theorem Ho{n:Nat}{p:Nat->Bool}(h:(aY n).all p=aC):∀j,j<n->p j=aC:=fun j hj=>dA.1 h j (dD.2 hj)
theorem agU{n:Nat}{o:Nat->Oj}(h:∀j,j<n->En (o j).kind (o j).init=ay):Nh n o=aC:=dA.2 fun j hj=>by simp_all
theorem aok{n k:Nat}{o:Nat->Oj}(hk:k<n)(h:En (o k).kind (o k).init=aC):Nh n o=ay:=by
 grind [Nh,List.all_eq_false]
theorem find_range{n k:Nat}{p:Nat->Bool}(hk:k<n)(h:p k=aC)(hb:∀j,j<k->p j=ay):(aY n).find? p=ak k:=by
 simp_all
theorem agV{n k:Nat}{o:Nat->Oj}(hk:k<n)(h:En (o k).kind (o k).init=aC)(hb:∀j,j<k->En (o j).kind (o j).init=ay):Kz n o=k:=by
 unfold Kz;rw[find_range hk h hb];rfl
def aol(n:Nat)(o:Nat->Int):Bool:=(aY n).all fun j=>BR (o j)
def as4(n:Nat)(o:Nat->Pr):Bool:=(aY n).all fun j=>BR (o j).key&&BR (o j).val
end Go.Pl
namespace Go.Proofs
open Go Go.Sx Go.Pl
theorem O59:zZ aA (Ar W7) 145 F92:=by
 refine Dl (C:=C7 zG W7 CO zW) (C7.ok _ _) (KY _) (m:=300) (n:=400) (L:=L0) (fn:=tZ) (by kernel_rfl) (by kernel_rfl) fun H w Aq args φ hrep h=>?_
 have hn:tZ.ntmps=5:=by kernel_rfl
 unfold F92 at h;split at h
 ·obtain ⟨h1,hφ⟩:=h
  refine ⟨_,hrep,?_⟩;rw[hn,a59 zG W7];exact ⟨h1,AB (s':=.str _) rfl hφ⟩
 ·exact h.elim
theorem O60:zZ aA (Ar W7) 146 F60:=by
 refine Dl (C:=C7 zG W7 CO zW) (C7.ok _ _) (KY _) (m:=300) (n:=400) (L:=L0) (fn:=uh) (by kernel_rfl) (by kernel_rfl) fun H w Aq args φ hrep h=>?_
 have hn:uh.ntmps=5:=by kernel_rfl
 unfold F60 at h;split at h
 ·obtain ⟨h1,h2,h3,hφ⟩:=h
  refine ⟨_,hrep,?_⟩;rw[hn,a60 zG W7];exact ⟨h1,h2,h3,AB (s':=.str _) rfl hφ⟩
 ·exact h.elim
theorem OBs:∀g F,Hl g=ak F->zZ aA (Ar W7) g F:=fun g F h=>by
 unfold Hl at h;grind [O58,O59,O60,O65]
theorem abj(stop:Nat->List Nat->Bool):AU aA (C7 zG W7 Hl stop):=C7.O5 OBs fun g h=>by
 unfold Hl at h;split at h;all_goals first|(cases h;done) |kernel_rfl
def F41:List Sh->Tree Sh
 |[.agg [.i .i64 k,.i .i64 i]]=>.need (BR k) (.node (En k i) (.leaf (.zQ [.agg (Cb Nc),.er 7 329])) (.leaf (.zQ [.agg [.i .i64 k,.i .i64 i,.sl 1 0 noI,.sl 2 0 noP],.v .nilIface]))) |_=>.fail
theorem O41:zZ aA (Ar W7) 95 F41:=by
 refine Dl (C:=C7 zG W7 Hl zW) (C7.ok _ _) (abj _) (m:=300) (n:=400) (L:=L0) (fn:=vS) (by kernel_rfl) (by kernel_rfl) fun H w Aq args φ hrep h=>?_
 have hn:vS.ntmps=16:=by kernel_rfl
 unfold F41 at h;split at h
 ·rename_i k i
  obtain ⟨h1,hb,hg⟩:=h;refine ⟨_,hrep,?_⟩;rw[hn,a41 zG W7 k i];refine ⟨h1,fun e=>AB (s':=.zQ [.agg (Cb Nc),.er 7 329]) ?_ (hb e),fun e=>AB (s':=.zQ [.agg [.i .i64 k,.i .i64 i,.sl 1 0 noI,.sl 2 0 noP],.v .nilIface]) ?_ (hg e)⟩
  ·simp[Cb,Nc,Wk,Nu,len]
  ·simp[Wk,Nu]
 ·exact h.elim
def F49:List Sh->Tree Sh
 |[.agg [s0,s1]]=>match DI 2 s0,DI 8 s1 with
  |some (n,g),ak (0,_)=>.need (okB Oj n g) (.need (Qj n (zJ g)) (.node (RP n) (.leaf (.er 6 329)) (.node (Nh n (zJ g)) (.leaf (.v .nilIface)) (.leaf (.BM 109 (.pt [.i .i64 (Kz n (zJ g)),.er 7 329])))))) |_,_=>.fail
 |_=>.fail
theorem akF{H0:Mem}{w0:World}{n:Nat}{o:Nat->Oj}{e:Nat->List Sh}{φ:Sh->Prop}(hn:n<=8)(hk:∀j,j<n->BR (o j).kind=aC)(hT:(∀j,j<n->En (o j).kind (o j).init=ay)->φ (.v .nilIface))
  (hF:∀k,k<n->En (o k).kind (o k).init=aC->(∀j,j<k->En (o j).kind (o j).init=ay)->φ (.BM 109 (.pt [.i .i64 k,.er 7 329]))) :
  ∀r k,k+r=n->(∀j,j<k->En (o j).kind (o j).init=ay)->Aw aA (C7 zG W7 Hl zW) (K0 H0 w0) 77 Ik (adu n o e (k:Int)) [] emp φ
 |r,k,hkr,hE=>by
  refine G6 (fn:=iF) (tb:=WX) (by kernel_rfl) (by kernel_rfl) ?_;refine Gv (C7.ok _ _) (abj _) (hold:=TB) (m:=300) (n:=400) (ts:=[⟨77,Ik,adu n o e (k+1:Nat),[]⟩,⟨77,ai3,ai2 n o e,[]⟩]) ?_;rw[b49 zG W7 n o e k (k+1:Nat)];simp only[zN,AY,BL,CB,Gl,fB];refine ⟨fun h=>?_,fun h=>?_⟩
  ·have hlt:k<n:=by simp_all
   refine ⟨by simp;omega,hk k hlt,fun hb=>hF k hlt hb hE,fun hb=>⟨⟨rfl,rfl,?_,rfl,rfl,trivial⟩,_,rfl,?_⟩⟩
   ·grind [gY,BF]
   ·match r,hkr with
    |0,hkr=>omega |r+1,hkr=>
     refine akF hn hk hT hF r (k+1) (by omega) fun j hj=>?_
     grind
  ·have:k=n:=by grind
   subst this;refine ⟨⟨rfl,rfl,trivial⟩,_,rfl,?_⟩;refine G6 (fn:=iF) (tb:=aoh) (by kernel_rfl) (by kernel_rfl) ?_;refine Gv (C7.ok _ _) (abj _) (hold:=TB) (m:=300) (n:=400) (ts:=[]) ?_;rw[c49 zG W7 k o e];exact ⟨fun h=>by simp[zN] at h,fun _=>hT hE⟩
theorem O49:zZ aA (Ar W7) 77 F49:=by
 refine J8 (C:=C7 zG W7 Hl zW) (C7.ok _ _) (fn:=iF) (by kernel_rfl) (by kernel_rfl) fun H w Aq args φ hrep h=>?_
 have hn:iF.ntmps=78:=by kernel_rfl
 unfold F49 at h;split at h
 ·rename_i s0 s1
  split at h
  ·rename_i n g e hs0 hs1
   obtain ⟨h1,h2,hbig,hsm⟩:=h;have hbig:RP n=aC->φ (.er 6 329):=hbig;have hsm:RP n=ay->(Nh n (zJ g)=aC->φ (.v .nilIface))/\(Nh n (zJ g)=ay->φ (.BM 109 (.pt [.i .i64 (Kz n (zJ g)),.er 7 329]))):=hsm;match args,hrep with
   |[v],⟨hv,_⟩=>
    refine ⟨[.agg [.sl 2 n (zH (zJ (α:=Oj) g)),.sl 8 0 e]],⟨X6 hv (fun u hu=>Ed (Bd hs0 hu) h1) (fun u hu=>Bd hs1 hu),trivial⟩,L0,?_⟩;generalize zJ (α:=Oj) g=o at *;refine Gv (C7.ok _ _) (abj _) (hold:=TB) (m:=300) (n:=400) (ts:=[⟨77,Ik,adu n o e (0:Nat),[]⟩]) ?_;rw[hn,a49 zG W7 n o e (0:Nat)];refine ⟨fun h=>hbig ?_,fun h=>⟨fun h=>?_,fun _=>⟨⟨rfl,rfl,rfl,rfl,rfl,trivial⟩,_,rfl,?_⟩⟩⟩
    ·grind [zN,Ad,RP]
    ·simp[zN,Ad] at h
    ·have hn8:n<=8:=by grind [zN,Ad]
     obtain ⟨q1,q2⟩:=hsm (by simp[RP];omega);refine akF hn8 (Ho h2) (fun hE=>q1 (agU hE)) (fun k hk hb hE=>?_) n 0 (by omega) fun j hj=>by omega
     grind [aok,agV]
  ·exact h.elim
 ·exact h.elim
end Go.Proofs
namespace Go.Pl
open Go Go.Sx Go.Proofs
theorem aom{a b:List UInt8}:lst (List UInt8) 2 (Af (chunks 1 (1+1) [bU a,bU b]))=[a,b]:=rfl
theorem aon{a:List UInt8}:lst (List UInt8) 1 (Af (chunks 1 1 [bU a]))=[a]:=rfl
theorem JR{n:Int}(h:BR n=aC):(Am n).length<=21:=by
 have h:=of_decide_eq_true h;exact Go.Lib.itoa_length_le n h.1 h.2
theorem aeN{α:Type}[Row α](l:List α){k:Nat}(h:l.length=k):lst α k (zH (nth l))=l:=by grind [Kw]
theorem O7{α:Type}[Row α](l:List α)(a:α){r:List (List Sh)}(h:Af r 0=Row.put a):∀i,i<l.length+1->zG.snoc (zH (nth l)) l.length (Af r) i=zH (nth (l++[a])) i:=fun i hi=>by
 rw[Ef];split
 ·simp_all [zH,nth,List.getD_eq_getElem?_getD]
 ·have:i=l.length:=by omega
  simp_all [pF,zH,nth]
end Go.Pl
namespace Go.Proofs
open Go Go.Sx Go.Pl
def F35:List Sh->Tree Sh
 |[.agg [.i .i64 x,.i .i64 y,s2,s3]]=>match DI 1 s2,DI 2 s3 with
  |some (a,h),ak (b,l)=>.need (okB Int a h) (.need (okB Pr b l) (.need (BR x) (.need (BR y) (.need (aol a (zJ h)) (.need (as4 b (zJ l)) (.need (decide (a<=100000/\b<=100000)) (.leaf (.str (keyS ⟨x,y,lst Int a h,lst Pr b l⟩))))))))) |_,_=>.fail
 |_=>.fail
theorem Yb(l:List (List UInt8))(sep:List UInt8){m:Nat}(h:∀x∈l,x.length<=m):(CG l sep).length<=l.length*(m+sep.length):=by
 induction l with
 |nil=>simp[CG,Go.Lib.join_nil] |cons x r ih=>
  have h1:=h x (by simp);have h2:(kK sep r).length<=r.length*(m+sep.length):=by
   clear ih;induction r with
   |nil=>simp[kK] |cons y r ih2=>
    have h3:=ih2 fun z hz=>h z (by
     grind)
    have h4:=h y (by simp);simp only[kK,List.map_cons,List.flatten_cons,dP,jf,oQ,oH] at h3 ⊢;omega
  unfold CG;rw[Go.Lib.join_cons,dP,jf,oQ,oH];omega
theorem NR{l:List (List UInt8)}(hl:l.length<=200000)(h:∀x∈l,x.length<=50):Hw (CG l [32])=aC:=by
 have:=Yb l [32] h;have h2:l.length*(50+[(32:UInt8)].length)<=200000*51:=dG _ hl;exact decide_eq_true (by omega)
theorem room_le{n b:Nat}(h:n<=1000000)(hb:b<=1000):AV n b=aC:=by
 show decide (n*b<=140737488355328/\n<=maxLen)=aC;rw[maxLen_eq];have:n*b<=1000000*1000:=Nat.mul_le_mul h hb;grind
theorem abk(k:Int):(D8 k).length<=50:=by
 unfold D8;repeat' split
 all_goals decide
theorem agW{H0:Mem}{w0:World}{q:List Int}{W:List UInt8}{φ:Sh->Prop}(hq:q.length<=100000)(h64:∀x∈q,BR x=aC)(hW:W.length<=50)(hφ:φ (.str (CG (W::q.map Am) [32]))):
  ∀r k,k+r=q.length->Aw aA (C7 zG W7 Hl zW) (K0 H0 w0) 116 X9 (X7 q.length (nth q) (k:Int) (k+1) (zH (nth (W::(q.take k).map Am)))) [] emp φ
 |r,k,hkr=>by
  refine G6 (fn:=mX) (tb:=aoi) (by kernel_rfl) (by kernel_rfl) ?_;refine Gv (C7.ok _ _) (abj _) (hold:=AX) (m:=300) (n:=400) (ts:=[⟨116,X9,X7 q.length (nth q) (k+1:Nat) (k+1+1) (zH (nth (W::(q.take (k+1)).map Am))),[]⟩]) ?_;rw[awq zG W7 q.length (nth q) k (k+1:Nat) (k+1) (k+1+1) (zH (nth (W::(q.take k).map Am))) (zH (nth (W::(q.take (k+1)).map Am)))];have hlen:(W::(q.take k).map Am).length=k+1:=by simp;omega
  simp only[zN,AY,BL,CB,Gl,fB,abg];refine ⟨fun h=>?_,fun h=>?_⟩
  ·have hlt:k<q.length:=by simp_all
   have hx:nth q k=q[k]:=by simp[nth,hlt]
   refine ⟨by simp;omega,by simp_all,room_le (by omega) (by omega),⟨rfl,rfl,?_,rfl,?_,trivial⟩,_,rfl,?_⟩
   ·grind [gY,BF]
   ·have e:W::(q.take (k+1)).map Am=(W::(q.take k).map Am)++[Am (nth q k)]:=by
     grind [lV]
    have:=O7 (W::(q.take k).map Am) (Am (nth q k)) (r:=[[.str (Am (nth q k))]]) rfl;rw[hlen] at this;rw[e];exact this
   ·match r,hkr with
    |0,hkr=>omega |r+1,hkr=>exact agW hq h64 hW hφ r (k+1) (by omega)
  ·have hk:k=q.length:=by simp_all
   subst hk;rw[uz] at hlen ⊢;rw[aeN _ hlen];refine ⟨Dx _ _,room_le (by omega) (by omega),NR (by simp;omega) fun x hx=>?_,hφ⟩;grind [JR]
theorem adv{p:Pr}(h1:BR p.key=aC)(h2:BR p.val=aC):(Am p.key++[58]++Am p.val).length<=50:=by
 grind [JR]
theorem agX{H0:Mem}{w0:World}{q:List Pr}{W:List UInt8}{φ:Sh->Prop}(hq:q.length<=100000)(h64:∀x∈q,BR x.key=aC/\BR x.val=aC)(hW:W.length<=50)(hφ:φ (.str (CG (W::q.map (fun p=>Am p.key++[58]++Am p.val)) [32]))):
  ∀r k,k+r=q.length->Aw aA (C7 zG W7 Hl zW) (K0 H0 w0) 116 Ya (X8 q.length (nth q) (k:Int) (k+1) (zH (nth (W::(q.take k).map (fun p=>Am p.key++[58]++Am p.val))))) [] emp φ
 |r,k,hkr=>by
  refine G6 (fn:=mX) (tb:=aoj) (by kernel_rfl) (by kernel_rfl) ?_;refine Gv (C7.ok _ _) (abj _) (hold:=AX) (m:=300) (n:=400) (ts:=[⟨116,Ya,X8 q.length (nth q) (k+1:Nat) (k+1+1) (zH (nth (W::(q.take (k+1)).map (fun p=>Am p.key++[58]++Am p.val)))),[]⟩]) ?_;rw[awr zG W7 q.length (nth q) k (k+1:Nat) (k+1) (k+1+1) (zH (nth (W::(q.take k).map (fun p=>Am p.key++[58]++Am p.val)))) (zH (nth (W::(q.take (k+1)).map (fun p=>Am p.key++[58]++Am p.val))))];have hlen:(W::(q.take k).map (fun p=>Am p.key++[58]++Am p.val)).length=k+1:=by simp;omega
  simp only[zN,AY,BL,CB,Gl,fB,abg];refine ⟨fun h=>?_,fun h=>?_⟩
  ·have hlt:k<q.length:=by simp_all
   have hx:nth q k=q[k]:=by simp[nth,hlt]
   obtain ⟨p1,p2⟩:=h64 _ (List.getElem_mem hlt);rw[<-hx] at p1 p2;have l1:=JR p1;have l2:=JR p2;refine ⟨by simp;omega,p1,?_,p2,?_,room_le (by omega) (by omega),⟨rfl,rfl,?_,rfl,?_,trivial⟩,_,rfl,?_⟩
   ·show decide ((Am (nth q k).key).length+1<=9223372036854775807)=aC
    grind
   ·show decide ((Am (nth q k).key++[58]).length+(Am (nth q k).val).length<=9223372036854775807)=aC
    grind
   ·grind [gY,BF]
   ·have e:W::(q.take (k+1)).map (fun p=>Am p.key++[58]++Am p.val)=(W::(q.take k).map (fun p=>Am p.key++[58]++Am p.val))++[Am (nth q k).key++[58]++Am (nth q k).val]:=by
     grind [lV]
    have:=O7 (W::(q.take k).map (fun p=>Am p.key++[58]++Am p.val)) (Am (nth q k).key++[58]++Am (nth q k).val) (r:=[[.str (Am (nth q k).key++[58]++Am (nth q k).val)]]) rfl;rw[hlen] at this;rw[e];exact this
   ·match r,hkr with
    |0,hkr=>omega |r+1,hkr=>exact agX hq h64 hW hφ r (k+1) (by omega)
  ·have hk:k=q.length:=by simp_all
   subst hk;rw[uz] at hlen ⊢;rw[aeN _ hlen];refine ⟨Dx _ _,room_le (by omega) (by omega),NR (by simp;omega) fun x hx=>?_,hφ⟩;grind [adv]
theorem agY{α:Type}[Row α]{n:Nat}{g:Nat->List Sh}{x:α}(h:x∈lst α n g):∃j,j<n/\x=zJ g j:=by
 obtain ⟨j,hj,rfl⟩:=fC.1 h;grind
theorem Ko{α:Type}[Row α]{H:Mem}{st n:Nat}{g:Nat->List Sh}{v:Value}(h:Rep H (.sl st n g) v)(hg:okB α n g=aC):Rep H (.sl st (lst α n g).length (zH (nth (lst α n g)))) v:=by
 grind [E8,DZ,J9,zH,WW]
theorem O35:zZ aA (Ar W7) 116 F35:=by
 refine J8 (C:=C7 zG W7 Hl zW) (C7.ok _ _) (fn:=mX) (by kernel_rfl) (by kernel_rfl) fun H w Aq args φ hrep h=>?_
 have hn:mX.ntmps=61:=by kernel_rfl
 unfold F35 at h;split at h
 ·rename_i x y s2 s3
  split at h
  ·rename_i a hh b l hs2 hs3
   obtain ⟨h1,h2,h3,h4,h5,h6,h7,hφ⟩:=h;have h7:=of_decide_eq_true h7;match args,hrep with
   |[v],⟨hv,_⟩=>
    have l1:(lst Int a hh).length=a:=E8 _ _;have l2:(lst Pr b l).length=b:=E8 _ _;have m1:∀z∈lst Int a hh,BR z=aC:=fun z hz=>by
     obtain ⟨j,hj,rfl⟩:=agY hz;exact Ho h5 j hj
    have m2:∀z∈lst Pr b l,BR z.key=aC/\BR z.val=aC:=fun z hz=>by
     obtain ⟨j,hj,rfl⟩:=agY hz;simpa using Ho h6 j hj
    refine ⟨[.agg [.i .i64 x,.i .i64 y,.sl 1 (lst Int a hh).length (zH (nth (lst Int a hh))),.sl 2 (lst Pr b l).length (zH (nth (lst Pr b l)))]],⟨GN hv (fun u hu=>Ko (Bd hs2 hu) h1) (fun u hu=>Ko (Bd hs3 hu) h2),trivial⟩,L0,?_⟩;generalize lst Int a hh=q at *;generalize lst Pr b l=ps at *;have hφ:φ (.str (CG (Jo ⟨x,y,q,ps⟩) [32])):=hφ;refine Gv (C7.ok _ _) (abj _) (hold:=AX) (m:=300) (n:=400) (ts:=[⟨116,X9,X7 q.length (nth q) (0:Nat) 1 (zH (nth [D8 x])),[]⟩,⟨116,Ya,X8 ps.length (nth ps) (0:Nat) 1 (zH (nth [D8 x])),[]⟩]) ?_;rw[hn,a35 zG W7 x y q.length ps.length (nth q) (nth ps) (0:Nat) 1 (zH (nth [D8 x])),aom,aon];have hw:=abk x;have hy:=JR h4;have two:Hw (CG [D8 x,Am y] [32])=aC:=NR (by simp) fun z hz=>by
     grind
    refine ⟨rfl,h3,fun e=>⟨h4,rfl,room_le (by omega) (by omega),two,?_⟩,fun e1=>⟨fun e=>⟨h4,rfl,room_le (by omega) (by omega),two,?_⟩,fun e2=>⟨fun e=>⟨⟨rfl,rfl,rfl,rfl,fun j hj=>?_,trivial⟩,_,rfl,?_⟩,fun e3=>⟨fun e=>⟨⟨rfl,rfl,rfl,rfl,fun j hj=>?_,trivial⟩,_,rfl,?_⟩,fun e4=>⟨rfl,room_le (by omega) (by omega),NR (by simp) fun z hz=>?_,?_⟩⟩⟩⟩⟩
    ·have e:x=1:=by grind [Ac]
     subst e;exact hφ
    ·have e:x=2:=by grind [Ac]
     subst e;exact hφ
    ·obtain rfl:j=0:=by omega
     rfl
    ·have e:x=3:=by grind [Ac]
     subst e;exact agW (by omega) m1 hw hφ q.length 0 (by omega)
    ·obtain rfl:j=0:=by omega
     rfl
    ·have e:x=4:=by grind [Ac]
     subst e;exact agX (by omega) m2 hw hφ ps.length 0 (by omega)
    ·simp_all
    ·have e1:¬x=1:=by grind [Ac]
     have e2:¬x=2:=by grind [Ac]
     have e3:¬x=3:=by grind [Ac]
     have e4:¬x=4:=by grind [Ac]
     have e:Jo ⟨x,y,q,ps⟩=[D8 x]:=by simp_all [Jo]
     rw[e] at hφ;exact hφ
  ·exact h.elim
 ·exact h.elim
end Go.Proofs
