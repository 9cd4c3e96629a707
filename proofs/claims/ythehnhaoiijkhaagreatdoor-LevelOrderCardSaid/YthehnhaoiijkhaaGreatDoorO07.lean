/- Own work. -/
import Derived.Test.YthehnhaoiijkhaaGreatDoorO06
import Derived.Test.YthehnhaoiijkhaaGreatDoorProg
import Derived.Shelf.Strings.Builder1
import Derived.Shelf.Strings.Builder2
import Derived.Shelf.Strings.OnBuilder
import Derived.Shelf.Strconv.Itoa0
import Derived.Shelf.Strconv.Itoa1
import Derived.Shelf.LaysM
import Derived.Shelf.Strconv.Itoa2
import Derived.Shelf.Strconv.Itoa3
import Derived.Ground.Names2Prog
import Derived.Lib.ItoaLen
open Int (ofNat)
open Array renaming getElem?_eq_some_iff->aM
open Bool renaming false->ag,true->aj,and_eq_true->al
open Classical renaming propDecidable->aB
open Go.Instr renaming checkKey->cz
open Go.IntKind renaming i64->aA
open Go.Lib renaming TabIs->jZ,pow10Tab->hU,joinTail->eg
open Go.Proofs.Lays renaming n156->k8
open Go.Proofs.LaysM renaming n171->kx
open Go.Proofs.Tryz renaming f77->cE,f95->kg,f96->kh,f99->dw,f116->fM,f119->jr,f121->js,f122->bc,f145->jt,f146->jv,prog->ah,func117->kG,func148->kH,func147->kI,func149->kJ,func170->kK,func172->kL,func171->kM,func201->kN,func209->kO,func217->kP,func214->kQ,func212->kR,func211->kS,func213->kT,func216->kU,func220->kV,func219->kW,func218->kX,func222->kY,func221->kZ,underlying0->jy,isAgg0->lD,sizeOf0->k9,zeroValue0->jU,underlying3->eG,isAgg3->lE,sizeOf3->lc,zeroValue3->jV,underlying4->jz,isAgg4->lF,sizeOf4->lg,zeroValue4->jW,underlying9->ei,isAgg9->lG,sizeOf9->lh,zeroValue9->jX,underlying20->jc,isAgg20->lj,sizeOf20->kv,zeroValue20->jA,underlying275->iM,isAgg275->kw,sizeOf275->kj,zeroValue275->jd,underlying5->jB,isAgg5->lH,sizeOf5->lm,zeroValue5->jY
open Go.RowKit.Below renaming refl->lI
open Go.Shelf renaming Ren->jx
open Go.Sx.oC renaming sh->av,int->ac,nat->ap,get->ax,ok->cw
open Go.Sx.rQ renaming ret->ay,at_->aK
open Go.Sx.It renaming code->aH,inBlock->aW
open Go.Sx.Sh renaming i->az,er->aC,v->cT,sl->ao,agg->aN,os->cJ,mV->aQ,b->bX,str->aR
open Go.Sx.Tree renaming node->ak,need->am,leaf->ai,fail->aY
open Go.Value renaming nilIface->aI
open Int renaming ofNat->ab,negSucc->bI,toNat_natCast->bR
open List renaming nil_append->eF,mem_append->aU,mem_map->bN,range->aE,ext_getElem->jw,replicate->bp,all_eq_true->be,mem_range->bh,length_append->bz,length_cons->cZ,take_succ_eq_append_getElem->fg,map_append->eU,take_length->jC
open List.cons renaming injEq->gL
open Nat renaming le_refl->aV,le_succ->jT,zero_add->cA,mul_le_mul_right->bj,sub_self->gU,beq->bA,add_mul->gK,one_mul->gC
open Option renaming some->ae,none->aq,isSome_iff_exists->bJ
open Option.some renaming injEq->dK,inj->bd
namespace Go.Tb
open Go Go.Sx
abbrev L{α:Type}(k:Nat)(v:α):BT α:=.node .nil k v .nil
abbrev N{α:Type}(l:BT α)(k:Nat)(v:α)(r:BT α):BT α:=.node l k v r
abbrev z:SV:=.int .i64 0
abbrev tF:Ai:=⟨.fn,1,8,[.wC]⟩
abbrev tS(n:Nat):Ai:=⟨.slice n,1,24,[.nD]⟩
abbrev tP(n:Nat):Ai:=⟨.ptr n,1,8,[.uj]⟩
end Go.Tb
namespace Go.Proofs
section
open Go Go.Sx Go.Tb
def Tryz.tys:BT Ai:=(N (N (N (N (N (N (N (N (L 1 tF) 2 ⟨.int .i64,1,8,[z]⟩ .nil) 3 ⟨.int .i64,1,8,[z]⟩ (L 4 ⟨.bool,1,1,[.bool ag]⟩)) 5 ⟨.int .u8,1,1,[.int .u8 0]⟩ (N (N (L 7 ⟨.struct [(0,1,ag),(1,1,ag),(2,1,ag),(3,1,ag)],4,24,[z,z,.bool ag,.int .u8 0]⟩) 9 ⟨.str,1,16,[.str []]⟩ .nil) 12 ⟨.int .u64,1,8,[.int .u64 0]⟩ (L 13 ⟨.struct [(0,1,ag),(1,1,ag)],2,24,[.str [],.int .u64 0]⟩))) 15 (tP 331) (N (N (N (L 16 (tP 334)) 17 (tP 341) .nil) 18 ⟨.struct [(0,1,ag)],1,8,[.uj]⟩ (L 20 ⟨.iface,1,16,[.qP]⟩)) 21 ⟨.int .i32,1,4,[.int .i32 0]⟩ (N (L 22 (tS 140)) 23 (tS 71) (L 24 ⟨.struct [(0,1,ag),(1,1,ag)],2,48,[.nD,.nD]⟩)))) 25 ⟨.struct [(0,1,ag),(1,1,ag)],2,48,[.nD,.nD]⟩ (N (N (N (N (L 26 tF) 27 tF .nil) 28 (tS 115) (L 29 (tS 3))) 30 (tS 147) (N (N (L 31 ⟨.struct [(0,1,ag),(1,1,ag),(2,1,ag),(3,1,ag),(4,1,ag)],5,104,[z,.nD,.nD,.nD,.nD]⟩) 32 ⟨.struct [(0,1,ag),(1,1,ag),(2,1,ag),(3,1,ag),(4,1,ag)],5,104,[z,.nD,.nD,.nD,.nD]⟩ .nil) 33 ⟨.struct [(0,1,ag),(1,1,ag)],2,32,[z,.nD]⟩ (L 34 ⟨.struct [(0,1,ag),(1,1,ag)],2,32,[z,.nD]⟩))) 36 tF (N (N (N (L 38 tF) 39 ⟨.struct [(0,1,ag),(1,1,ag)],2,32,[z,.nD]⟩ .nil) 40 ⟨.struct [(0,1,ag),(1,1,ag)],2,32,[z,.nD]⟩ (L 41 (tP 3))) 42 (tS 55) (N (L 43 ⟨.struct [(0,1,ag),(1,1,ag),(2,1,ag)],3,40,[.bool ag,.nD,z]⟩) 44 ⟨.struct [(0,1,ag),(1,1,ag),(2,1,ag)],3,40,[.bool ag,.nD,z]⟩ (L 45 ⟨.iface,1,16,[.qP]⟩))))) 46 ⟨.iface,1,16,[.qP]⟩ (N (N (N (N (N (L 48 tF) 49 tF .nil) 51 tF (L 52 tF)) 53 tF (N (N (L 54 ⟨.struct [(0,1,ag),(1,1,ag)],2,16,[z,.bool ag]⟩) 55 ⟨.struct [(0,1,ag),(1,1,ag)],2,16,[z,.bool ag]⟩ .nil) 56 tF (L 57 tF))) 58 tF (N (N (N (L 60 tF) 61 tF .nil) 62 tF (L 64 tF)) 65 (tS 42) (N (L 66 ⟨.struct [(0,1,ag),(1,1,ag),(2,1,ag),(3,1,ag),(4,1,ag)],5,72,[.bool ag,.nD,.nD,z,z]⟩) 67 ⟨.struct [(0,1,ag),(1,1,ag),(2,1,ag),(3,1,ag),(4,1,ag)],5,72,[.bool ag,.nD,.nD,z,z]⟩ (L 69 tF)))) 70 ⟨.struct [(0,1,ag),(1,1,ag),(2,1,ag),(3,1,ag),(4,1,ag),(5,1,ag),(6,1,ag),(7,1,ag)],8,64,[z,z,z,z,z,z,z,z]⟩ (N (N (N (N (L 71 ⟨.struct [(0,1,ag),(1,1,ag),(2,1,ag),(3,1,ag),(4,1,ag),(5,1,ag),(6,1,ag),(7,1,ag)],8,64,[z,z,z,z,z,z,z,z]⟩) 72 tF .nil) 73 tF (L 74 tF)) 75 (tS 76) (N (L 76 ⟨.struct [(0,1,ag),(1,1,ag),(2,1,ag)],3,40,[.bool ag,.nD,z]⟩) 78 tF (L 79 tF))) 80 tF (N (N (N (L 82 tF) 83 tF .nil) 85 tF (L 87 tF)) 88 tF (N (L 89 tF) 91 tF (L 92 tF)))))) 93 (tP 102) (N (N (N (N (N (N (L 95 tF) 96 (tS 211) .nil) 97 ⟨.struct [(0,1,ag)],1,24,[.nD]⟩ (L 98 ⟨.struct [(0,1,ag)],1,24,[.nD]⟩)) 99 ⟨.struct [(0,1,aj)],1,24,[.nD]⟩ (N (N (L 100 ⟨.struct [(0,1,aj)],1,24,[.nD]⟩) 101 ⟨.struct [(0,1,ag),(1,1,ag),(2,1,ag),(3,1,aj)],4,80,[z,.nD,.nD,.nD]⟩ .nil) 102 ⟨.struct [(0,1,ag),(1,1,ag),(2,1,ag),(3,1,aj)],4,80,[z,.nD,.nD,.nD]⟩ (L 103 ⟨.struct [(0,1,ag),(1,1,aj)],2,32,[z,.nD]⟩))) 104 ⟨.struct [(0,1,ag),(1,1,aj)],2,32,[z,.nD]⟩ (N (N (N (L 105 (tS 108)) 106 tF .nil) 107 ⟨.struct [(0,2,aj),(2,2,aj)],4,48,[z,.bool ag,z,.nD]⟩ (L 108 ⟨.struct [(0,2,aj),(2,2,aj)],4,48,[z,.bool ag,z,.nD]⟩)) 109 (tP 111) (N (L 110 ⟨.struct [(0,1,ag),(1,1,ag)],2,24,[z,.qP]⟩) 111 ⟨.struct [(0,1,ag),(1,1,ag)],2,24,[z,.qP]⟩ (L 112 tF)))) 113 (tS 197) (N (N (N (N (L 114 ⟨.struct [(0,1,ag),(1,1,ag),(2,1,ag),(3,1,ag),(4,1,ag),(5,1,ag),(6,1,ag)],7,72,[z,z,z,z,z,z,.nD]⟩) 115 ⟨.struct [(0,1,ag),(1,1,ag),(2,1,ag),(3,1,ag),(4,1,ag),(5,1,ag),(6,1,ag)],7,72,[z,z,z,z,z,z,.nD]⟩ .nil) 116 (tP 181) (L 118 tF)) 119 tF (N (L 120 tF) 122 tF (L 123 tF))) 124 tF (N (N (N (L 125 tF) 126 tF .nil) 127 tF (L 128 tF)) 129 ⟨.struct [(0,3,aj),(3,1,ag)],4,56,[.bool ag,.nD,z,.qP]⟩ (N (L 130 ⟨.struct [(0,3,aj),(3,1,ag)],4,56,[.bool ag,.nD,z,.qP]⟩) 131 (tS 40) (L 133 tF))))) 134 (tS 4) (N (N (N (N (N (L 135 tF) 136 tF .nil) 137 tF (L 138 tF)) 139 ⟨.struct [(0,1,ag),(1,1,ag)],2,16,[z,z]⟩ (N (N (L 140 ⟨.struct [(0,1,ag),(1,1,ag)],2,16,[z,z]⟩) 141 tF .nil) 142 ⟨.struct [(0,1,ag),(1,1,ag),(2,1,ag),(3,1,ag)],4,80,[.nD,.nD,.nD,z]⟩ (L 143 ⟨.struct [(0,1,ag),(1,1,ag),(2,1,ag),(3,1,ag)],4,80,[.nD,.nD,.nD,z]⟩))) 144 tF (N (N (N (L 145 tF) 146 ⟨.struct [(0,1,ag),(1,1,ag),(2,1,ag),(3,1,ag)],4,64,[z,z,.nD,.nD]⟩ .nil) 147 ⟨.struct [(0,1,ag),(1,1,ag),(2,1,ag),(3,1,ag)],4,64,[z,z,.nD,.nD]⟩ (L 149 tF)) 150 tF (N (L 151 ⟨.int .u64,1,8,[.int .u64 0]⟩) 152 tF (L 154 (tP 204))))) 155 tF (N (N (N (N (L 156 ⟨.struct [(0,1,ag),(1,1,ag)],2,24,[z,.str []]⟩) 157 ⟨.struct [(0,1,ag),(1,1,ag)],2,24,[z,.str []]⟩ .nil) 158 (tS 104) (L 159 ⟨.struct [(0,1,ag),(1,1,ag)],2,32,[.nD,z]⟩)) 160 ⟨.struct [(0,1,ag),(1,1,ag)],2,32,[.nD,z]⟩ (N (L 162 tF) 163 tF (L 164 tF))) 165 tF (N (N (N (L 167 tF) 168 tF .nil) 169 ⟨.map 157 4,1,8,[.vC]⟩ (L 170 tF)) 171 tF (N (L 172 tF) 174 tF (L 175 tF))))))) 176 tF (N (N (N (N (N (N (N (L 177 tF) 178 (tS 182) .nil) 179 ⟨.map 3 182,1,8,[.vC]⟩ (L 180 ⟨.struct [(0,1,ag),(1,1,ag),(2,1,ag),(3,1,ag),(4,1,ag)],5,72,[.nD,z,.nD,.vC,.vC]⟩)) 181 ⟨.struct [(0,1,ag),(1,1,ag),(2,1,ag),(3,1,ag),(4,1,ag)],5,72,[.nD,z,.nD,.vC,.vC]⟩ (N (N (L 182 (tP 184)) 183 ⟨.struct [(0,7,aj),(7,1,ag)],8,80,[z,z,z,z,z,z,.nD,z]⟩ .nil) 184 ⟨.struct [(0,7,aj),(7,1,ag)],8,80,[z,z,z,z,z,z,.nD,z]⟩ (L 185 tF))) 186 tF (N (N (N (L 187 tF) 188 tF .nil) 189 tF (L 190 tF)) 191 tF (N (L 192 tF) 193 (tP 143) (L 194 tF)))) 195 tF (N (N (N (N (L 196 ⟨.struct [(0,1,ag),(1,1,ag),(2,1,ag),(3,1,ag),(4,1,ag),(5,1,ag),(6,1,ag),(7,1,ag)],8,64,[z,z,z,z,z,z,z,z]⟩) 197 ⟨.struct [(0,1,ag),(1,1,ag),(2,1,ag),(3,1,ag),(4,1,ag),(5,1,ag),(6,1,ag),(7,1,ag)],8,64,[z,z,z,z,z,z,z,z]⟩ .nil) 199 tF (L 200 tF)) 201 ⟨.map 157 3,1,8,[.vC]⟩ (N (L 202 (tS 157)) 203 ⟨.struct [(0,1,ag),(1,1,ag),(2,1,ag)],3,40,[z,.vC,.nD]⟩ (L 204 ⟨.struct [(0,1,ag),(1,1,ag),(2,1,ag)],3,40,[z,.vC,.nD]⟩))) 205 tF (N (N (N (L 206 tF) 207 (tP 160) .nil) 208 ⟨.struct [],0,0,[]⟩ (L 209 (tS 272))) 210 ⟨.struct [(0,1,ag),(1,1,ag),(2,1,ag),(3,1,ag)],4,64,[z,z,.nD,.nD]⟩ (N (L 211 ⟨.struct [(0,1,ag),(1,1,ag),(2,1,ag),(3,1,ag)],4,64,[z,z,.nD,.nD]⟩) 213 tF (L 214 tF))))) 216 tF (N (N (N (N (N (L 217 tF) 218 tF .nil) 219 tF (L 220 tF)) 222 tF (N (N (L 223 ⟨.struct [(0,1,ag),(1,1,ag)],2,32,[.nD,.wC]⟩) 224 ⟨.struct [(0,1,ag),(1,1,ag)],2,32,[.nD,.wC]⟩ .nil) 225 ⟨.map 3 224,1,8,[.vC]⟩ (L 226 tF))) 227 tF (N (N (N (L 228 tF) 229 tF .nil) 230 tF (L 231 tF)) 232 tF (N (L 234 tF) 236 (tS 9) (L 237 tF)))) 238 tF (N (N (N (N (L 239 tF) 240 tF .nil) 241 tF (L 243 tF)) 245 tF (N (L 246 tF) 247 tF (L 248 tF))) 249 ⟨.map 3 248,1,8,[.vC]⟩ (N (N (N (L 250 tF) 251 tF .nil) 252 ⟨.struct [(0,1,ag),(1,1,ag),(2,1,ag),(3,1,ag)],4,32,[.wC,z,z,z]⟩ (L 253 ⟨.struct [(0,1,ag),(1,1,ag),(2,1,ag),(3,1,ag)],4,32,[.wC,z,z,z]⟩)) 255 (tP 71) (N (L 256 tF) 257 (tP 197) (L 258 tF)))))) 259 tF (N (N (N (N (N (N (L 260 tF) 261 tF .nil) 262 tF (L 263 tF)) 264 tF (N (N (L 265 tF) 266 tF .nil) 267 tF (L 268 tF))) 269 tF (N (N (N (L 270 tF) 271 ⟨.struct [(0,1,ag),(1,1,ag)],2,16,[z,z]⟩ .nil) 272 ⟨.struct [(0,1,ag),(1,1,ag)],2,16,[z,z]⟩ (L 273 tF)) 274 (tP 277) (N (L 275 (tS 5)) 276 ⟨.struct [(0,1,ag),(1,1,ag)],2,32,[.uj,.nD]⟩ (L 277 ⟨.struct [(0,1,ag),(1,1,ag)],2,32,[.uj,.nD]⟩)))) 278 tF (N (N (N (N (L 279 tF) 280 tF .nil) 282 tF (L 283 tF)) 284 ⟨.map 3 283,1,8,[.vC]⟩ (N (L 285 tF) 286 tF (L 288 tF))) 289 (tS 253) (N (N (N (L 290 tF) 291 tF .nil) 292 tF (L 293 (tP 5))) 294 tF (N (L 295 tF) 297 tF (L 298 tF))))) 299 tF (N (N (N (N (N (L 300 ⟨.arr 4 9,4,64,[.str [],.str [],.str [],.str []]⟩) 301 ⟨.arr 7 9,7,112,[.str [],.str [],.str [],.str [],.str [],.str [],.str []]⟩ .nil) 302 ⟨.arr 9 9,9,144,[.str [],.str [],.str [],.str [],.str [],.str [],.str [],.str [],.str []]⟩ (L 303 ⟨.arr 3 9,3,48,[.str [],.str [],.str []]⟩)) 305 tF (N (N (L 306 tF) 307 tF .nil) 308 tF (L 309 tF))) 310 tF (N (N (N (L 311 (tS 209)) 312 tF .nil) 313 tF (L 314 ⟨.arr 24 5,24,24,[.int .u8 0,.int .u8 0,.int .u8 0,.int .u8 0,.int .u8 0,.int .u8 0,.int .u8 0,.int .u8 0,.int .u8 0,.int .u8 0,.int .u8 0,.int .u8 0,.int .u8 0,.int .u8 0,.int .u8 0,.int .u8 0,.int .u8 0,.int .u8 0,.int .u8 0,.int .u8 0,.int .u8 0,.int .u8 0,.int .u8 0,.int .u8 0]⟩)) 315 ⟨.int .u64,1,8,[.int .u64 0]⟩ (N (L 316 tF) 317 tF (L 319 tF)))) 320 tF (N (N (N (N (L 321 tF) 322 ⟨.arr 20 315,20,160,[.int .u64 0,.int .u64 0,.int .u64 0,.int .u64 0,.int .u64 0,.int .u64 0,.int .u64 0,.int .u64 0,.int .u64 0,.int .u64 0,.int .u64 0,.int .u64 0,.int .u64 0,.int .u64 0,.int .u64 0,.int .u64 0,.int .u64 0,.int .u64 0,.int .u64 0,.int .u64 0]⟩ .nil) 323 ⟨.int .u32,1,4,[.int .u32 0]⟩ (L 324 ⟨.arr 65 5,65,65,[.int .u8 0,.int .u8 0,.int .u8 0,.int .u8 0,.int .u8 0,.int .u8 0,.int .u8 0,.int .u8 0,.int .u8 0,.int .u8 0,.int .u8 0,.int .u8 0,.int .u8 0,.int .u8 0,.int .u8 0,.int .u8 0,.int .u8 0,.int .u8 0,.int .u8 0,.int .u8 0,.int .u8 0,.int .u8 0,.int .u8 0,.int .u8 0,.int .u8 0,.int .u8 0,.int .u8 0,.int .u8 0,.int .u8 0,.int .u8 0,.int .u8 0,.int .u8 0,.int .u8 0,.int .u8 0,.int .u8 0,.int .u8 0,.int .u8 0,.int .u8 0,.int .u8 0,.int .u8 0,.int .u8 0,.int .u8 0,.int .u8 0,.int .u8 0,.int .u8 0,.int .u8 0,.int .u8 0,.int .u8 0,.int .u8 0,.int .u8 0,.int .u8 0,.int .u8 0,.int .u8 0,.int .u8 0,.int .u8 0,.int .u8 0,.int .u8 0,.int .u8 0,.int .u8 0,.int .u8 0,.int .u8 0,.int .u8 0,.int .u8 0,.int .u8 0,.int .u8 0]⟩)) 325 tF (N (L 326 tF) 327 ⟨.arr 32 5,32,32,[.int .u8 0,.int .u8 0,.int .u8 0,.int .u8 0,.int .u8 0,.int .u8 0,.int .u8 0,.int .u8 0,.int .u8 0,.int .u8 0,.int .u8 0,.int .u8 0,.int .u8 0,.int .u8 0,.int .u8 0,.int .u8 0,.int .u8 0,.int .u8 0,.int .u8 0,.int .u8 0,.int .u8 0,.int .u8 0,.int .u8 0,.int .u8 0,.int .u8 0,.int .u8 0,.int .u8 0,.int .u8 0,.int .u8 0,.int .u8 0,.int .u8 0,.int .u8 0]⟩ (L 328 ⟨.arr 64 5,64,64,[.int .u8 0,.int .u8 0,.int .u8 0,.int .u8 0,.int .u8 0,.int .u8 0,.int .u8 0,.int .u8 0,.int .u8 0,.int .u8 0,.int .u8 0,.int .u8 0,.int .u8 0,.int .u8 0,.int .u8 0,.int .u8 0,.int .u8 0,.int .u8 0,.int .u8 0,.int .u8 0,.int .u8 0,.int .u8 0,.int .u8 0,.int .u8 0,.int .u8 0,.int .u8 0,.int .u8 0,.int .u8 0,.int .u8 0,.int .u8 0,.int .u8 0,.int .u8 0,.int .u8 0,.int .u8 0,.int .u8 0,.int .u8 0,.int .u8 0,.int .u8 0,.int .u8 0,.int .u8 0,.int .u8 0,.int .u8 0,.int .u8 0,.int .u8 0,.int .u8 0,.int .u8 0,.int .u8 0,.int .u8 0,.int .u8 0,.int .u8 0,.int .u8 0,.int .u8 0,.int .u8 0,.int .u8 0,.int .u8 0,.int .u8 0,.int .u8 0,.int .u8 0,.int .u8 0,.int .u8 0,.int .u8 0,.int .u8 0,.int .u8 0,.int .u8 0]⟩))) 329 (tP 343) (N (N (N (L 330 ⟨.struct [(0,1,ag),(1,1,ag),(2,1,ag),(3,1,ag)],4,40,[.uj,.uj,.uj,.str []]⟩) 332 ⟨.arr 0 16,0,0,[]⟩ .nil) 333 ⟨.struct [(0,0,aj)],0,0,[]⟩ (L 337 tF)) 340 ⟨.struct [(0,1,ag),(1,1,ag),(2,1,ag),(3,1,ag),(4,1,ag),(5,1,ag),(6,1,ag),(7,1,ag),(8,1,ag),(9,1,ag),(10,1,ag)],11,48,[.int .u64 0,.int .u64 0,.int .u32 0,.int .u8 0,.int .u8 0,.int .u8 0,.int .u8 0,.wC,.uj,.int .i32 0,.int .i32 0]⟩ (N (L 342 ⟨.struct [(0,1,ag)],1,16,[.str []]⟩) 343 ⟨.struct [(0,1,ag)],1,16,[.str []]⟩ (L 344 tF))))))))
noncomputable def Tryz.fns:BT Func:=(N (N (N (N (N (N (N (L 3 Tryz.f3) 4 Tryz.f4 (L 5 Tryz.f5)) 6 Tryz.f6 (N (L 7 Tryz.f7) 8 Tryz.f8 .nil)) 9 Tryz.f9 (N (N (L 10 Tryz.f10) 11 Tryz.f11 (L 12 Tryz.f12)) 13 Tryz.f13 (N (L 14 Tryz.f14) 15 Tryz.f15 .nil))) 16 Tryz.f16 (N (N (N (L 17 Tryz.f17) 18 Tryz.f18 (L 19 Tryz.f19)) 20 Tryz.f20 (N (L 21 Tryz.f21) 22 Tryz.f22 .nil)) 23 Tryz.f23 (N (N (L 24 Tryz.f24) 25 Tryz.f25 (L 26 Tryz.f26)) 27 Tryz.f27 (N (L 28 Tryz.f28) 29 Tryz.f29 .nil)))) 30 Tryz.f30 (N (N (N (N (L 31 Tryz.f31) 32 Tryz.f32 (L 33 Tryz.f33)) 34 Tryz.f34 (N (L 35 Tryz.f35) 36 Tryz.f36 .nil)) 37 Tryz.f37 (N (N (L 38 Tryz.f38) 39 Tryz.f39 (L 40 Tryz.f40)) 41 Tryz.f41 (N (L 42 Tryz.f42) 43 Tryz.f43 .nil))) 44 Tryz.f44 (N (N (N (L 45 Tryz.f45) 46 Tryz.f46 (L 47 Tryz.f47)) 48 Tryz.f48 (N (L 49 Tryz.f49) 50 Tryz.f50 .nil)) 51 Tryz.f51 (N (N (L 52 Tryz.f52) 53 Tryz.f53 .nil) 54 Tryz.f54 (N (L 55 Tryz.f55) 56 Tryz.f56 .nil))))) 57 Tryz.f57 (N (N (N (N (N (L 58 Tryz.f58) 59 Tryz.f59 (L 60 Tryz.f60)) 61 Tryz.f61 (N (L 62 Tryz.f62) 63 Tryz.f63 .nil)) 64 Tryz.f64 (N (N (L 65 Tryz.f65) 66 Tryz.f66 (L 67 Tryz.f67)) 68 Tryz.f68 (N (L 69 Tryz.f69) 70 Tryz.f70 .nil))) 71 Tryz.f71 (N (N (N (L 72 Tryz.f72) 73 Tryz.f73 (L 74 Tryz.f74)) 75 Tryz.f75 (N (L 76 Tryz.f76) 77 cE .nil)) 78 Tryz.f78 (N (N (L 79 Tryz.f79) 80 Tryz.f80 .nil) 81 Tryz.f81 (N (L 82 Tryz.f82) 83 Tryz.f83 .nil)))) 84 Tryz.f84 (N (N (N (N (L 85 Tryz.f85) 86 Tryz.f86 (L 87 Tryz.f87)) 88 Tryz.f88 (N (L 89 Tryz.f89) 90 Tryz.f90 .nil)) 91 Tryz.f91 (N (N (L 92 Tryz.f92) 93 Tryz.f93 (L 94 Tryz.f94)) 95 kg (N (L 96 kh) 97 Tryz.f97 .nil))) 98 Tryz.f98 (N (N (N (L 99 dw) 100 Tryz.f100 (L 101 Tryz.f101)) 102 Tryz.f102 (N (L 103 Tryz.f103) 104 Tryz.f104 .nil)) 105 Tryz.f105 (N (N (L 106 Tryz.f106) 107 Tryz.f107 .nil) 108 Tryz.f108 (N (L 109 Tryz.f109) 110 Tryz.f110 .nil)))))) 111 Tryz.f111 (N (N (N (N (N (N (L 112 Tryz.f112) 113 Tryz.f113 (L 114 Tryz.f114)) 115 Tryz.f115 (N (L 116 fM) 117 Tryz.f117 .nil)) 118 Tryz.f118 (N (N (L 119 jr) 120 Tryz.f120 (L 121 js)) 122 bc (N (L 123 Tryz.f123) 124 Tryz.f124 .nil))) 125 Tryz.f125 (N (N (N (L 126 Tryz.f126) 127 Tryz.f127 (L 128 Tryz.f128)) 129 Tryz.f129 (N (L 130 Tryz.f130) 131 Tryz.f131 .nil)) 132 Tryz.f132 (N (N (L 133 Tryz.f133) 134 Tryz.f134 (L 135 Tryz.f135)) 136 Tryz.f136 (N (L 137 Tryz.f137) 138 Tryz.f138 .nil)))) 139 Tryz.f139 (N (N (N (N (L 140 Tryz.f140) 141 Tryz.f141 (L 142 Tryz.f142)) 143 Tryz.f143 (N (L 144 Tryz.f144) 145 jt .nil)) 146 jv (N (N (L 147 Tryz.f147) 148 Tryz.f148 (L 149 Tryz.f149)) 150 Tryz.f150 (N (L 151 Tryz.f151) 152 Tryz.f152 .nil))) 153 Tryz.f153 (N (N (N (L 154 Tryz.f154) 155 Tryz.f155 (L 156 Tryz.f156)) 157 Tryz.f157 (N (L 158 Tryz.f158) 159 Tryz.f159 .nil)) 160 Tryz.f160 (N (N (L 161 Tryz.f161) 162 Tryz.f162 .nil) 163 Tryz.f163 (N (L 164 Tryz.f164) 165 Tryz.f165 .nil))))) 166 Tryz.f166 (N (N (N (N (N (L 167 Tryz.f167) 168 Tryz.f168 (L 169 Tryz.f169)) 170 Tryz.f170 (N (L 171 Tryz.f171) 172 Tryz.f172 .nil)) 173 Tryz.f173 (N (N (L 174 Tryz.f174) 175 Tryz.f175 (L 176 Tryz.f176)) 177 Tryz.f177 (N (L 178 Tryz.f178) 179 Tryz.f179 .nil))) 180 Tryz.f180 (N (N (N (L 181 Tryz.f181) 182 Tryz.f182 (L 183 Tryz.f183)) 184 Tryz.f184 (N (L 185 Tryz.f185) 186 Tryz.f186 .nil)) 187 Tryz.f187 (N (N (L 188 Tryz.f188) 189 Tryz.f189 .nil) 190 Tryz.f190 (N (L 191 Tryz.f191) 192 Tryz.f192 .nil)))) 193 Tryz.f193 (N (N (N (N (L 194 Tryz.f194) 195 Tryz.f195 (L 196 Tryz.f196)) 197 Tryz.f197 (N (L 198 Tryz.f198) 199 Tryz.f199 .nil)) 200 Tryz.f200 (N (N (L 201 Tryz.f201) 204 Tryz.f204 (L 205 Tryz.f205)) 207 Tryz.f207 (N (L 208 Tryz.f208) 209 Tryz.f209 .nil))) 210 Tryz.f210 (N (N (N (L 211 Tryz.f211) 212 Tryz.f212 (L 213 Tryz.f213)) 214 Tryz.f214 (N (L 215 Tryz.f215) 216 Tryz.f216 .nil)) 217 Tryz.f217 (N (N (L 218 Tryz.f218) 219 Tryz.f219 .nil) 220 Tryz.f220 (N (L 221 Tryz.f221) 222 Tryz.f222 .nil)))))))
def Tryz.live:BT Nat:=(N (N (N (N (N (N (N (L 3 35218732883959) 4 81130257423585920070131644399567 (L 5 20282409603656282110240556613407)) 6 8797166791631 (N (L 7 9445021196115443195903) 8 1284520576830907153924047 .nil)) 9 2251937269424119 (N (N (L 10 4083471642060274948278853338158436843503) 11 8175 (L 12 7)) 13 17303031 (N (L 14 4612812064639959007) 15 207 .nil))) 16 70845017306208267517903 (N (N (N (L 17 33685943) 18 31 (L 19 268470387)) 20 4159 (N (L 21 23) 22 23 .nil)) 23 14335 (N (N (L 24 7) 25 36524002295 (L 26 33557455)) 27 31 (N (L 28 638777136133500232728028643279) 29 23 .nil)))) 30 15 (N (N (N (N (L 31 2077) 32 2149585151 (L 33 5)) 34 540925 (N (L 35 9007203621079027) 36 263283 .nil)) 37 7 (N (N (L 38 2785366273595414553384992575) 39 20282565482478322020874687348527 (L 40 295219962791579485687)) 41 1237940113072357669249454075 (N (L 42 131191) 43 69226996735 .nil))) 44 983149 (N (N (N (L 45 7) 46 2566129655 (L 47 268470387)) 48 36031478185920503 (N (L 49 2099007) 50 31 .nil)) 51 76561194806677495 (N (N (L 52 4611826824635484151) 53 536871483 .nil) 54 2077 (N (L 55 5) 56 5 .nil))))) 57 4504703438225535 (N (N (N (N (N (L 58 5488420038750559896029471567983428603) 59 83 (L 60 287)) 61 31 (N (L 62 45035996290519027) 63 5 .nil)) 64 33023 (N (N (L 65 262459) 66 7 (L 67 11)) 68 9007199254773821 (N (L 69 77) 70 5 .nil))) 71 16106194419 (N (N (N (L 72 1101690831219) 73 119 (L 74 4620196376434196339)) 75 538854333 (N (L 76 17867066114039) 77 9445318576492100452863 .nil)) 78 541 (N (N (L 79 2899107766173950474215390087288321352934114299) 80 268439295 .nil) 81 7 (N (L 82 19) 83 1073741831 .nil)))) 84 571 (N (N (N (N (L 85 1) 86 9444769005542164140283 (L 87 262707)) 88 7 (N (L 89 2199090887711) 90 2077 .nil)) 91 91 (N (N (L 92 943) 93 5 (L 94 31)) 95 287 (N (L 96 31) 97 2199158520895 .nil))) 98 65615 (N (N (N (L 99 17179869199) 100 19 (L 101 9481627579855335850495)) 102 9373 (N (L 103 21) 104 3 .nil)) 105 19 (N (N (L 106 131339) 107 1099511693427 .nil) 108 92522022212955275391 (N (L 109 4198555) 110 67109427 .nil)))))) 111 17660955854071 (N (N (N (N (N (N (L 112 34387) 113 2077 (L 114 77928346935781219122975)) 115 7 (N (L 116 33261241786543) 117 138351151749653378483 .nil)) 118 7 (N (N (L 119 55) 120 2361471471810991128351 (L 121 65775)) 122 51 (N (L 123 61463) 124 7 .nil))) 125 143 (N (N (N (L 126 87) 127 268435671 (L 128 525363)) 129 71 (N (L 130 67) 131 66483 .nil)) 132 127 (N (N (L 133 1037) 134 35787119 (L 135 71582839)) 136 66099 (N (L 137 275955859571) 138 131635 .nil)))) 139 15 (N (N (N (N (L 140 5) 141 73788102194745311519 (L 142 2077)) 143 83010348331718212735 (N (L 144 264091) 145 5 .nil)) 146 5 (N (N (L 147 2097283) 148 51 (L 149 5)) 150 32887 (N (L 151 5) 152 5 .nil))) 153 711 (N (N (N (L 154 3) 155 5 (L 156 4432676798715)) 157 7 (N (L 158 1127) 159 1 .nil)) 160 1 (N (N (L 161 2113775) 162 1 .nil) 163 1 (N (L 164 1) 165 1 .nil))))) 166 8431 (N (N (N (N (N (L 167 1) 168 5 (L 169 1048695)) 170 5 (N (L 171 524353) 172 19 .nil)) 173 457 (N (N (L 174 461) 175 461 (L 176 461)) 177 21 (N (L 178 9161) 179 2099151 .nil))) 180 21 (N (N (N (L 181 55) 182 295147905181504570311 (L 183 1995)) 184 16631 (N (L 185 33562571) 186 504373101 .nil)) 187 16583 (N (N (L 188 3) 189 3 .nil) 190 3 (N (L 191 3) 192 3 .nil)))) 193 3 (N (N (N (N (L 194 5) 195 5 (L 196 5)) 197 5 (N (L 198 5) 199 5 .nil)) 200 5 (N (N (L 201 5) 204 2147618759 (L 205 23)) 207 3 (N (L 208 65619) 209 17188391667 .nil))) 210 3 (N (N (N (L 211 21) 212 13 (L 213 2923003971560093291123168138537876760321514930163)) 214 20426010943356750102455122975 (N (L 215 525) 216 5 .nil)) 217 16661 (N (N (L 218 13) 219 5 .nil) 220 5 (N (L 221 21) 222 21 .nil)))))))
theorem Tryz.tysB_:aoj ah Tryz.tys=aj:=by kernel_rfl
theorem Tryz.fnsAre_:Zy ah Tryz.fns:=⟨Tryz.func111,⟨Tryz.func57,⟨Tryz.func30,⟨Tryz.func16,⟨Tryz.func9,⟨Tryz.func6,⟨Tryz.func4,⟨Tryz.func3,trivial,trivial⟩,⟨Tryz.func5,trivial,trivial⟩⟩,⟨Tryz.func8,⟨Tryz.func7,trivial,trivial⟩,trivial⟩⟩,⟨Tryz.func13,⟨Tryz.func11,⟨Tryz.func10,trivial,trivial⟩,⟨Tryz.func12,trivial,trivial⟩⟩,⟨Tryz.func15,⟨Tryz.func14,trivial,trivial⟩,trivial⟩⟩⟩,⟨Tryz.func23,⟨Tryz.func20,⟨Tryz.func18,⟨Tryz.func17,trivial,trivial⟩,⟨Tryz.func19,trivial,trivial⟩⟩,⟨Tryz.func22,⟨Tryz.func21,trivial,trivial⟩,trivial⟩⟩,⟨Tryz.func27,⟨Tryz.func25,⟨Tryz.func24,trivial,trivial⟩,⟨Tryz.func26,trivial,trivial⟩⟩,⟨Tryz.func29,⟨Tryz.func28,trivial,trivial⟩,trivial⟩⟩⟩⟩,⟨Tryz.func44,⟨Tryz.func37,⟨Tryz.func34,⟨Tryz.func32,⟨Tryz.func31,trivial,trivial⟩,⟨Tryz.func33,trivial,trivial⟩⟩,⟨Tryz.func36,⟨Tryz.func35,trivial,trivial⟩,trivial⟩⟩,⟨Tryz.func41,⟨Tryz.func39,⟨Tryz.func38,trivial,trivial⟩,⟨Tryz.func40,trivial,trivial⟩⟩,⟨Tryz.func43,⟨Tryz.func42,trivial,trivial⟩,trivial⟩⟩⟩,⟨Tryz.func51,⟨Tryz.func48,⟨Tryz.func46,⟨Tryz.func45,trivial,trivial⟩,⟨Tryz.func47,trivial,trivial⟩⟩,⟨Tryz.func50,⟨Tryz.func49,trivial,trivial⟩,trivial⟩⟩,⟨Tryz.func54,⟨Tryz.func53,⟨Tryz.func52,trivial,trivial⟩,trivial⟩,⟨Tryz.func56,⟨Tryz.func55,trivial,trivial⟩,trivial⟩⟩⟩⟩⟩,⟨Tryz.func84,⟨Tryz.func71,⟨Tryz.func64,⟨Tryz.func61,⟨Tryz.func59,⟨Tryz.func58,trivial,trivial⟩,⟨Tryz.func60,trivial,trivial⟩⟩,⟨Tryz.func63,⟨Tryz.func62,trivial,trivial⟩,trivial⟩⟩,⟨Tryz.func68,⟨Tryz.func66,⟨Tryz.func65,trivial,trivial⟩,⟨Tryz.func67,trivial,trivial⟩⟩,⟨Tryz.func70,⟨Tryz.func69,trivial,trivial⟩,trivial⟩⟩⟩,⟨Tryz.func78,⟨Tryz.func75,⟨Tryz.func73,⟨Tryz.func72,trivial,trivial⟩,⟨Tryz.func74,trivial,trivial⟩⟩,⟨Tryz.func77,⟨Tryz.func76,trivial,trivial⟩,trivial⟩⟩,⟨Tryz.func81,⟨Tryz.func80,⟨Tryz.func79,trivial,trivial⟩,trivial⟩,⟨Tryz.func83,⟨Tryz.func82,trivial,trivial⟩,trivial⟩⟩⟩⟩,⟨Tryz.func98,⟨Tryz.func91,⟨Tryz.func88,⟨Tryz.func86,⟨Tryz.func85,trivial,trivial⟩,⟨Tryz.func87,trivial,trivial⟩⟩,⟨Tryz.func90,⟨Tryz.func89,trivial,trivial⟩,trivial⟩⟩,⟨Tryz.func95,⟨Tryz.func93,⟨Tryz.func92,trivial,trivial⟩,⟨Tryz.func94,trivial,trivial⟩⟩,⟨Tryz.func97,⟨Tryz.func96,trivial,trivial⟩,trivial⟩⟩⟩,⟨Tryz.func105,⟨Tryz.func102,⟨Tryz.func100,⟨Tryz.func99,trivial,trivial⟩,⟨Tryz.func101,trivial,trivial⟩⟩,⟨Tryz.func104,⟨Tryz.func103,trivial,trivial⟩,trivial⟩⟩,⟨Tryz.func108,⟨Tryz.func107,⟨Tryz.func106,trivial,trivial⟩,trivial⟩,⟨Tryz.func110,⟨Tryz.func109,trivial,trivial⟩,trivial⟩⟩⟩⟩⟩⟩,⟨Tryz.func166,⟨Tryz.func139,⟨Tryz.func125,⟨Tryz.func118,⟨Tryz.func115,⟨Tryz.func113,⟨Tryz.func112,trivial,trivial⟩,⟨Tryz.func114,trivial,trivial⟩⟩,⟨kG,⟨Tryz.func116,trivial,trivial⟩,trivial⟩⟩,⟨Tryz.func122,⟨Tryz.func120,⟨Tryz.func119,trivial,trivial⟩,⟨Tryz.func121,trivial,trivial⟩⟩,⟨Tryz.func124,⟨Tryz.func123,trivial,trivial⟩,trivial⟩⟩⟩,⟨Tryz.func132,⟨Tryz.func129,⟨Tryz.func127,⟨Tryz.func126,trivial,trivial⟩,⟨Tryz.func128,trivial,trivial⟩⟩,⟨Tryz.func131,⟨Tryz.func130,trivial,trivial⟩,trivial⟩⟩,⟨Tryz.func136,⟨Tryz.func134,⟨Tryz.func133,trivial,trivial⟩,⟨Tryz.func135,trivial,trivial⟩⟩,⟨Tryz.func138,⟨Tryz.func137,trivial,trivial⟩,trivial⟩⟩⟩⟩,⟨Tryz.func153,⟨Tryz.func146,⟨Tryz.func143,⟨Tryz.func141,⟨Tryz.func140,trivial,trivial⟩,⟨Tryz.func142,trivial,trivial⟩⟩,⟨Tryz.func145,⟨Tryz.func144,trivial,trivial⟩,trivial⟩⟩,⟨Tryz.func150,⟨kH,⟨kI,trivial,trivial⟩,⟨kJ,trivial,trivial⟩⟩,⟨Tryz.func152,⟨Tryz.func151,trivial,trivial⟩,trivial⟩⟩⟩,⟨Tryz.func160,⟨Tryz.func157,⟨Tryz.func155,⟨Tryz.func154,trivial,trivial⟩,⟨Tryz.func156,trivial,trivial⟩⟩,⟨Tryz.func159,⟨Tryz.func158,trivial,trivial⟩,trivial⟩⟩,⟨Tryz.func163,⟨Tryz.func162,⟨Tryz.func161,trivial,trivial⟩,trivial⟩,⟨Tryz.func165,⟨Tryz.func164,trivial,trivial⟩,trivial⟩⟩⟩⟩⟩,⟨Tryz.func193,⟨Tryz.func180,⟨Tryz.func173,⟨kK,⟨Tryz.func168,⟨Tryz.func167,trivial,trivial⟩,⟨Tryz.func169,trivial,trivial⟩⟩,⟨kL,⟨kM,trivial,trivial⟩,trivial⟩⟩,⟨Tryz.func177,⟨Tryz.func175,⟨Tryz.func174,trivial,trivial⟩,⟨Tryz.func176,trivial,trivial⟩⟩,⟨Tryz.func179,⟨Tryz.func178,trivial,trivial⟩,trivial⟩⟩⟩,⟨Tryz.func187,⟨Tryz.func184,⟨Tryz.func182,⟨Tryz.func181,trivial,trivial⟩,⟨Tryz.func183,trivial,trivial⟩⟩,⟨Tryz.func186,⟨Tryz.func185,trivial,trivial⟩,trivial⟩⟩,⟨Tryz.func190,⟨Tryz.func189,⟨Tryz.func188,trivial,trivial⟩,trivial⟩,⟨Tryz.func192,⟨Tryz.func191,trivial,trivial⟩,trivial⟩⟩⟩⟩,⟨Tryz.func210,⟨Tryz.func200,⟨Tryz.func197,⟨Tryz.func195,⟨Tryz.func194,trivial,trivial⟩,⟨Tryz.func196,trivial,trivial⟩⟩,⟨Tryz.func199,⟨Tryz.func198,trivial,trivial⟩,trivial⟩⟩,⟨Tryz.func207,⟨Tryz.func204,⟨kN,trivial,trivial⟩,⟨Tryz.func205,trivial,trivial⟩⟩,⟨kO,⟨Tryz.func208,trivial,trivial⟩,trivial⟩⟩⟩,⟨kP,⟨kQ,⟨kR,⟨kS,trivial,trivial⟩,⟨kT,trivial,trivial⟩⟩,⟨kU,⟨Tryz.func215,trivial,trivial⟩,trivial⟩⟩,⟨kV,⟨kW,⟨kX,trivial,trivial⟩,trivial⟩,⟨kY,⟨kZ,trivial,trivial⟩,trivial⟩⟩⟩⟩⟩⟩⟩
theorem Tryz.entersB_:abt Tryz.fns=aj:=by kernel_rfl
theorem Tryz.mixed_:ah.follows .mixedOrders=aj:=by kernel_rfl
end
end Go.Proofs
namespace Go.Sx
def Yn(P:Program)(t:Nat):Bool:=
 (match P.underlying t with
  |some (.struct fs)=>match fs.toList with
   |[f,g]=>f.name != "_" && g.name != "_" && f.offset==0&&g.offset==1&&(match P.underlying f.type with|some (.int .i64)=>aj|_=>ag)&&(match P.underlying g.type with|some .string=>aj|_=>ag)
   |_=>ag
  |_=>ag) && !P.stoodInHeld t
section
variable{P:Program}
theorem abV{t:Nat}{d:TypeDesc}(hu:P.underlying t=ae d)(hd:(match d with| .struct _| .array _ _=>aj|_=>ag)=ag){cs:Array Value}{j:Nat}{v:Value}(hj:cs[j]?=ae v)(w:World):(part t cs j).run P w=.ok v w:=by
 cases d<;>first|(simp at hd;done) |simp[part,isAgg,run_underlying hu,hj]
theorem ZI{t:Nat}(h:Yn P t=aj):Jc P t:=by
 unfold Yn at h;rw[al] at h;obtain ⟨h1,h2⟩:=h;have h2:P.stoodInHeld t=ag:=by simpa using h2
 split at h1
 ·rename_i fs hu
  split at h1
  ·rename_i f g hl
   simp only[al,bne_iff_ne,ne_eq,beq_iff_eq] at h1;obtain ⟨⟨⟨⟨⟨a1,a2⟩,a3⟩,a4⟩,a5⟩,a6⟩:=h1;have uf:P.underlying f.type=ae (.int .i64):=by
    split at a5
    ·assumption
    ·cases a5
   have ug:P.underlying g.type=ae .string:=by
    split at a6
    ·assumption
    ·cases a6
   have hfs:fs=#[f,g]:=by
    obtain ⟨l⟩:=fs;have hl:l=[f,g]:=hl;rw[hl]
   have p0 (n:rC) (w:World):(part f.type #[.int .i64 n.1,.string ⟨n.2.toArray⟩] 0).run P w=.ok (.int .i64 n.1) w:=abV uf rfl rfl w;have p1 (n:rC) (w:World):(part g.type #[.int .i64 n.1,.string ⟨n.2.toArray⟩] 1).run P w=.ok (.string ⟨n.2.toArray⟩) w:=abV ug rfl rfl w;refine ⟨⟨fs,hu⟩,fun em n w=>?_,fun n m w=>?_⟩
   ·have ci:∀(d:Nat) (k:Int),(cz em (d+1) f.type (.int .i64 k)).run P w=.ok () w:=fun d k=>by simp[cz,run_underlying uf]
    have cs:∀(d:Nat) (s:ByteArray),(cz em (d+1) g.type (.string s)).run P w=.ok () w:=fun d s=>by simp[cz,run_underlying ug]
    have:∀d:Nat,(cz em (d+2) t (qx n)).run P w=.ok () w:=fun d=>by
     unfold qx;rw[cz];simp[run_underlying hu,hfs,a1,a2,a3,a4,p0,p1,ci,cs]
    exact this 9998
   ·have hf:P.fieldsOf t=fs:=by simp[Program.fieldsOf,hu]
    have he:=run_equalIn_struct (P:=P) w 9999 t #[.int .i64 n.1,.string ⟨n.2.toArray⟩] #[.int .i64 m.1,.string ⟨m.2.toArray⟩] (by rw[hf];exact hu) h2;have q1:=run_equalIn_int (P:=P) w 9998 f.type .i64 .i64 n.1 m.1 uf;have q2:=run_equalIn_string (P:=P) w 9998 g.type ⟨n.2.toArray⟩ ⟨m.2.toArray⟩ ug;show (Op.equalIn 10000 t (qx n) (qx m)).run P w=_;unfold qx;rw[he,hf,hl];simp only[Op.eqFields,a1,a2,a3,a4,p0,p1,q1,q2,Xt,ne_eq,not_false_eq_true,if_true,Sem.run_bind,Result.andThen_ok,Sem.run_ite,Sem.run_pure];obtain ⟨x,l⟩:=n;obtain ⟨y,k⟩:=m;by_cases q:x=y<;>by_cases q2:l=k<;>simp[q,q2]
  ·cases h1
 ·cases h1
end
end Go.Sx
namespace Go.Proofs
open Go Go.Sx
abbrev Wd:=Nat->Nat->List UInt8
def O7(W:Wd)(g:Nat)(n:Nat):List Sh:=match n with
 |3=>[.str (W g 0),.str (W g 1),.str (W g 2)] |4=>[.str (W g 0),.str (W g 1),.str (W g 2),.str (W g 3)] |7=>[.str (W g 0),.str (W g 1),.str (W g 2),.str (W g 3),.str (W g 4),.str (W g 5),.str (W g 6)] |9=>[.str (W g 0),.str (W g 1),.str (W g 2),.str (W g 3),.str (W g 4),.str (W g 5),.str (W g 6),.str (W g 7),.str (W g 8)] |_=>[]
def pow10:List Int:=[1,10,100,1000,10000,100000,1000000,10000000,100000000,1000000000,10000000000,100000000000,1000000000000,10000000000000,100000000000000,1000000000000000,10000000000000000,100000000000000000,1000000000000000000,10000000000000000000]
def nY(W:Wd):List (Nat×Sh):=[(0,.er 0 329),(1,.er 1 329),(2,.er 2 329),(4,.er 4 329),(5,.er 5 329),(6,.er 6 329),(7,.er 7 329),(8,.er 8 329),(9,.er 9 329),(10,.er 10 329),(11,.er 11 329),(12,.er 12 329),(13,.er 13 329),(14,.er 14 329),(15,.er 15 329),
 (16,.mV (O7 W 16 4)),(17,.mV (O7 W 17 7)),(18,.mV (O7 W 18 9)),(19,.mV (O7 W 19 3)),(20,.mV (O7 W 20 4)),(21,.mV (O7 W 21 4)),(23,.mV (pow10.map (az .u64)))]
def W7:Wd:=fun g i=>(match g,i with
 |16,0=>[114,101,103,105,115,116,101,114] |16,1=>[99,111,117,110,116,101,114] |16,2=>[113,117,101,117,101] |16,3=>[109,97,112] |17,0=>[98,101,103,105,110] |17,1=>[99,97,108,108] |17,2=>[114,101,116,117,114,110] |17,3=>[116,114,121] |17,4=>[99,111,109,109,105,116] |17,5=>[97,98,111,114,116] |17,6=>[99,97,110,99,101,108] |18,0=>[114,101,97,100] |18,1=>[119,114,105,116,101] |18,2=>[97,100,100] |18,3=>[103,101,116] |18,4=>[101,110,113] |18,5=>[100,101,113] |18,6=>[112,117,116] |18,7=>[108,111,111,107] |18,8=>[100,101,108] |19,0=>[111,107] |19,1=>[110,111,110,101] |19,2=>[118,97,108] |20,0=>[108,105,118,101] |20,1=>[112,101,110,100,105,110,103] |20,2=>[99,111,109,109,105,116,116,101,100] |20,3=>[97,98,111,114,116,101,100] |21,0=>[115,101,114,105,97,108] |21,1=>[115,116,114,105,99,116] |21,2=>[102,105,110,97,108] |21,3=>[111,112,97,113,117,101] |_,_=>[])
def noSpec:Nat->Option (List Sh->Tree Sh):=fun _=>aq
def ajA:Nat->Option VT
 |169=>ae .bool |201=>ae .int |_=>aq
theorem afV(t:Nat)(h:List.contains [157] t=aj):Jc ah t:=by
 obtain rfl:t=157:=by simpa using h
 exact ZI (by kernel_rfl)
noncomputable def C7(A:Prim)(W:Wd)(spec:Nat->Option (List Sh->Tree Sh))(stop:Nat->List Nat->Bool):Ctx:=
 {A,tys:=Tryz.tys,fns:=Tryz.fns,spec,eqs:=[272,55],NP:=[329],Dq:=stop,gls:=nY W,live:=Tryz.live,Uy:=[157],Y4:=ajA}
theorem aon:OT ah Tryz.tys [272,55]=aj:=by kernel_rfl
theorem aoo:abA ah [329]=aj:=by kernel_rfl
def ajB:Nat->Option Nat
 |182=>ae 272 |_=>aq
def aek:Nat->Option Nat
 |208=>ae 272 |_=>aq
noncomputable def QC(A:Prim)(W:Wd)(spec:Nat->Option (List Sh->Tree Sh))(stop:Nat->List Nat->Bool):Ctx:=
 {A,tys:=Tryz.tys,fns:=Tryz.fns,spec,eqs:=[272,55],NP:=[329],Dq:=stop,gls:=nY W,live:=Tryz.live,Uy:=[157],Y4:=ajA,ins:=ajB,lend:=fun g=>g==181||g==184,grow:=aek}
theorem C7.ok(spec:Nat->Option (List Sh->Tree Sh))(stop:Nat->List Nat->Bool):oh ah (C7 mD W7 spec stop):=
 ⟨Vj Tryz.tysB_,He Tryz.fnsAre_,rfl,Tryz.mixed_,fun t i h hi xs ys w h1 h2 x y=>Qx (Ho aon t i h hi) xs ys w h1 h2 x y,OQ aoo,afV⟩
theorem QC.ok(spec:Nat->Option (List Sh->Tree Sh))(stop:Nat->List Nat->Bool):oh ah (QC mD W7 spec stop):=
 ⟨Vj Tryz.tysB_,He Tryz.fnsAre_,rfl,Tryz.mixed_,fun t i h hi xs ys w h1 h2 x y=>Qx (Ho aon t i h hi) xs ys w h1 h2 x y,OQ aoo,afV⟩
theorem C7.Gh{spec:Nat->Option (List Sh->Tree Sh)}{stop:Nat->List Nat->Bool}(hs:∀g F,spec g=ae F->nG ah (nY W7) g F)(he:∀g,(spec g).isSome=aj->(Tryz.fns.get g).isSome=aj):oH ah (C7 mD W7 spec stop):=
 ⟨hs,fun g h=>by
  rcases h with h|h
  ·exact wP Tryz.fnsAre_ Tryz.entersB_ g (he g h)
  ·exact wP Tryz.fnsAre_ Tryz.entersB_ g h,fun _ _ _ h=>(by cases h),fun _ _ _ h=>(by cases h)⟩
theorem BK(stop:Nat->List Nat->Bool):oH ah (C7 mD W7 noSpec stop):=C7.Gh (fun _ _ h=>by cases h) (fun _ h=>by cases h)
def rF:Nat->Bool:=fun _=>ag
def ny:Nat->List Nat->Bool:=fun _ _=>aj
abbrev L0:Nat:=1000000000000000000000000000000
def ni:Nat->List Nat->Bool:=fun _ _=>ag
end Go.Proofs
namespace Go.Sx
open Go.RowKit (Below)
theorem VK{H:Mem}{w w':World}{s:Sh}{v:Value}(hs:∀b0,(pY s b0).2=([],b0))(hd:∀b0,Den H (fun _=>aq) (pY s b0).1 v)(on:H.on w)(h:Below w.heap.size w w'):qR H w s v H w':=by
 have hb (b:Nat) (o:Obj) (e:H b=ae o):b<w.heap.size:=(aM.1 (on b o e)).1;refine ⟨fun _ _ e=>e,fun b o e=>?_,h.os,h.tape,h.output,h.size,h.block,fun b hb=>.inl hb,fun b0=>⟨fun _=>aq,fun i hi=>(hi rfl).elim,fun i b hb=>by simp[bk] at hb,hd b0,?_⟩⟩
 ·rw[h.block b (hb b o e)];exact on b o e
 ·rw[hs b0]
  exact ⟨fun _ _ h=>by simp[qK,mG] at h,fun _ _ _ _ _ h=>by simp[qK,mG] at h⟩
theorem SK{P:Program}{gls:List (Nat×Sh)}{f:Nat}{F:List Sh->Tree Sh}
  (h:∀(H:Mem) (w:World) (nV:List Sh) (args:List Value) (φ:Sh->Prop),H.on w->qh gls H->qQ H nV args->(F nV).All φ->
   ∃s v,φ s/\(∀b0,(pY s b0).2=([],b0))/\(∀b0,Den H (fun _=>aq) (pY s b0).1 v)/\Calls P f args.toArray w fun e w'=>e=.returned v/\Below w.heap.size w w'):nG P gls f F:=by
 intro H w nV args φ on hg hr hφ;obtain ⟨s,v,hs,h1,h2,hc⟩:=h H w nV args φ on hg hr hφ;exact hc.mono fun e w' ⟨he,hw⟩=>⟨v,s,H,he,hs,VK h1 h2 on hw⟩
mutual
def O9:Sh->Sh
 | .os _ st n g=>.sl st n g | .agg l=>.agg (Pg l) | .mV l=>.mV (Pg l) |s=>s
def Pg:List Sh->List Sh
 |[]=>[] |x::r=>O9 x::Pg r
end
def ajC(H:Mem)(E:Env)(l:List (Nat×SB)):Prop:=∀i e st n g,(i,SB.own e st n g)∈l->∃v,E i=ae v/\Rep H (.sl st n g) v
theorem QD(x:Value):yP (SV.lit x)=aj:=by cases x<;>rfl
mutual
theorem ahi:∀s:Sh,yP (Qa s)=aj
 | .agg l=>by simpa[Qa,yP] using Ea l | .mV l=>by simpa[Qa,yP] using Ea l | .fn f l=>by simpa[Qa,yP] using Ea l | .i _ _=>rfl | .b _=>rfl | .v x=>QD x | .pt _=>rfl | .str _=>rfl | .sl _ _ _=>rfl | .os _ _ _ _=>rfl | .pV _ _=>rfl | .er _ _=>rfl
theorem Ea:∀l:List Sh,Cj (Iz l)=aj
 |[]=>rfl |x::r=>by simp[Iz,Cj,ahi x,Ea r]
end
theorem abW(f:Nat)(l:List Sh):yP (.fn f (Iz l))=aj:=by simpa[yP] using Ea l
mutual
theorem abX{H:Mem}{E:Env}:∀(s:Sh) (b:Nat) (v:Value),ajC H E (pY s b).2.1->Den H E (pY s b).1 v->∀b',Den H CO (pY (O9 s) b').1 v/\(pY (O9 s) b').2=([],b')
 | .os e st n g,b,v,hf,h,b'=>by
  obtain ⟨h1,_⟩:=h;obtain ⟨u,h2,h3⟩:=hf b e st n g (by simp[pY]);rw[h1] at h2;cases h2;exact ⟨h3,rfl⟩
 | .agg l,b,v,hf,h,b'=>by
  obtain ⟨vs,rfl,h⟩:=h;obtain ⟨h1,h2⟩:=QE l b vs.toList hf h b';exact ⟨⟨vs,rfl,h1⟩,h2⟩
 | .mV l,b,v,hf,h,b'=>by
  obtain ⟨vs,rfl,h⟩:=h;obtain ⟨h1,h2⟩:=QE l b vs.toList hf h b';exact ⟨⟨vs,rfl,h1⟩,h2⟩
 | .i k n,b,v,_,h,b'=>⟨h,rfl⟩ | .b x,b,v,_,h,b'=>⟨h,rfl⟩ | .v x,b,v,_,h,b'=>⟨Dy (E:=E) (QD x) h,rfl⟩ | .str l,b,v,_,h,b'=>⟨h,rfl⟩ | .sl st n g,b,v,_,h,b'=>⟨h,rfl⟩ | .pV t x,b,v,_,h,b'=>⟨h,rfl⟩ | .fn f l,b,v,_,h,b'=>⟨Dy (E:=E) (x:=.fn f (Iz l)) (abW f l) h,rfl⟩ | .er g T,b,v,_,h,b'=>⟨h,rfl⟩ | .pt l,b,v,_,h,b'=>⟨h,rfl⟩
theorem QE{H:Mem}{E:Env}:∀(l:List Sh) (b:Nat) (vs:List Value),ajC H E (sN l b).2.1->mW H E (sN l b).1 vs->∀b',mW H CO (sN (Pg l) b').1 vs/\(sN (Pg l) b').2=([],b')
 |[],_,[],_,_,_=>⟨trivial,rfl⟩ |[],_,_::_,_,h,_=>h.elim |_::_,_,[],_,h,_=>h.elim |x::r,b,v::vs,hf,h,b'=>by
  obtain ⟨h1,h2⟩:=h;obtain ⟨q1,q2⟩:=abX x b v (fun i e st n g hm=>hf i e st n g (by simp[sN,hm])) h1 b';obtain ⟨q3,q4⟩:=QE r _ vs (fun i e st n g hm=>hf i e st n g (by simp[sN,hm])) h2 b';simp only[Pg,sN];rw[q2];simp only[eF];exact ⟨⟨q1,q3⟩,q4⟩
end
theorem Jw(hp:List (Nat×SB)):∀l l':List (Nat×SB),qK hp (l++l')=qK (qK hp l) l'
 |[],_=>rfl |(i,b)::l,l'=>Jw (hins hp i b) l l'
theorem MS:∀(l:List (Nat×SB)) (i:Nat) (x:SB),mG (qK [] l) i=ae x->(i,x)∈l
 |[],_,_,h=>by simp[qK,mG] at h |(j,b)::l,i,x,h=>by
  rw[qK,vH] at h;cases hq:mG (qK [] l) i with
  |some y=>
   rw[hq] at h;cases h;exact List.mem_cons_of_mem _ (MS l i _ hq)
  |none=>
   rw[hq] at h;simp only[tV] at h;grind [mG]
structure Jy(l:List (Nat×SB))(b c:Nat):Prop where
 le:b<=c
 rng:∀i x,(i,x)∈l->b<=i/\i<c
 own:∀i x,(i,x)∈l->∃e st n g,x=.own e st n g
 at_:∀i x,(i,x)∈l->mG (qK [] l) i=ae x
theorem Jy.nil(b:Nat):Jy [] b b:=⟨aV _,fun _ _ h=>by simp at h,fun _ _ h=>by simp at h,fun _ _ h=>by simp at h⟩
theorem Jy.append{l l':List (Nat×SB)}{b c d:Nat}(h:Jy l b c)(h':Jy l' c d):Jy (l++l') b d:=by
 refine ⟨Nat.le_trans h.le h'.le,fun i x hm=>?_,fun i x hm=>?_,fun i x hm=>?_⟩
 ·rcases aU.1 hm with hm|hm
  ·have:=h.rng i x hm;have:=h'.le;omega
  ·have:=h'.rng i x hm;have:=h.le;omega
 ·rcases aU.1 hm with hm|hm
  ·exact h.own i x hm
  ·exact h'.own i x hm
 ·rw[Jw,vH]
  rcases aU.1 hm with hm|hm
  ·cases hq:mG (qK [] l') i with
   |none=>exact h.at_ i x hm |some y=>
    have h1:=h'.rng i y (MS l' i y hq);have h2:=h.rng i x hm;omega
  ·rw[h'.at_ i x hm]
mutual
theorem Yo:∀(s:Sh) (b:Nat),Jy (pY s b).2.1 b (pY s b).2.2
 | .os e st n g,b=>by
  simp only[pY];refine ⟨jT b,fun i x hm=>?_,fun i x hm=>?_,fun i x hm=>?_⟩<;>simp at hm<;>obtain ⟨rfl,rfl⟩:=hm
  ·omega
  ·exact ⟨_,_,_,_,rfl⟩
  ·simp[qK,hins,mG]
 | .agg l,b=>MV l b | .mV l,b=>MV l b | .i _ _,b=>.nil b | .b _,b=>.nil b | .v _,b=>.nil b | .str _,b=>.nil b | .sl _ _ _,b=>.nil b | .pV _ _,b=>.nil b | .fn _ _,b=>.nil b | .er _ _,b=>.nil b | .pt _,b=>.nil b
theorem MV:∀(l:List Sh) (b:Nat),Jy (sN l b).2.1 b (sN l b).2.2
 |[],b=>.nil b |x::r,b=>(Yo x b).append (MV r _)
end
theorem MW:∀(ids:List Nat) (hp:List (Nat×SB)),(∀i x,mG hp i=ae x->(∃e st n g,x=.own e st n g)\/∃st n g,x=.fz st n g)->(∀i,i∈ids->mG hp i≠aq)->
  ∃hp',vF ids.length hp ids=ae hp'/\(∀i st n g,mG hp i=ae (.fz st n g)->mG hp' i=ae (.fz st n g))/\∀i e st n g,i∈ids->mG hp i=ae (.own e st n g)->mG hp' i=ae (.fz st n g)
 |[],hp,_,_=>⟨hp,rfl,fun _ _ _ _ h=>h,fun _ _ _ _ _ h=>by simp at h⟩ |id::ids,hp,ho,hi=>by
  cases hl:mG hp id with
  |none=>simp_all |some x=>
   rcases ho id x hl with ⟨e,st,n,g,rfl⟩ |⟨st,n,g,rfl⟩
   ·have look (i:Nat):mG (hset hp id (.fz st n g)) i=bif id==i then ae (.fz st n g) else mG hp i:=by rw[sZ,hl];rfl
    obtain ⟨hp',h1,h2,h3⟩:=MW ids (hset hp id (.fz st n g)) (fun i x h=>by
     grind) (fun i hm=>by
     grind)
    grind [vF]
   ·obtain ⟨hp',h1,h2,h3⟩:=MW ids hp ho (fun i hm=>hi i (by simp[hm]))
    grind [vF]
theorem qR.O9{H:Mem}{w:World}{s:Sh}{v:Value}{H':Mem}{w':World}(r:qR H w s v H' w'):∃H2,qR H w (O9 s) v H2 w':=by
 obtain ⟨E1,h1,h2,h3,h4⟩:=r.res 0;have ids:=Yo s 0;have oQ:rW ⟨w,fun _=>False,H⟩ H' w':=⟨r.os,r.tape,r.output,r.size,fun b hb _=>r.old b hb,r.on,r.yF,fun b hb=>(r.fresh b hb).imp id .inl⟩;obtain ⟨hp',a1,a2,a3⟩:=MW ((pY s 0).2.1.map (·.1)) (qK [] (pY s 0).2.1) (fun i x h=>.inl (ids.own i x (MS _ i x h))) (fun i hm=>by
  obtain ⟨⟨j,x⟩,hm',rfl⟩:=bN.1 hm;show mG _ j≠aq;rw[ids.at_ j x hm'];simp)
 obtain ⟨H2,b1,b2,b3,_⟩:=xZ a1 h4 oQ;have fz:ajC H2 E1 (pY s 0).2.1:=fun i e st n g hm=>b2.ent i _ (a3 i e st n g (bN.2 ⟨_,hm,rfl⟩) (ids.at_ i _ hm));have hd:=abX s 0 v fz (Den.le b1 (fun _ _ e=>e) h3);refine ⟨H2,b3.le,b3.on,r.os,r.tape,r.output,r.size,r.old,fun b hb=>?_,fun b0=>⟨CO,fun i hi=>(hi rfl).elim,fun i b hb=>by simp[bk,CO] at hb,(hd b0).1,?_⟩⟩
 ·(rcases b3.fresh b hb with h|h|h)<;>simp_all
 ·rw[(hd b0).2]
  exact Gg
theorem nG.O9{P:Program}{gls:List (Nat×Sh)}{f:Nat}{F F':List Sh->Tree Sh}(h:nG P gls f F)(hF:∀nV (φ:Sh->Prop),(F' nV).All φ->(F nV).All fun s=>φ (Go.Sx.O9 s)):nG P gls f F':=
 fun H w nV args φ on hg hr hφ=>(h H w nV args _ on hg hr (hF nV φ hφ)).mono fun _ _ ⟨v,_,_,he,hs,r⟩=>let ⟨H2,r2⟩:=r.O9;⟨v,_,H2,he,hs,r2⟩
end Go.Sx
namespace Go.Pl
open Go Go.Sx
structure Oj where
 kind:Int
 init:Int
 deriving DecidableEq,Inhabited
structure Pr where
 key:Int
 val:Int
 deriving DecidableEq,Inhabited
structure Cl where
 obj:Int
 op:Int
 key:Int
 val:Int
 deriving DecidableEq,Inhabited
def obR(o:Oj):List Sh:=[.i .i64 o.kind,.i .i64 o.init]
def prR(e:Pr):List Sh:=[.i .i64 e.key,.i .i64 e.val]
def clR(e:Cl):List Sh:=[.i .i64 e.obj,.i .i64 e.op,.i .i64 e.key,.i .i64 e.val]
def stR(s:List UInt8):List Sh:=[.str s]
def inR(n:Int):List Sh:=[.i .i64 n]
class Row(α:Type)where
 put:α->List Sh
 get:List Sh->Option α
 rJ:∀l a,get l=ae a->put a=l
 get_put:∀a,get (put a)=ae a
 zX:α
instance:Row Oj where
 put:=obR
 get l:=match l with
  |[.i .i64 a,.i .i64 b]=>ae ⟨a,b⟩ |_=>aq
 rJ l a h:=by
  split at h
  ·cases h;rfl
  ·cases h
 get_put a:=rfl
 zX:=⟨0,0⟩
instance:Row Pr where
 put:=prR
 get l:=match l with
  |[.i .i64 a,.i .i64 b]=>ae ⟨a,b⟩ |_=>aq
 rJ l a h:=by
  split at h
  ·cases h;rfl
  ·cases h
 get_put a:=rfl
 zX:=⟨0,0⟩
instance:Row Cl where
 put:=clR
 get l:=match l with
  |[.i .i64 a,.i .i64 b,.i .i64 c,.i .i64 d]=>ae ⟨a,b,c,d⟩ |_=>aq
 rJ l a h:=by
  split at h
  ·cases h;rfl
  ·cases h
 get_put a:=rfl
 zX:=⟨0,0,0,0⟩
instance:Row (List UInt8) where
 put:=stR
 get l:=match l with
  |[.str a]=>ae a |_=>aq
 rJ l a h:=by
  split at h
  ·cases h;rfl
  ·cases h
 get_put a:=rfl
 zX:=[]
instance:Row Int where
 put:=inR
 get l:=match l with
  |[.i .i64 a]=>ae a |_=>aq
 rJ l a h:=by
  split at h
  ·cases h;rfl
  ·cases h
 get_put a:=rfl
 zX:=0
def okB(α:Type)[Row α](n:Nat)(g:Nat->List Sh):Bool:=
 match n with
 |0=>aj |n+1=>okB α n g&&(Row.get (α:=α) (g n)).isSome
def mJ{α:Type}[Row α](g:Nat->List Sh)(i:Nat):α:=(Row.get (g i)).getD Row.zX
def lst(α:Type)[Row α](n:Nat)(g:Nat->List Sh):List α:=(aE n).map (mJ g)
def nth{α:Type}[Row α](l:List α)(i:Nat):α:=l.getD i Row.zX
def mF{α:Type}[Row α](o:Nat->α):Nat->List Sh:=fun j=>Row.put (o j)
section
variable{α:Type}[Row α]
theorem BD{n:Nat}{g:Nat->List Sh}(h:okB α n g=aj):∀i,i<n->g i=Row.put (mJ (α:=α) g i):=by
 induction n with
 |zero=>omega |succ n ih=>
  simp only[okB,al] at h;grind [bJ,mJ,Row.rJ]
theorem rZ(o:Nat->α):∀n,okB α n (mF o)=aj
 |0=>rfl |n+1=>by simp[okB,rZ o n,mF,Row.get_put]
theorem Ph{g:Nat->List Sh}{o:Nat->α}:∀{n:Nat},(∀i,i<n->g i=Row.put (o i))->okB α n g=aj
 |0,_=>rfl |n+1,h=>by simp[okB,Ph (n:=n) fun i hi=>h i (by omega),h n (by omega),Row.get_put]
theorem Eb(o:Nat->α)(i:Nat):mJ (mF o) i=o i:=by simp[mJ,mF,Row.get_put]
@[simp] theorem vK (n:Nat) (g:Nat->List Sh):(lst α n g).length=n:=by simp[lst]
theorem Pj{n:Nat}{g:Nat->List Sh}{i:Nat}(h:i<n):nth (lst α n g) i=mJ g i:=by simp[nth,lst,h]
theorem ajD(o:Nat->α)(n:Nat):lst α n (mF o)=(aE n).map o:=by
 simp_all [lst,List.map_congr_left,Eb]
theorem VL(l:List α):(aE l.length).map (nth l)=l:=by
 (apply jw)<;>simp_all [nth]
theorem BL(l:List α):lst α l.length (mF (nth l))=l:=by rw[ajD,VL]
end
theorem sW{H:Mem}{st n:Nat}{g g':Nat->List Sh}{v:Value}(h:Rep H (.sl st n g) v)(hg:∀j,j<n->g j=g' j):Rep H (.sl st n g') v:=by
 cases h with
 |sl0 _ _ A cap hc=>exact .sl0 _ _ _ _ hc |sl _ _ _ b off cap c h1 h2 h3 h4 h5 h6=>exact .sl _ _ _ b off cap c h1 h2 (fun i hi=>by simp_all) h4 h5 fun i j s hi e=>h6 i j s hi (by simp_all)
theorem uD{α:Type}[Row α]{H:Mem}{st n:Nat}{g:Nat->List Sh}{v:Value}(h:Rep H (.sl st n g) v)(hg:okB α n g=aj):Rep H (.sl st n (mF (mJ (α:=α) g))) v:=
 sW h fun j hj=>BD hg j hj
def len{α:Type}(l:List α):Nat:=l.length
def fO(g:Nat->List Sh):Nat->List Sh:=mF (mJ (α:=Oj) g)
open Go Go.Sx
theorem mQ(a b:Int):mD.lt a b=decide (a<b):=rfl
theorem su(a b:Int):mD.le a b=decide (a<=b):=rfl
theorem nC(a b:Int):mD.eq a b=(a==b):=rfl
theorem oJ(a:Int)(n:Nat):mD.inB a n=decide (0<=a/\a<n):=rfl
theorem zk(a:Int)(n:Nat):mD.upTo a n=decide (0<=a/\a<=n):=rfl
theorem tX(n b:Nat):mD.room n b=decide (n*b<=140737488355328/\n<=maxLen):=rfl
theorem pR(a:Int):mD.toN a=a.toNat:=rfl
theorem nI(n:Nat):mD.nH n=(n:Int):=rfl
theorem qy(n m:Nat):mD.addN n m=n+m:=rfl
theorem VN(n m:Nat):mD.zL n m=n - m:=rfl
theorem QF(n m:Nat):mD.Ux n m=decide (n<=m):=rfl
theorem oP(b:Bool):mD.nt b=!b:=rfl
theorem rV(a b c:Bool):mD.ite a b c=bif a then b else c:=rfl
theorem QG(a b:List UInt8):mD.seq a b=(a==b):=rfl
theorem qG(a b:Int):mD.add .i64 a b=aA.wrap (a+b):=rfl
theorem Dz(a b:Int):mD.sub .i64 a b=aA.wrap (a - b):=rfl
theorem zH(a b:Int):mD.max a b=if b>a then b else a:=rfl
theorem Gi(a b:Int):mD.min a b=if b<a then b else a:=rfl
theorem tY(g:Nat->List Sh)(n:Nat)(h:Nat->List Sh)(i:Nat):mD.snoc g n h i=if i<n then g i else h (i - n):=rfl
theorem pI{a:Int}(h1:-9223372036854775808<=a)(h2:a<=9223372036854775807):aA.wrap a=a:=by
 rw[IntKind.wrap_i64];omega
theorem wZ:ab 1=1:=rfl
theorem maxLen_eq:maxLen=9223372036854775807:=rfl
def oI(n b:Nat):Bool:=mD.room n b
structure pO where
 kind:Int
 num:Int
 q:List Int
 ps:List Pr
 deriving DecidableEq,Inhabited
def qo(s:pO):List Sh:=[.i .i64 s.kind,.i .i64 s.num,.sl 1 (len s.q) (mF (nth s.q)),.sl 2 (len s.ps) (mF (nth s.ps))]
def pz(d:Nat->pO):Nat->List Sh:=fun j=>qo (d j)
end Go.Pl
namespace Go.Proofs
open Go.Shelf
def Tryz.lays156_ren:jx:=⟨fun|156=>117|165=>147|166=>148|169=>149|240=>171|241=>172|276=>202|277=>203|n=>n,fun|31=>236|9=>9|3=>3|4=>4|0=>0|20=>20|72=>277|76=>121|70=>274|37=>275|75=>46|127=>293|164=>304|5=>5|80=>206|n=>n,fun|n=>n⟩
theorem Tryz.lays156:k8 ah Tryz.lays156_ren:={
 mixed:=by kernel_rfl
 f156:=kG.trans (congrArg ae (by kernel_rfl))
 f165:=kI.trans (congrArg ae (by kernel_rfl))
 f166:=kH.trans (congrArg ae (by kernel_rfl))
 f169:=kJ.trans (congrArg ae (by kernel_rfl))
 f240:=kM.trans (congrArg ae (by kernel_rfl))
 f241:=kL.trans (congrArg ae (by kernel_rfl))
 f276:=Tryz.func202.trans (congrArg ae (by kernel_rfl))
 f277:=Tryz.func203.trans (congrArg ae (by kernel_rfl))
 t0:=jy
 a0:=lD
 z0:=k9
 v0:=jU
 t3:=eG
 a3:=lE
 z3:=lc
 v3:=jV
 t4:=jz
 a4:=lF
 z4:=lg
 v4:=jW
 t9:=ei
 a9:=lG
 z9:=lh
 v9:=jX
 t20:=jc
 a20:=lj
 z20:=kv
 v20:=jA
 t31:=Tryz.underlying236
 a31:=Tryz.isAgg236
 z31:=Tryz.sizeOf236
 v31:=Tryz.zeroValue236
 t37:=iM
 a37:=kw
 z37:=kj
 v37:=jd
 t70:=Tryz.underlying274
 a70:=Tryz.isAgg274
 z70:=Tryz.sizeOf274
 v70:=Tryz.zeroValue274
 t72:=Tryz.underlying277
 a72:=Tryz.isAgg277
 z72:=Tryz.sizeOf277
 v72:=Tryz.zeroValue277
 t75:=Tryz.underlying46
 a75:=Tryz.isAgg46
 z75:=Tryz.sizeOf46
 v75:=Tryz.zeroValue46
 t76:=Tryz.underlying121
 a76:=Tryz.isAgg121
 z76:=Tryz.sizeOf121
 v76:=Tryz.zeroValue121
 t127:=Tryz.underlying293
 a127:=Tryz.isAgg293
 z127:=Tryz.sizeOf293
 v127:=Tryz.zeroValue293
 t164:=Tryz.underlying304
 a164:=Tryz.isAgg304
 z164:=Tryz.sizeOf304
 v164:=Tryz.zeroValue304}
theorem Tryz.Builder_Extra_156:Builder.Extra ah Tryz.lays156_ren:={
 sizeBuilder:=by kernel_rfl
 liesBuilder:=by kernel_rfl
 t5:=jB
 a5:=lH
 z5:=lm
 v5:=jY
 infoByte:=by kernel_rfl
 cellsByte:=by kernel_rfl
 sizeByte:=by kernel_rfl
 neB5:=by decide}
open Go.RowKit in
theorem Tryz.strings_Join_none(a:Option Addr)(c:Nat)(sep:ByteArray)(w:World):
  Calls ah 117 #[.slice a 0 c,.string sep] w fun e w'=>e=.returned (.string ⟨#[]⟩)/\w'=w:=Any.strings_Join_none Tryz.lays156 Tryz.Builder_Extra_156 a c sep w
open Go.RowKit in
theorem Tryz.strings_Join(bk o c:Nat)(xs:List ByteArray)(sep:ByteArray)(w:World)(hcells:∀(j:Nat) x,xs[j]?=ae x->w.cell? ⟨bk,o+j,aq⟩=ae (.string x))(hbk:bk<w.heap.size)(hN:xs.length<=140737488355328)(hcap:xs.length<=c)(hlen:(Lib.join (xs.map (·.data.toList)) sep.data.toList).length<=140737488355328):
  Calls ah 117 #[.slice (ae ⟨bk,o,aq⟩) xs.length c,.string sep] w fun e w'=>e=.returned (.string ⟨(Lib.join (xs.map (·.data.toList)) sep.data.toList).toArray⟩)/\Below w.heap.size w w':=Any.strings_Join Tryz.lays156 Tryz.Builder_Extra_156 bk o c xs sep w hcells hbk hN hcap hlen
def Tryz.laysM171_ren:jx:=⟨fun|171=>170|243=>201|246=>209|283=>211|284=>212|285=>213|286=>214|129=>217|317=>216|318=>218|319=>219|320=>220|337=>221|338=>222|n=>n,fun|3=>3|9=>9|2=>2|4=>4|171=>314|0=>0|53=>315|37=>275|5=>5|173=>318|212=>322|51=>323|20=>20|213=>324|46=>151|232=>327|233=>328|n=>n,fun|17=>23|18=>24|19=>25|n=>n⟩
theorem Tryz.laysM171:kx ah Tryz.laysM171_ren:={
 mixed:=by kernel_rfl
 f129:=kP.trans (congrArg ae (by kernel_rfl))
 f171:=kK.trans (congrArg ae (by kernel_rfl))
 f243:=kN.trans (congrArg ae (by kernel_rfl))
 f246:=kO.trans (congrArg ae (by kernel_rfl))
 f283:=kS.trans (congrArg ae (by kernel_rfl))
 f284:=kR.trans (congrArg ae (by kernel_rfl))
 f285:=kT.trans (congrArg ae (by kernel_rfl))
 f286:=kQ.trans (congrArg ae (by kernel_rfl))
 f317:=kU.trans (congrArg ae (by kernel_rfl))
 f318:=kX.trans (congrArg ae (by kernel_rfl))
 f319:=kW.trans (congrArg ae (by kernel_rfl))
 f320:=kV.trans (congrArg ae (by kernel_rfl))
 f337:=kZ.trans (congrArg ae (by kernel_rfl))
 f338:=kY.trans (congrArg ae (by kernel_rfl))
 t0:=jy
 a0:=lD
 z0:=k9
 v0:=jU
 t2:=Tryz.underlying2
 a2:=Tryz.isAgg2
 z2:=Tryz.sizeOf2
 v2:=Tryz.zeroValue2
 t3:=eG
 a3:=lE
 z3:=lc
 v3:=jV
 t4:=jz
 a4:=lF
 z4:=lg
 v4:=jW
 t5:=jB
 a5:=lH
 z5:=lm
 v5:=jY
 t9:=ei
 a9:=lG
 z9:=lh
 v9:=jX
 t20:=jc
 a20:=lj
 z20:=kv
 v20:=jA
 t37:=iM
 a37:=kw
 z37:=kj
 v37:=jd
 t46:=Tryz.underlying151
 a46:=Tryz.isAgg151
 z46:=Tryz.sizeOf151
 v46:=Tryz.zeroValue151
 t51:=Tryz.underlying323
 a51:=Tryz.isAgg323
 z51:=Tryz.sizeOf323
 v51:=Tryz.zeroValue323
 t53:=Tryz.underlying315
 a53:=Tryz.isAgg315
 z53:=Tryz.sizeOf315
 v53:=Tryz.zeroValue315
 t171:=Tryz.underlying314
 a171:=Tryz.isAgg314
 z171:=Tryz.sizeOf314
 v171:=Tryz.zeroValue314
 t173:=Tryz.underlying318
 a173:=Tryz.isAgg318
 z173:=Tryz.sizeOf318
 v173:=Tryz.zeroValue318
 t212:=Tryz.underlying322
 a212:=Tryz.isAgg322
 z212:=Tryz.sizeOf322
 v212:=Tryz.zeroValue322
 t213:=Tryz.underlying324
 a213:=Tryz.isAgg324
 z213:=Tryz.sizeOf324
 t232:=Tryz.underlying327
 a232:=Tryz.isAgg327
 z232:=Tryz.sizeOf327
 v232:=Tryz.zeroValue327
 t233:=Tryz.underlying328
 a233:=Tryz.isAgg328
 z233:=Tryz.sizeOf328
 v233:=Tryz.zeroValue328
 g17:=by kernel_rfl
 g18:=by kernel_rfl
 g19:=by kernel_rfl
 i0:=by kernel_rfl
 i2:=by kernel_rfl
 i3:=by kernel_rfl
 i4:=by kernel_rfl
 i5:=by kernel_rfl
 i9:=by kernel_rfl
 i20:=by kernel_rfl
 i37:=by kernel_rfl
 i46:=by kernel_rfl
 i51:=by kernel_rfl
 i53:=by kernel_rfl
 i171:=by kernel_rfl
 i173:=by kernel_rfl
 i212:=by kernel_rfl
 i232:=by kernel_rfl
 i233:=by kernel_rfl
 m17:=by kernel_rfl
 m18:=by kernel_rfl
 m19:=by kernel_rfl}
open Go.RowKit Go.Sort Go.Lib in
theorem Tryz.strconv_Itoa(n:Int)(h0:-9223372036854775808<=n)(h1:n<=9223372036854775807)(w:World)(htab:jZ ah w "internal/strconv.uint64pow10" .u64 hU) :
  Calls ah 170 #[.int .i64 n] w fun e w'=>e=.returned (.string ⟨(Lib.itoa n).toArray⟩)/\∃k os,w'=grow (w.drewN k) os:=Any.strconv_Itoa Tryz.laysM171 n h0 h1 w htab
end Go.Proofs
namespace Go.Pl
open Go Go.Sx
def nT(n:Int):List UInt8:=Go.Lib.itoa n
def qJ(l:List (List UInt8))(sep:List UInt8):List UInt8:=Go.Lib.join l sep
def qg(n:Int):Bool:=decide (-9223372036854775808<=n/\n<=9223372036854775807)
def yx(l:List UInt8):Bool:=decide (l.length<=140737488355328)
end Go.Pl
namespace Go.Proofs
open Go Go.Sx Go.Pl Go.RowKit Go.Sort Go.Lib
theorem ahj{H:Mem}{k:IntKind}{n:Int}{v:Value}(h:Rep H (.i k n) v):v=.int k n:=by cases h;rfl
theorem abZ{H:Mem}{l:List UInt8}{v:Value}(h:Rep H (.str l) v):v=.string ⟨l.toArray⟩:=by cases h;rfl
theorem XG(w:World)(k:Nat)(os:Array Obj):Below w.heap.size w (grow (w.drewN k) os):=
 ⟨rfl,rfl,rfl,by show w.heap.size<=(w.heap++os).size;rw[Array.size_append];omega,fun j hj=>by
  show (w.heap++os)[j]?=w.heap[j]?;rw[Array.getElem?_append_left hj]⟩
theorem arA{H:Mem}{w:World}(on:H.on w)(hg:qh (nY W7) H):jZ ah w "internal/strconv.uint64pow10" .u64 hU:=by
 obtain ⟨⟨cs,e,f,h1,h2⟩,c,h3,h4⟩:vG H 23 (.mV (pow10.map (az .u64))):=hg.at_ 23 _ (by rfl);have hgl:ah.globalNamed "internal/strconv.uint64pow10" = ae 23:=by kernel_rfl
 unfold jZ World.var?;rw[hgl];simp only[Option.bind_some];rw[on _ _ h1];simp only[dK];apply Array.ext
 ·rw[h2];rfl
 ·intro i hi hi2
  have hi':i<(pow10.map (az .u64)).length:=by rw[<-h2];exact hi
  obtain ⟨q1,_⟩:=h3 i hi';have q3:cs[i]?=ae (c i):=by simpa[hcell,h1] using q1
  have hip:i<pow10.length:=by simpa using hi'
  have q4:=h4 i (.i .u64 pow10[i]) (by rw[List.getElem?_map,List.getElem?_eq_getElem hip];rfl);have q5:c i=.int .u64 pow10[i]:=ahj q4;rw[Array.getElem?_eq_getElem hi] at q3;rw[bd q3,q5];have e:hU=pow10:=by decide
  simp[e]
def F92:List Sh->Tree Sh
 |[.i .i64 n]=>.need (qg n) (.leaf (.str (nT n))) |_=>.fail
theorem O92:nG ah (nY W7) 170 F92:=SK fun H w nV args φ on hg hr h=>by
 unfold F92 at h;split at h
 ·obtain ⟨h1,h2⟩:=h
  match args,hr with
  |[v],⟨hv,_⟩=>
   cases hv;have h1:=of_decide_eq_true h1;exact ⟨_,_,h2,fun _=>rfl,fun _=>.str _,(Tryz.strconv_Itoa _ h1.1 h1.2 w (arA on hg)).mono fun e w' ⟨he,k,os,hw⟩=>⟨he,by rw[hw];exact XG w k os⟩⟩
 ·exact h.elim
def F56:List Sh->Tree Sh
 |[.sl 1 n g,.str sep]=>.need (okB (List UInt8) n g) (.need (oI n 16) (.need (yx (qJ (lst (List UInt8) n g) sep)) (.leaf (.str (qJ (lst (List UInt8) n g) sep))))) |_=>.fail
theorem O56:nG ah (nY W7) 117 F56:=SK fun H w nV args φ on hg hr h=>by
 unfold F56 at h;split at h
 ·rename_i n g sep
  obtain ⟨h1,h2,h3,h4⟩:=h;match args,hr with
  |[v,u],⟨hv,hu,_⟩=>
   cases hu;have h3:=of_decide_eq_true h3;refine ⟨_,_,h4,fun _=>rfl,fun _=>.str _,?_⟩;cases hv with
   |sl0 _ _ A cap hc=>
    refine (Tryz.strings_Join_none A cap ⟨sep.toArray⟩ w).mono fun e w' ⟨he,hw⟩=>⟨?_,hw ▸ lI _ _⟩;rw[he];rfl
   |sl _ _ _ b off cap c q1 q2 q3 q4 q5 q6=>
    have hs:∀i,i<n->c i 0=.string ⟨(mJ (α:=List UInt8) g i).toArray⟩:=fun i hi=>
     abZ (q6 i 0 (.str (mJ (α:=List UInt8) g i)) hi (by rw[BD h1 i hi];rfl))
    have hcell:∀i,i<n->w.cell? ⟨b,off+i,aq⟩=ae (.string ⟨(mJ (α:=List UInt8) g i).toArray⟩):=fun i hi=>by
     have:=Du on (q4 i 0 hi (by decide));simpa[hs i hi] using this
    by_cases hn:n=0
    ·subst hn
     refine (Tryz.strings_Join_none _ cap ⟨sep.toArray⟩ w).mono fun e w' ⟨he,hw⟩=>⟨?_,hw ▸ lI _ _⟩;rw[he];rfl
    have hb:b<w.heap.size:=by
     have:=hcell 0 (by omega);unfold World.cell? at this;cases hq:w.heap[b]? with
     |none=>simp[hq] at this |some o=>exact (aM.1 hq).1
    have hl:(((lst (List UInt8) n g).map fun l=>(⟨l.toArray⟩:ByteArray)).map (·.data.toList))=lst (List UInt8) n g:=by
     rw[List.map_map];simp[Function.comp_def]
    have hlen:((lst (List UInt8) n g).map fun l=>(⟨l.toArray⟩:ByteArray)).length=n:=by simp
    have:=Tryz.strings_Join b off cap ((lst (List UInt8) n g).map fun l=>(⟨l.toArray⟩:ByteArray)) ⟨sep.toArray⟩ w (fun j x hx=>by
     have hj:j<n:=by
      have:=(List.getElem?_eq_some_iff.1 hx).1;simpa using this
     rw[hcell j hj];simp[lst,hj] at hx;rw[<-hx]) hb (by rw[hlen];have:=of_decide_eq_true h2;omega) (by rw[hlen];exact q1) (by rw[hl];exact h3)
    rw[hl,hlen] at this;exact this
 ·exact h.elim
end Go.Proofs
namespace Go.Sx
mutual
def Wk:Sh->Sh->Prop
 | .os _ st n g,s'=>match s' with
  | .sl st' n' g'=>(n=0/\n'=0)\/(st=st'/\n=n'/\∀i,i<n->g i=g' i) |_=>False
 | .sl st n g,s'=>match s' with
  | .sl st' n' g'=>(n=0/\n'=0)\/(st=st'/\n=n'/\∀i,i<n->g i=g' i) |_=>False
 | .agg l,s'=>match s' with
  | .agg l'=>Et l l' |_=>False
 | .mV l,s'=>match s' with
  | .mV l'=>Et l l' |_=>False
 | .b x,s'=>s'=.b x\/s'=.v (.bool x) |s,s'=>s=s'
def Et:List Sh->List Sh->Prop
 |[],[]=>True |x::l,y::r=>Wk x y/\Et l r |_,_=>False
end
theorem Ec{H:Mem}{st n:Nat}{g:Nat->List Sh}{v:Value}(h:Rep H (.sl st n g) v){st' n':Nat}{g':Nat->List Sh}(hw:(n=0/\n'=0)\/(st=st'/\n=n'/\∀i,i<n->g i=g' i)):Rep H (.sl st' n' g') v:=by
 rcases hw with ⟨rfl,rfl⟩ |⟨rfl,rfl,hg⟩
 ·cases h with
  |sl0 _ _ A cap hc=>exact .sl0 _ _ _ _ hc |sl _ _ _ b off cap c h1 h2 h3 h4 h5 h6=>exact .sl0 _ _ _ _ h2
 ·cases h with
  |sl0 _ _ A cap hc=>exact .sl0 _ _ _ _ hc |sl _ _ _ b off cap c h1 h2 h3 h4 h5 h6=>exact .sl _ _ _ b off cap c h1 h2 (fun i hi=>by simp_all) h4 h5 fun i j s hi e=>h6 i j s hi (by simp_all)
mutual
theorem ZJ{H:Mem}:∀(s s':Sh) (b b':Nat) (v:Value),Wk s s'->Den H CO (pY (O9 s) b).1 v->Den H CO (pY s' b').1 v/\(pY s' b').2=([],b')
 | .os e st n g,s',b,b',v,hw,h=>by
  cases s'<;>simp only[Wk] at hw
  rename_i st' n' g';exact ⟨Ec (show Rep H (.sl st n g) v from h) hw,rfl⟩
 | .sl st n g,s',b,b',v,hw,h=>by
  cases s'<;>simp only[Wk] at hw
  rename_i st' n' g';exact ⟨Ec (show Rep H (.sl st n g) v from h) hw,rfl⟩
 | .agg l,s',b,b',v,hw,h=>by
  cases s'<;>simp only[Wk] at hw
  rename_i l';obtain ⟨vs,rfl,h⟩:=h;obtain ⟨q1,q2⟩:=VO l l' b b' vs.toList hw h;exact ⟨⟨vs,rfl,q1⟩,q2⟩
 | .mV l,s',b,b',v,hw,h=>by
  cases s'<;>simp only[Wk] at hw
  rename_i l';obtain ⟨vs,rfl,h⟩:=h;obtain ⟨q1,q2⟩:=VO l l' b b' vs.toList hw h;exact ⟨⟨vs,rfl,q1⟩,q2⟩
 | .b x,s',b,b',v,hw,h=>by
  simp only[Wk] at hw;rcases hw with rfl|rfl
  ·exact ⟨h,rfl⟩
  ·exact ⟨h,rfl⟩
 | .i k n,s',b,b',v,hw,h=>by simp only[Wk] at hw;subst hw;exact ⟨h,rfl⟩ | .v x,s',b,b',v,hw,h=>by simp only[Wk] at hw;subst hw;exact ⟨h,rfl⟩ | .str l,s',b,b',v,hw,h=>by simp only[Wk] at hw;subst hw;exact ⟨h,rfl⟩ | .pV t x,s',b,b',v,hw,h=>by simp only[Wk] at hw;subst hw;exact ⟨h,rfl⟩ | .fn f l,s',b,b',v,hw,h=>by simp only[Wk] at hw;subst hw;exact ⟨h,rfl⟩ | .er g T,s',b,b',v,hw,h=>by simp only[Wk] at hw;subst hw;exact ⟨h,rfl⟩ | .pt l,s',b,b',v,hw,h=>by simp only[Wk] at hw;subst hw;exact ⟨h,rfl⟩
theorem VO{H:Mem}:∀(l l':List Sh) (b b':Nat) (vs:List Value),Et l l'->mW H CO (sN (Pg l) b).1 vs->mW H CO (sN l' b').1 vs/\(sN l' b').2=([],b')
 |[],[],_,_,[],_,_=>⟨trivial,rfl⟩ |[],_::_,_,_,_,hw,_=>by simp[Et] at hw |_::_,[],_,_,_,hw,_=>by simp[Et] at hw |[],[],_,_,_::_,_,h=>h.elim |_::_,_::_,_,_,[],_,h=>h.elim |x::l,y::r,b,b',v::vs,hw,h=>by
  simp only[Et] at hw;obtain ⟨h1,h2⟩:=h;obtain ⟨q1,q2⟩:=ZJ x y b b' v hw.1 h1;obtain ⟨q3,q4⟩:=VO l r _ b' vs hw.2 h2;simp only[sN];rw[q2];simp only[eF];exact ⟨⟨q1,q3⟩,q4⟩
end
mutual
theorem Yp:∀(s:Sh) (b:Nat),yP (pY (O9 s) b).1=aj
 | .os _ _ _ _,_=>rfl | .agg l,b=>by simpa[O9,pY,yP] using MX l b | .mV l,b=>by simpa[O9,pY,yP] using MX l b | .i _ _,_=>rfl | .b _,_=>rfl | .v x,_=>QD x | .str _,_=>rfl | .sl _ _ _,_=>rfl | .pV _ _,_=>rfl | .fn f l,_=>abW f l | .er _ _,_=>rfl | .pt _,_=>rfl
theorem MX:∀(l:List Sh) (b:Nat),Cj (sN (Pg l) b).1=aj
 |[],_=>rfl |x::r,b=>by simp[Pg,sN,Cj,Yp x b,MX r]
end
theorem qR.wk{H:Mem}{w:World}{s s':Sh}{v:Value}{H':Mem}{w':World}(r:qR H w s v H' w')(hw:Wk s s'):∃H2,qR H w s' v H2 w':=by
 obtain ⟨H2,r⟩:=r.O9;obtain ⟨E1,h1,h2,h3,h4⟩:=r.res 0;have hd0:Den H2 CO (pY (Go.Sx.O9 s) 0).1 v:=Dy (E:=E1) (Yp s 0) h3;refine ⟨H2,r.yF,r.on,r.os,r.tape,r.output,r.size,r.old,r.fresh,fun b0=>⟨CO,fun i hi=>(hi rfl).elim,fun i b hb=>by simp[bk,CO] at hb,(ZJ s s' 0 b0 v hw hd0).1,?_⟩⟩;rw[(ZJ s s' 0 b0 v hw hd0).2];exact Gg
def up(φ:Sh->Prop)(s:Sh):Prop:=∃s',Wk s s'/\φ s'
def oG:Nat->Bool:=fun _=>ag
section
variable{P:Program}{C:Ctx}
theorem ab2(hC:oh P C){g:Nat}{fn:Func}(hfn:C.fns.get g=ae fn)(hb:fn.body.isSome=aj){H:Mem}{w:World}{qV:List Sh}{args:List Value}{φ:Sh->Prop}{L:Nat}(hon:H.on w)(hg:qh C.gls H)(hr:qQ H qV args)
  (hgo:nX P C (K0 H w) g [.code []] (mM fn.ntmps qV L) [] emp φ):Calls P g args.toArray w fun e w'=>∃v s H',e=.returned v/\φ s/\qR H w s v H' w':=by
 obtain ⟨body,hbody⟩:=bJ.1 hb;have hP:=hC.fn g fn hfn;intro cs;let a:Act:={tmps:=args.toArray++Array.replicate (fn.ntmps - args.toArray.size) undef,defers:=[]}
 have hlen:=hr.length;have st:St C (K0 H w) H E0 w (mM fn.ntmps qV L) a:=by
  refine ⟨?_,⟨fun _ _ h=>by simp[mM,mG] at h,fun _ _ _ _ _ h=>by simp[mM,mG] at h⟩,⟨rfl,rfl,rfl,aV _,fun _ _ _=>rfl,hon,fun _ _ h=>h,fun _ h=>.inl h⟩,fun _ _ _=>rfl,hg,rfl⟩;have:a.tmps.toList=args++bp (fn.ntmps - qV.length) undef:=by simp[a,hlen]
  rw[this];exact (zA hr).append (mW.any _ _ (by simp))
 have hit:pq (mX fn) [.code []] [.code body]:=by
  have:=pq.code (body:=mX fn) [] pq.nil;simp_all [nP,mX]
 obtain ⟨a',w',v,s,H',todo,fn0,q0,q1,q2,q3,q4,q5⟩:=hgo H E0 w a [.code body] [] cs fn hfn st hit trivial OM;exact ⟨.returned v,w',_,⟨v,s,H',rfl,q3,q4⟩,by rw[BJ hP hbody];exact q1,rfl,rfl,q2,rfl,fn,hP,by cases hfn.symm.trans q0;exact q5⟩
theorem vM(hC:oh P C){g:Nat}{fn:Func}{F:List Sh->Tree Sh}(hfn:C.fns.get g=ae fn)(hb:fn.body.isSome=aj)
  (h:∀(H:Mem) (w:World) (nV:List Sh) (args:List Value) (φ:Sh->Prop),qQ H nV args->(F nV).All φ->∃qV:List Sh,qQ H qV args/\∃L,nX P C (K0 H w) g [.code []] (mM fn.ntmps qV L) [] emp (up φ)):nG P C.gls g F:=by
 intro H w nV args φ hon hg hr hφ;obtain ⟨qV,hr',L,hgo⟩:=h H w nV args φ hr hφ;refine (ab2 hC hfn hb hon hg hr' hgo).mono fun e w' ⟨v,s,H',he,⟨s',hw,hs⟩,r⟩=>?_;obtain ⟨H2,r2⟩:=r.wk hw;grind
theorem rM(hC:oh P C)(hF:oH P C){m n g L:Nat}{fn:Func}{F:List Sh->Tree Sh}(hfn:C.fns.get g=ae fn)(hb:fn.body.isSome=aj)
  (h:∀(H:Mem) (w:World) (nV:List Sh) (args:List Value) (φ:Sh->Prop),qQ H nV args->(F nV).All φ->∃qV:List Sh,qQ H qV args/\(nZ C oG m n g [.code []] (mM fn.ntmps qV L) [] []).All (yG P C (K0 H w) [] emp (up φ))):nG P C.gls g F:=
 vM hC hfn hb fun H w nV args φ hr hφ=>let ⟨qV,hr',ha⟩:=h H w nV args φ hr hφ;⟨qV,hr',L,xA hC hF ha⟩
end
end Go.Sx
namespace Go.Proofs
open Go Go.Sx Go.Pl
def yQ:List It:=[aH [0,1,0,1,1],aW 0,aH [1,1,1]]
def Pm:List It:=[aH [0,0,1,0,1,1],aH [0,1,0,1,1],aW 0,aH [1,1,1]]
end Go.Proofs
namespace Go.Pl
open Go Go.Sx
def ael{α:Type}[DecidableEq α](a b:List α):Bool:=decide (a=b)
end Go.Pl
namespace Go.Proofs
open Go Go.Sx Go.Pl
def F13:List Sh->Tree Sh
 |[.sl 1 n g]=>.need (okB Int n g) (.need (oI n 8) (.leaf (.os 3 1 n (mF (mJ (α:=Int) g))))) |_=>.fail
end Go.Proofs
namespace Go.Pl
open Go Go.Sx
def nR:Sh->Option Int
 | .i .i64 c=>ae c | .v (.int .i64 c)=>ae c |_=>aq
def tH(c:Int):List UInt8:=if c=1 then Go.Proofs.W7 16 0 else if c=2 then Go.Proofs.W7 16 1 else if c=3 then Go.Proofs.W7 16 2 else if c=4 then Go.Proofs.W7 16 3 else []
end Go.Pl
namespace Go.Proofs
open Go Go.Sx Go.Pl
def F58:List Sh->Tree Sh
 |[t,s]=>match nR t,nR s with
  |some b,ae c=>.need (b==1) (.need (qg c) (.leaf (.str (tH c)))) |_,_=>.fail
 |_=>.fail
def qN:Nat->Option (List Sh->Tree Sh)
 |170=>ae F92 |117=>ae F56 |122=>ae F58 |_=>aq
theorem a65(A:Prim)(W:Wd)(k i:Int):nZ (C7 A W qN ny) oG 300 400 99 [.code []] (mM 36 [.agg [.i .i64 k,.i .i64 i]] L0) [] []=ak (A.eq k (ab 1)) (am aj (am (qg k) (ak (A.seq (tH k) []) (ai (ay (aC 7 329))) (ak (A.lt i (bI 999999999)) (ai (ay (aC 7 329))) (ak (A.lt (ab 1000000000) i) (ai (ay (aC 7 329))) (ai (ay (cT aI)))))))) (am aj (am (qg k) (ak (A.seq (tH k) []) (ai (ay (aC 7 329))) (ak (A.lt i (bI 999999999)) (ai (ay (aC 7 329))) (ak (A.lt (ab 1000000000) i) (ai (ay (aC 7 329))) (ak (A.nt (A.eq k (ab 2))) (ak (A.nt (A.eq i (ab 0))) (ai (ay (aC 7 329))) (ai (ay (cT aI)))) (ai (ay (cT aI))))))))):=by kernel_rfl
theorem a50(A:Prim)(W:Wd)(n a b:Nat)(g h l:Nat->List Sh)(x y:Int):nZ (C7 A W qN ny) oG 300 400 96 [.code []] (mM 11 [.agg [.sl 4 n g],.agg [.i .i64 x,.i .i64 y,.sl 1 a h,.sl 2 b l]] L0) [] []=am (A.le (ab 0) (A.nH n)) (am (A.room (A.toN (A.nH n)) 64) (am (A.room (A.addN 0 n) 64) (am (A.room (A.addN (A.addN 0 n) 1) 64) (am (A.le (ab 0) (A.nH n)) (am (A.room (A.toN (A.nH n)) 64) (am (A.room (A.addN 0 n) 64) (am (A.room (A.addN (A.addN 0 n) 1) 64) (Tree.must [av (ao 4 n g) (ao 4 n g),ac x x,ac y y,av (ao 1 a h) (ao 1 a h),av (ao 2 b l) (ao 2 b l),av (ao 4 n g) (ao 4 n g),ac x x,ac y y,av (ao 1 a h) (ao 1 a h),av (ao 2 b l) (ao 2 b l),ac x x,ac y y,av (ao 1 a h) (ao 1 a h),av (ao 2 b l) (ao 2 b l),ap (A.addN (A.addN 0 n) 1) (A.addN (A.addN 0 n) 1),oC.Ez (A.snoc (A.snoc (fun _=>[]) 0 g) (A.addN 0 n) (nM [[az .i64 x,az .i64 y,ao 1 a h,ao 2 b l]])) (A.snoc (A.snoc (fun _=>[]) 0 g) (A.addN 0 n) (nM [[az .i64 x,az .i64 y,ao 1 a h,ao 2 b l]]))] (ai (ay (aN [cJ 211 4 (A.addN (A.addN 0 n) 1) (A.snoc (A.snoc (fun _=>[]) 0 g) (A.addN 0 n) (nM [[az .i64 x,az .i64 y,ao 1 a h,ao 2 b l]]))]))))))))))):=by kernel_rfl
theorem a33(A:Prim)(W:Wd)(n:Nat)(d:Nat->pO)(i:Int):nZ (C7 A W qN ny) oG 300 400 119 [.code []] (mM 12 [.agg [.sl 4 n (pz d)],.i .i64 i] L0) [] []=ak (A.lt i (ab 0)) (ai (ay (aQ [aN [az .i64 (ab 0),az .i64 (ab 0),ao 0 0 fun _=>[],ao 0 0 fun _=>[]],bX ag]))) (ak (A.le (A.nH n) i) (ai (ay (aQ [aN [az .i64 (ab 0),az .i64 (ab 0),ao 0 0 fun _=>[],ao 0 0 fun _=>[]],bX ag]))) (am (A.inB i n) (ai (ay (aQ [aN [az .i64 (d (A.toN i)).kind,az .i64 (d (A.toN i)).num,ao 1 (len (d (A.toN i)).q) (mF (nth (d (A.toN i)).q)),ao 2 (len (d (A.toN i)).ps) (mF (nth (d (A.toN i)).ps))],bX aj]))))):=by kernel_rfl
theorem a54(A:Prim)(W:Wd)(n a b:Nat)(g h l:Nat->List Sh)(i x y:Int):nZ (C7 A W qN ny) oG 300 400 121 [.code []] (mM 27 [.agg [.sl 4 n g],.i .i64 i,.agg [.i .i64 x,.i .i64 y,.sl 1 a h,.sl 2 b l]] L0) [] []=ak (A.lt i (ab 0)) (ai (ay (aN [ao 4 n g]))) (ak (A.le (A.nH n) i) (ai (ay (aN [ao 4 n g]))) (am (A.le (ab 0) (A.nH n)) (am (A.room (A.toN (A.nH n)) 64) (am (A.room (A.addN 0 n) 64) (am (A.inB i (A.addN 0 n)) (ai (ay (aN [cJ 211 4 (A.addN 0 n) (A.upd (A.snoc (fun _=>[]) 0 g) (A.toN i) 0 [az .i64 x,az .i64 y,ao 1 a h,ao 2 b l])])))))))):=by kernel_rfl
theorem a64(A:Prim)(W:Wd)(n:Nat)(g:Nat->List Sh):nZ (C7 A W qN ny) oG 300 400 118 [.code []] (mM 10 [.agg [.sl 4 n g]] L0) [] []=am (A.le (ab 0) (A.nH n)) (am (A.room (A.toN (A.nH n)) 64) (am (A.room (A.addN 0 n) 64) (ai (ay (cJ 211 4 (A.addN 0 n) (A.snoc (fun _=>[]) 0 g)))))):=by kernel_rfl
theorem a59(A:Prim)(W:Wd)(x:Int):nZ (C7 A W qN ny) oG 300 400 145 [.code []] (mM 5 [.i .i64 x] L0) [] []=am (qg x) (ai (ay (aR (nT x)))):=by kernel_rfl
theorem a60(A:Prim)(W:Wd)(n:Nat)(g:Nat->List Sh):nZ (C7 A W qN ny) oG 300 400 146 [.code []] (mM 5 [.sl 1 n g] L0) [] []=am (okB (List UInt8) n g) (am (oI n 16) (am (yx (qJ (lst (List UInt8) n g) [32])) (ai (ay (aR (qJ (lst (List UInt8) n g) [32])))))):=by kernel_rfl
theorem a66(A:Prim)(W:Wd)(x:Int):nZ (C7 A W qN ny) oG 300 400 102 [.code []] (mM 17 [.i .i64 x] L0) [] []=ak (A.eq x (ab 1)) (ai (ay (az .i64 (ab 1)))) (ak (A.eq x (ab 2)) (ai (ay (az .i64 (ab 1)))) (ak (A.eq x (ab 3)) (ai (ay (az .i64 (ab 2)))) (ak (A.eq x (ab 4)) (ai (ay (az .i64 (ab 2)))) (ak (A.eq x (ab 5)) (ai (ay (az .i64 (ab 3)))) (ak (A.eq x (ab 6)) (ai (ay (az .i64 (ab 3)))) (ak (A.eq x (ab 7)) (ai (ay (az .i64 (ab 4)))) (ak (A.eq x (ab 8)) (ai (ay (az .i64 (ab 4)))) (ak (A.eq x (ab 9)) (ai (ay (az .i64 (ab 4)))) (ai (ay (az .i64 (ab 0)))))))))))):=by kernel_rfl
theorem a67(A:Prim)(W:Wd)(x:Int):nZ (C7 A W qN ny) oG 300 400 151 [.code []] (mM 13 [.i .i64 x] L0) [] []=ak (A.eq x (ab 7)) (ai (ay (bX aj))) (ak (A.eq x (ab 8)) (ai (ay (bX aj))) (ai (ay (bX (A.eq x (ab 9)))))):=by kernel_rfl
theorem a68(A:Prim)(W:Wd)(x:Int):nZ (C7 A W qN ny) oG 300 400 152 [.code []] (mM 17 [.i .i64 x] L0) [] []=ak (A.eq x (ab 2)) (ai (ay (bX aj))) (ak (A.eq x (ab 3)) (ai (ay (bX aj))) (ak (A.eq x (ab 5)) (ai (ay (bX aj))) (ai (ay (bX (A.eq x (ab 7))))))):=by kernel_rfl
theorem a69(A:Prim)(W:Wd)(k x y:Int):nZ (C7 A W qN ny) oG 300 400 153 [.code []] (mM 27 [.i .i64 k,.i .i64 x,.i .i64 y] L0) [] []=ak (A.eq k (ab 2)) (ak (A.lt x (ab 0)) (ai (ay (bX aj))) (ak (A.lt (ab 1000) x) (ai (ay (bX aj))) (ak (A.lt y (bI 999999999999999)) (ai (ay (bX aj))) (ai (ay (bX (A.lt (ab 1000000000000000) y))))))) (ak (A.lt x (ab 0)) (ai (ay (bX aj))) (ak (A.lt (ab 1000) x) (ai (ay (bX aj))) (ak (A.lt y (bI 999999999)) (ai (ay (bX aj))) (ai (ay (bX (A.lt (ab 1000000000) y))))))):=by kernel_rfl
theorem w58(A:Prim)(W:Wd)(c:Int):nZ (C7 A W noSpec ny) oG 300 400 122 [.code []] (mM 16 [.v (.int .i64 1),.i .i64 c] L0) [] []=ak (A.lt (A.sub .i64 (A.max c (ab 0)) (ab 1)) (ab 0)) (ai (ay (aR []))) (ak (A.le (ab 4) (A.sub .i64 (A.max c (ab 0)) (ab 1))) (ai (ay (aR []))) (am (A.inB (A.sub .i64 (A.max c (ab 0)) (ab 1)) 4) (ak (A.eq (A.sub .i64 (A.max c (ab 0)) (ab 1)) (ab 0)) (ai (ay (aR (W 16 0)))) (ak (A.eq (A.sub .i64 (A.max c (ab 0)) (ab 1)) (ab 1)) (ai (ay (aR (W 16 1)))) (ak (A.eq (A.sub .i64 (A.max c (ab 0)) (ab 1)) (ab 2)) (ai (ay (aR (W 16 2)))) (ak (A.eq (A.sub .i64 (A.max c (ab 0)) (ab 1)) (ab 3)) (ai (ay (aR (W 16 3)))) aY)))))):=by kernel_rfl
end Go.Proofs
namespace Go.Pl
open Go Go.Sx
theorem le0(n:Nat):mD.le (ab 0) (mD.nH n)=aj:=by rfl
theorem Ed(n:Nat):mD.toN (mD.nH n)=n:=rfl
theorem yc(n:Nat):mD.addN 0 n=n:=cA n
theorem VP(n m:Nat):mD.addN n m=n+m:=rfl
theorem A8(h g:Nat->List Sh):mD.snoc h 0 g=g:=by
 rfl
theorem BM{n m b:Nat}(h:oI n b=aj)(hm:m<=n):oI m b=aj:=by
 have:=of_decide_eq_true (show decide (n*b<=140737488355328/\n<=maxLen)=aj from h);have h2:m*b<=n*b:=bj b hm;exact decide_eq_true (show m*b<=140737488355328/\m<=maxLen from ⟨by omega,by omega⟩)
theorem oq{φ:Sh->Prop}{s s':Sh}(hw:Wk s s')(h:φ s'):up φ s:=⟨s',hw,h⟩
def wG(n:Nat)(g:Nat->List Sh)(r:List Sh):Nat->List Sh:=fun j=>if j<n then g j else r
theorem Yq{n:Nat}{g:Nat->List Sh}{r:List Sh}:∀j,j<n+1->mD.snoc g n (nM [r]) j=wG n g r j:=fun j hj=>by
 rw[tY];unfold wG;split
 ·rfl
 ·have:j=n:=by omega
  subst this;rw[gU];rfl
def zY(n:Nat)(i:Int):Bool:=decide (0<=i/\i<n)
def Jz(n:Nat)(g:Nat->List Sh)(i:Int)(r:List Sh):Nat->List Sh:=fun j=>if zY n i=aj/\j=i.toNat then r else g j
noncomputable def stB(n:Nat)(g:Nat->List Sh):Bool:=@decide (∃d:Nat->pO,∀j,j<n->g j=qo (d j)) (aB _)
noncomputable def sJ(n:Nat)(g:Nat->List Sh):Nat->pO:=@dite _ (∃d:Nat->pO,∀j,j<n->g j=qo (d j)) (aB _) (fun h=>h.choose) fun _ _=>⟨0,0,[],[]⟩
theorem Hy{n:Nat}{g:Nat->List Sh}(h:stB n g=aj):∀j,j<n->g j=pz (sJ n g) j:=by
 unfold stB at h;have h:=@of_decide_eq_true _ (aB _) h;unfold sJ;rw[dif_pos h];exact h.choose_spec
theorem VQ(n:Nat)(d:Nat->pO):stB n (pz d)=aj:=by unfold stB;exact @decide_eq_true _ (aB _) ⟨d,fun _ _=>rfl⟩
theorem afW{n:Nat}{g:Nat->List Sh}{d:Nat->pO}(h:∀j,j<n->g j=qo (d j)):stB n g=aj:=by unfold stB;exact @decide_eq_true _ (aB _) ⟨d,h⟩
theorem ahm{α:Type}[Row α]{l m:List α}{st:Nat}(h:ao st (len l) (mF (nth l))=ao st (len m) (mF (nth m))):l=m:=by
 simp only[Sh.sl.injEq,true_and] at h;obtain ⟨h1,h2⟩:=h;rw[<-BL l,<-BL m];have h1:l.length=m.length:=h1;rw[h1,h2]
theorem KD{s t:pO}(h:qo s=qo t):s=t:=by
 obtain ⟨a,b,c,d⟩:=s;obtain ⟨a',b',c',d'⟩:=t;simp only[qo,gL,Sh.i.injEq,true_and,and_true] at h;grind [ahm]
theorem ajE{n:Nat}{d:Nat->pO}:∀j,j<n->sJ n (pz d) j=d j:=fun j hj=>KD (Hy (VQ n d) j hj).symm
theorem afX{n:Nat}{g:Nat->List Sh}{d:Nat->pO}(h:∀j,j<n->g j=qo (d j)):∀j,j<n->sJ n g j=d j:=fun j hj=>KD ((Hy (afW h) j hj).symm.trans (h j hj))
def Ee:pO:=⟨0,0,[],[]⟩
def ZK(n:Nat)(d:Nat->pO)(i:Int):pO:=bif zY n i then d i.toNat else Ee
def uw(k i:Int):Bool:=!(decide (1<=k)&&decide (k<=4))||decide (i < -1000000000)||decide (1000000000<i)||(!(decide (k=1)||decide (k=2)) && !decide (i=0))
def CP(op:Int):Int:=if op=1\/op=2 then 1 else if op=3\/op=4 then 2 else if op=5\/op=6 then 3 else if op=7\/op=8\/op=9 then 4 else 0
def keyed(op:Int):Bool:=decide (op=7)||decide (op=8)||decide (op=9)
def valued(op:Int):Bool:=decide (op=2)||decide (op=3)||decide (op=5)||decide (op=7)
def yR(k x y:Int):Bool:=decide (x<0)||decide (1000<x)||decide (y < -(if k=2 then 1000000000000000 else 1000000000))||decide ((if k=2 then 1000000000000000 else 1000000000)<y)
def sD(st:Nat):Sh->Option (Nat×(Nat->List Sh))
 | .sl st' n g=>bif bA st' st then ae (n,g) else bif bA n 0 then ae (0,fun _=>[]) else aq |_=>aq
theorem oO{H:Mem}{st n:Nat}{s:Sh}{g:Nat->List Sh}{v:Value}(hs:sD st s=ae (n,g))(h:Rep H s v):Rep H (.sl st n g) v:=by
 cases s<;>simp only[sD] at hs<;>try cases hs
 rename_i st' n' g';cases h1:bA st' st<;>simp only[h1,cond_true,cond_false] at hs
 ·cases h2:bA n' 0<;>simp only[h2,cond_true,cond_false] at hs
  ·cases hs
  ·cases hs
   exact Ec h (.inl ⟨Nat.eq_of_beq_eq_true h2,rfl⟩)
 simp_all
theorem DC{H:Mem}{s s':Sh}{v:Value}(hv:Rep H (.agg [s]) v)(h0:∀u,Rep H s u->Rep H s' u):Rep H (.agg [s']) v:=by
 cases hv with
 |agg _ vs h2 h3=>
  refine .agg _ vs h2 fun j s v' e1 e2=>?_
  grind
theorem QH{H:Mem}{s2 s3 s2' s3':Sh}{v:Value}(hv:Rep H (.agg [s2,s3]) v)(h0:∀u,Rep H s2 u->Rep H s2' u)(h1:∀u,Rep H s3 u->Rep H s3' u):Rep H (.agg [s2',s3']) v:=by
 cases hv with
 |agg _ vs h2 h3=>
  refine .agg _ vs h2 fun j s v' e1 e2=>?_
  grind
theorem xI{H:Mem}{x y:Sh}{s2 s3 s2' s3':Sh}{v:Value}(hv:Rep H (.agg [x,y,s2,s3]) v)(h0:∀u,Rep H s2 u->Rep H s2' u)(h1:∀u,Rep H s3 u->Rep H s3' u):Rep H (.agg [x,y,s2',s3']) v:=by
 cases hv with
 |agg _ vs h2 h3=>
  refine .agg _ vs h2 fun j s v' e1 e2=>?_
  grind
theorem Yr(g:Nat->List Sh)(i off:Nat)(l:List Sh)(j:Nat):mD.upd g i off l j=if j=i then (g j).take off++l++(g j).drop (off+l.length) else g j:=rfl
theorem qW{H:Mem}{s:Sh}{c:Int}{v:Value}(h:nR s=ae c)(r:Rep H s v):Rep H (.i .i64 c) v:=by
 unfold nR at h;split at h
 ·simp_all
 ·cases h;cases r;exact .i _ _
 ·cases h
theorem MZ{H:Mem}{s:Sh}{c:Int}{v:Value}(h:nR s=ae c)(r:Rep H s v):Rep H (.v (.int .i64 c)) v:=by
 have:=qW h r;cases this;exact .v _ rfl
end Go.Pl
namespace Go.Proofs
open Go Go.Sx Go.Pl
theorem O58:nG ah (nY W7) 122 F58:=by
 refine BA (C:=C7 mD W7 noSpec ny) (C7.ok _ _) (fn:=bc) (by kernel_rfl) (by kernel_rfl) fun H w nV args φ hrep h=>?_
 have hn:bc.ntmps=16:=by kernel_rfl
 unfold F58 at h;split at h
 ·rename_i t s
  split at h
  ·rename_i b c ht hs
   obtain ⟨h1,h2,hφ⟩:=h;have h1:b=1:=by grind
   subst h1;have h2:=of_decide_eq_true h2;match args,hrep with
   |[v,u],⟨hv,hu,_⟩=>
    refine ⟨[.v (.int .i64 1),.i .i64 c],⟨MZ ht hv,qW hs hu,trivial⟩,L0,?_⟩;refine xA (C7.ok _ _) (BK _) (hold:=oG) (m:=300) (n:=400) (ts:=[]) ?_;rw[hn,w58 mD W7 c];obtain ⟨m,e,hm⟩:∃m:Int,mD.sub .i64 (mD.max c (ab 0)) (ab 1)=m/\((c<=0/\m=-1)\/(1<=c/\m=c - 1)):=by
     refine ⟨_,rfl,?_⟩;grind [Dz,zH,pI]
    rw[e];have key (X:List UInt8) (hX:tH c=X):φ (.str X):=hX ▸ hφ;have q0:ab 0=0:=rfl;have q1:ab 1=1:=rfl;have q2:ab 2=2:=rfl;have q3:ab 3=3:=rfl;have q4:ab 4=4:=rfl;simp only[mQ,su,nC,oJ,q0,q1,q2,q3,q4];refine ⟨fun h=>key _ ?_,fun h=>⟨fun h2=>key _ ?_,fun h2=>⟨?_,fun h3=>key _ ?_,fun h3=>⟨fun h4=>key _ ?_,fun h4=>⟨fun h5=>key _ ?_,fun h5=>⟨fun h6=>key _ ?_,fun h6=>?_⟩⟩⟩⟩⟩⟩;all_goals simp only[decide_eq_true_eq,decide_eq_false_iff_not,beq_iff_eq,beq_eq_false_iff_ne,ne_eq] at *
    all_goals (try unfold tH)
    all_goals grind
  ·exact h.elim
 ·exact h.elim
theorem OAs:∀g F,qN g=ae F->nG ah (nY W7) g F:=fun g F h=>by
 unfold qN at h;grind [O92,O56,O58]
theorem CQ(stop:Nat->List Nat->Bool):oH ah (C7 mD W7 qN stop):=C7.Gh OAs fun g h=>by
 unfold qN at h;split at h;all_goals first|(cases h;done) |kernel_rfl
def F14:List Sh->Tree Sh
 |[.sl 1 n g]=>.need (oI n 8) (.leaf (.agg [.os 3 1 n g])) |_=>.fail
def F50:List Sh->Tree Sh
 |[.agg [s0],.agg [.i .i64 x,.i .i64 y,s2,s3]]=>match sD 4 s0,sD 1 s2,sD 2 s3 with
  |some (n,g),ae (a,h),ae (b,l)=>.need (oI (n+1) 64) (.leaf (.agg [.sl 4 (n+1) (wG n g [.i .i64 x,.i .i64 y,.sl 1 a h,.sl 2 b l])])) |_,_,_=>.fail
 |_=>.fail
theorem O50:nG ah (nY W7) 96 F50:=by
 refine rM (C:=C7 mD W7 qN ny) (C7.ok _ _) (CQ _) (m:=300) (n:=400) (L:=L0) (fn:=kh) (by kernel_rfl) (by kernel_rfl) fun H w nV args φ hrep h=>?_
 have hn:kh.ntmps=11:=by kernel_rfl
 unfold F50 at h;split at h
 ·rename_i s0 x y s2 s3
  split at h
  ·rename_i n g a hh b l hs0 hs2 hs3
   obtain ⟨h1,hφ⟩:=h;match args,hrep with
   |[v,u1],⟨hv,r1,_⟩=>
    refine ⟨[.agg [.sl 4 n g],.agg [.i .i64 x,.i .i64 y,.sl 1 a hh,.sl 2 b l]],⟨DC hv fun u hu=>oO hs0 hu,xI r1 (fun u hu=>oO hs2 hu) (fun u hu=>oO hs3 hu),trivial⟩,?_⟩;have h0:=BM h1 (jT n);rw[hn,a50 mD W7 n a b g hh l x y,yc,A8,Ed,VP];refine ⟨le0 n,h0,h0,h1,le0 n,h0,h0,h1,?_,oq (s':=.agg [.sl 4 (n+1) (wG n g [.i .i64 x,.i .i64 y,.sl 1 a hh,.sl 2 b l])]) ⟨.inr ⟨rfl,rfl,Yq⟩,trivial⟩ hφ⟩;repeat' (first|exact trivial|exact rfl|refine And.intro ?_ ?_)
  ·exact h.elim
 ·exact h.elim
theorem afY{n:Nat}{i:Int}(h:mD.lt i (ab 0)=aj):zY n i=ag:=by grind [mQ,zY]
theorem afZ{n:Nat}{i:Int}(h:mD.le (mD.nH n) i=aj):zY n i=ag:=by simp_all [su,nI,zY]
theorem ZL{n:Nat}{i:Int}(h:mD.lt i (ab 0)=ag)(h3:mD.le (mD.nH n) i=ag):zY n i=aj:=by
 simp_all [mQ,su,nI,zY]
noncomputable def F33:List Sh->Tree Sh
 |[.agg [s0],t]=>match sD 4 s0,nR t with
  |some (n,g),ae i=>.need (stB n g) (.leaf (.mV [.agg (qo (ZK n (sJ n g) i)),.b (zY n i)])) |_,_=>.fail
 |_=>.fail
theorem O33:nG ah (nY W7) 119 F33:=by
 refine rM (C:=C7 mD W7 qN ny) (C7.ok _ _) (CQ _) (m:=300) (n:=400) (L:=L0) (fn:=jr) (by kernel_rfl) (by kernel_rfl) fun H w nV args φ hrep h=>?_
 have hn:jr.ntmps=12:=by kernel_rfl
 unfold F33 at h;split at h
 ·rename_i s0 t
  split at h
  ·rename_i n g i hs ht
   obtain ⟨h1,hφ⟩:=h;match args,hrep with
   |[v,u1],⟨hv,r1,_⟩=>
    refine ⟨[.agg [.sl 4 n (pz (sJ n g))],.i .i64 i],⟨DC hv fun u hu=>sW (oO hs hu) (Hy h1),qW ht r1,trivial⟩,?_⟩;generalize sJ n g=d at *;have out (hi:zY n i=ag):up φ (.mV [.agg [.i .i64 (ab 0),.i .i64 (ab 0),.sl 0 0 fun _=>[],.sl 0 0 fun _=>[]],.b ag]):=
     oq (s':=.mV [.agg (qo (ZK n d i)),.b (zY n i)]) ⟨by simp[ZK,hi,qo,Ee,Wk,Et,len],by simp[hi,Wk],trivial⟩ hφ
    rw[hn,a33 mD W7 n d i];refine ⟨fun h=>out (afY h),fun h=>⟨fun h3=>out (afZ h3),fun h3=>⟨ZL h h3,?_⟩⟩⟩;have hi:=ZL h h3;exact oq (s':=.mV [.agg (qo (ZK n d i)),.b (zY n i)]) ⟨by simp[ZK,hi,qo,Wk,Et,pR],by simp[hi,Wk],trivial⟩ hφ
  ·exact h.elim
 ·exact h.elim
noncomputable def F54:List Sh->Tree Sh
 |[.agg [s0],t,.agg [.i .i64 x,.i .i64 y,s2,s3]]=>match sD 4 s0,nR t,sD 1 s2,sD 2 s3 with
  |some (n,g),ae i,ae (a,h),ae (b,l)=>.need (oI n 64) (.need (stB n g) (.leaf (.agg [.sl 4 n (Jz n g i [.i .i64 x,.i .i64 y,.sl 1 a h,.sl 2 b l])]))) |_,_,_,_=>.fail
 |_=>.fail
theorem O54:nG ah (nY W7) 121 F54:=by
 refine rM (C:=C7 mD W7 qN ny) (C7.ok _ _) (CQ _) (m:=300) (n:=400) (L:=L0) (fn:=js) (by kernel_rfl) (by kernel_rfl) fun H w nV args φ hrep h=>?_
 have hn:js.ntmps=27:=by kernel_rfl
 unfold F54 at h;split at h
 ·rename_i s0 t x y s2 s3
  split at h
  ·rename_i n g i a hh b l hs0 ht hs2 hs3
   obtain ⟨h1,h2,hφ⟩:=h;match args,hrep with
   |[v,u1,u2],⟨hv,r1,r2,_⟩=>
    refine ⟨[.agg [.sl 4 n g],.i .i64 i,.agg [.i .i64 x,.i .i64 y,.sl 1 a hh,.sl 2 b l]],⟨DC hv fun u hu=>oO hs0 hu,qW ht r1,xI r2 (fun u hu=>oO hs2 hu) (fun u hu=>oO hs3 hu),trivial⟩,?_⟩;have same (hi:zY n i=ag):up φ (.agg [.sl 4 n g]):=oq (s':=.agg [.sl 4 n (Jz n g i [.i .i64 x,.i .i64 y,.sl 1 a hh,.sl 2 b l])]) ⟨.inr ⟨rfl,rfl,fun j hj=>by simp[Jz,hi]⟩,trivial⟩ hφ;rw[hn,a54 mD W7 n a b g hh l i x y,yc,A8,Ed];refine ⟨fun h=>same (afY h),fun h=>⟨fun h3=>same (afZ h3),fun h3=>⟨le0 n,h1,h1,ZL h h3,oq (s':=.agg [.sl 4 n (Jz n g i [.i .i64 x,.i .i64 y,.sl 1 a hh,.sl 2 b l])]) ⟨.inr ⟨rfl,rfl,fun j hj=>?_⟩,trivial⟩ hφ⟩⟩⟩;have hi:=ZL h h3;simp only[Jz,hi,true_and,Yr,pR];by_cases e:j=i.toNat
    ·have hl:(g j).length=4:=by rw[Hy h2 j hj];rfl
     rw[if_pos e,if_pos e];simp only[List.take_zero,eF,cA];rw[List.drop_eq_nil_of_le (by rw[hl];exact aV _)];rfl
    ·simp[e]
  ·exact h.elim
 ·exact h.elim
def F65:List Sh->Tree Sh
 |[.agg [.i .i64 k,.i .i64 i]]=>.need (qg k) (.node (uw k i) (.leaf (.er 7 329)) (.leaf (.v .nilIface))) |_=>.fail
theorem aem{k:Int}:mD.seq (tH k) []=!(decide (1<=k)&&decide (k<=4)):=by
 by_cases h1:k=1
 ·subst h1;rfl
 by_cases h2:k=2
 ·subst h2;rfl
 by_cases h3:k=3
 ·subst h3;rfl
 by_cases h4:k=4
 ·subst h4;rfl
 have:tH k=[]:=by simp[tH,h1,h2,h3,h4]
 rw[this,QG];by_cases h5:1<=k
 ·have:¬k<=4:=by omega
  simp[this]
 ·simp[h5]
theorem O65:nG ah (nY W7) 99 F65:=by
 refine BA (C:=C7 mD W7 qN ny) (C7.ok _ _) (fn:=dw) (by kernel_rfl) (by kernel_rfl) fun H w nV args φ hrep h=>?_
 have hn:dw.ntmps=36:=by kernel_rfl
 unfold F65 at h;split at h
 ·rename_i k i
  obtain ⟨h1,hb,hg⟩:=h;refine ⟨_,hrep,L0,xA (C7.ok _ _) (CQ _) (hold:=oG) (m:=300) (n:=400) (ts:=[]) ?_⟩;rw[hn,a65 mD W7 k i,aem];have q0:ab 0=0:=rfl;have q1:ab 1=1:=rfl;have q2:ab 2=2:=rfl;have q3:ab 1000000000=1000000000:=rfl;have q4:bI 999999999=-1000000000:=rfl;simp only[mQ,nC,oP,q0,q1,q2,q3,q4];have bad (h:uw k i=aj):φ (.er 7 329):=hb h;have good (h:uw k i=ag):φ (.v .nilIface):=hg h;refine ⟨fun e=>⟨rfl,h1,fun e1=>bad ?_,fun e1=>⟨fun e2=>bad ?_,fun e2=>⟨fun e3=>bad ?_,fun e3=>good ?_⟩⟩⟩,fun e=>⟨rfl,h1,fun e1=>bad ?_,fun e1=>⟨fun e2=>bad ?_,fun e2=>⟨fun e3=>bad ?_,fun e3=>⟨fun e4=>⟨fun e5=>bad ?_,fun e5=>good ?_⟩,fun e4=>good ?_⟩⟩⟩⟩⟩;all_goals (simp at *;simp[uw];omega)
 ·exact h.elim
end Go.Proofs
namespace Go.Pl
open Go Go.Sx
def vZ(n:Nat)(l:List (Nat×SV)):List SV:=l.foldl (fun t p=>t.set p.1 p.2) (bp n .any)
end Go.Pl
namespace Go.Proofs
open Go Go.Sx Go.Pl
def F60:List Sh->Tree Sh
 |[.sl 1 n g]=>.need (okB (List UInt8) n g) (.need (oI n 16) (.need (yx (qJ (lst (List UInt8) n g) [32])) (.leaf (.str (qJ (lst (List UInt8) n g) [32]))))) |_=>.fail
def yg:Nat->Option (List Sh->Tree Sh)
 |122=>ae F58 |145=>ae F92 |146=>ae F60 |99=>ae F65 |_=>aq
def KE:Nat->Bool:=fun g=>bA g 101
def Yt(n:Nat)(o:Nat->Oj)(e:Nat->List Sh)(i:Int):Core:={tm:=vZ 78 [(1,.ptr 0 0),(21,.sh (.sl 2 n (mF o))),(22,.sym .i64 (n:Int)),(23,.sym .i64 i)],hp:=[(0,.box [.sh (.sl 2 n (mF o)),.sh (.sl 8 0 e)] 25)],nx:=1,lim:=L0,tc:=[]}
def aen(n:Nat)(o:Nat->Oj)(e:Nat->List Sh):Core:={tm:=vZ 78 [(38,.sym .i64 0),(39,.sym .i64 0)],hp:=[],nx:=0,lim:=L0,tc:=[]}
def aeo:List It:=[aH [0,1,0,1,1,1],aW 2,aH [1,1,1,1]]
def ajF:List It:=aH [0,0,1,0,1,1,1]::aeo
def QI(a:Nat)(o:Nat->Int)(i:Int)(k:Nat)(gg:Nat->List Sh):Core:={tm:=vZ 61 [(3,.gs 0),(26,.sh (.sl 1 a (mF o))),(27,.sym .i64 (a:Int)),(28,.sym .i64 i)],hp:=[(0,.own 9 1 k gg)],nx:=1,lim:=L0,tc:=[]}
def QJ(b:Nat)(p:Nat->Pr)(i:Int)(k:Nat)(gg:Nat->List Sh):Core:={tm:=vZ 61 [(3,.gs 0),(41,.sh (.sl 2 b (mF p))),(42,.sym .i64 (b:Int)),(43,.sym .i64 i)],hp:=[(0,.own 9 1 k gg)],nx:=1,lim:=L0,tc:=[]}
def QK:List It:=[aH [0,1,0,1,1,1,0,1,0,1,1],aW 1,aW 0,aH [1,1,1]]
def QL:List It:=[aH [0,1,0,1,1,1,1,1,0,1,0,1,1],aW 3,aW 0,aH [1,1,1]]
def ajG:List It:=aH [0,0,1,0,1,1,1,0,1,0,1,1]::QK
def ajH:List It:=aH [0,0,1,0,1,1,1,1,1,0,1,0,1,1]::QL
theorem a41(A:Prim)(W:Wd)(k i:Int):nZ (C7 A W yg ny) oG 300 400 95 [.code []] (mM 16 [.agg [.i .i64 k,.i .i64 i]] L0) [] []=am (qg k) (ak (uw k i) (ai (ay (aQ [aN [az .i64 (ab 0),az .i64 (ab 0),ao 0 0 fun _=>[],ao 0 0 fun _=>[]],aC 7 329]))) (ai (ay (aQ [aN [az .i64 k,az .i64 i,ao 0 0 fun _=>[],ao 0 0 fun _=>[]],cT aI])))):=by kernel_rfl
theorem a49(A:Prim)(W:Wd)(n:Nat)(o:Nat->Oj)(e:Nat->List Sh)(i':Int):nZ (C7 A W yg ny) KE 300 400 77 [.code []] (mM 78 [.agg [.sl 2 n (mF o),.sl 8 0 e]] L0) [] [⟨77,yQ,Yt n o e i',[]⟩]=ak (A.lt (ab 8) (A.nH n)) (ai (ay (aC 6 329))) (ak (A.lt (ab 400) (A.nH 0)) (ai (ay (aC 6 329))) (ai (aK 0 [av (ao 2 n (mF o)) (ao 2 n (mF o)),ac (A.nH n) (ab n),ac (ab 0) i',av (ao 2 n (mF o)) (ao 2 n (mF o)),av (ao 8 0 e) (ao 8 0 e)]))):=by kernel_rfl
theorem b49(A:Prim)(W:Wd)(n:Nat)(o:Nat->Oj)(e:Nat->List Sh)(i i':Int):nZ (C7 A W yg ny) KE 300 400 77 Pm (Yt n o e i) [] [⟨77,yQ,Yt n o e i',[]⟩,⟨77,aeo,aen n o e,[]⟩]=ak (A.lt i (ab n)) (am (A.inB i n) (am (qg (o (A.toN i)).kind) (ak (uw (o (A.toN i)).kind (o (A.toN i)).init) (ai (ay (Sh.pV 109 (Sh.pt [az .i64 i,aC 7 329])))) (ai (aK 0 [av (ao 2 n (mF o)) (ao 2 n (mF o)),ac (ab n) (ab n),ac (A.add .i64 i (ab 1)) i',av (ao 2 n (mF o)) (ao 2 n (mF o)),av (ao 8 0 e) (ao 8 0 e)]))))) (ai (aK 1 [ac (A.nH 0) (ab 0),ac (ab 0) (ab 0)])):=by kernel_rfl
theorem c49(A:Prim)(W:Wd)(n:Nat)(o:Nat->Oj)(e:Nat->List Sh):nZ (C7 A W yg ny) KE 300 400 77 ajF (aen n o e) [] []=ak (A.lt (ab 0) (ab 0)) aY (ai (ay (cT aI))):=by kernel_rfl
theorem a35(A:Prim)(W:Wd)(x y:Int)(a b:Nat)(o:Nat->Int)(p:Nat->Pr)(i':Int)(k':Nat)(xW:Nat->List Sh):nZ (C7 A W yg ny) oG 300 400 116 [.code []] (mM 61 [.agg [.i .i64 x,.i .i64 y,.sl 1 a (mF o),.sl 2 b (mF p)]] L0) [] [⟨116,QK,QI a o i' k' xW,[]⟩,⟨116,QL,QJ b p i' k' xW,[]⟩]=am aj (am (qg x) (ak (A.eq x (ab 1)) (am (qg y) (am (okB (List UInt8) 2 (nM (chunks 1 (1+1) [aR (tH x),aR (nT y)]))) (am (oI 2 16) (am (yx (qJ (lst (List UInt8) 2 (nM (chunks 1 (1+1) [aR (tH x),aR (nT y)]))) [32])) (ai (ay (aR (qJ (lst (List UInt8) 2 (nM (chunks 1 (1+1) [aR (tH x),aR (nT y)]))) [32])))))))) (ak (A.eq x (ab 2)) (am (qg y) (am (okB (List UInt8) 2 (nM (chunks 1 (1+1) [aR (tH x),aR (nT y)]))) (am (oI 2 16) (am (yx (qJ (lst (List UInt8) 2 (nM (chunks 1 (1+1) [aR (tH x),aR (nT y)]))) [32])) (ai (ay (aR (qJ (lst (List UInt8) 2 (nM (chunks 1 (1+1) [aR (tH x),aR (nT y)]))) [32])))))))) (ak (A.eq x (ab 3)) (ai (aK 0 [av (ao 1 a (mF o)) (ao 1 a (mF o)),ac (A.nH a) (ab a),ac (ab 0) i',ap 1 k',ax 1 (nM [[aR (tH x)]]) xW])) (ak (A.eq x (ab 4)) (ai (aK 1 [av (ao 2 b (mF p)) (ao 2 b (mF p)),ac (A.nH b) (ab b),ac (ab 0) i',ap 1 k',ax 1 (nM [[aR (tH x)]]) xW])) (am (okB (List UInt8) 1 (nM (chunks 1 1 [aR (tH x)]))) (am (oI 1 16) (am (yx (qJ (lst (List UInt8) 1 (nM (chunks 1 1 [aR (tH x)]))) [32])) (ai (ay (aR (qJ (lst (List UInt8) 1 (nM (chunks 1 1 [aR (tH x)]))) [32])))))))))))):=by kernel_rfl
theorem arD(A:Prim)(W:Wd)(a:Nat)(o:Nat->Int)(i i':Int)(k k':Nat)(gg xW:Nat->List Sh):nZ (C7 A W yg ny) oG 300 400 116 ajG (QI a o i k gg) [] [⟨116,QK,QI a o i' k' xW,[]⟩]=ak (A.lt i (ab a)) (am (A.inB i a) (am (qg (o (A.toN i))) (am (A.room (A.addN k 1) 16) (ai (aK 0 [av (ao 1 a (mF o)) (ao 1 a (mF o)),ac (ab a) (ab a),ac (A.add .i64 i (ab 1)) i',ap (A.addN k 1) k',ax (A.addN k 1) (A.snoc gg k (nM [[aR (nT (o (A.toN i)))]])) xW]))))) (am (okB (List UInt8) k gg) (am (oI k 16) (am (yx (qJ (lst (List UInt8) k gg) [32])) (ai (ay (aR (qJ (lst (List UInt8) k gg) [32]))))))):=by kernel_rfl
theorem arE(A:Prim)(W:Wd)(b:Nat)(p:Nat->Pr)(i i':Int)(k k':Nat)(gg xW:Nat->List Sh):nZ (C7 A W yg ny) oG 300 400 116 ajH (QJ b p i k gg) [] [⟨116,QL,QJ b p i' k' xW,[]⟩]=ak (A.lt i (ab b)) (am (A.inB i b) (am (qg (p (A.toN i)).key) (am (A.Ux (A.addN (A.len (nT (p (A.toN i)).key)) (A.len [58])) 9223372036854775807) (am (qg (p (A.toN i)).val) (am (A.Ux (A.addN (A.len (A.app (nT (p (A.toN i)).key) [58])) (A.len (nT (p (A.toN i)).val))) 9223372036854775807) (am (A.room (A.addN k 1) 16) (ai (aK 0 [av (ao 2 b (mF p)) (ao 2 b (mF p)),ac (ab b) (ab b),ac (A.add .i64 i (ab 1)) i',ap (A.addN k 1) k',ax (A.addN k 1) (A.snoc gg k (nM [[aR (A.app (A.app (nT (p (A.toN i)).key) [58]) (nT (p (A.toN i)).val))]])) xW])))))))) (am (okB (List UInt8) k gg) (am (oI k 16) (am (yx (qJ (lst (List UInt8) k gg) [32])) (ai (ay (aR (qJ (lst (List UInt8) k gg) [32]))))))):=by kernel_rfl
end Go.Proofs
namespace Go.Pl
open Go Go.Sx
def zZ(s:pO):List (List UInt8):=tH s.kind::(if s.kind=1\/s.kind=2 then [nT s.num] else if s.kind=3 then s.q.map nT else if s.kind=4 then s.ps.map (fun p=>nT p.key++[58]++nT p.val) else [])
def noI:Nat->List Sh:=mF (nth ([]:List Int))
def noP:Nat->List Sh:=mF (nth ([]:List Pr))
def keyS(s:pO):List UInt8:=qJ (zZ s) [32]
def JA(n:Nat):Bool:=decide (8<n)
def Ef(n:Nat)(o:Nat->Oj):Bool:=(aE n).all fun j=>!uw (o j).kind (o j).init
def BN(n:Nat)(o:Nat->Oj):Nat:=((aE n).find? fun j=>uw (o j).kind (o j).init).getD 0
def Hz(n:Nat)(o:Nat->Oj):Bool:=(aE n).all fun j=>qg (o j).kind
theorem yh{n:Nat}{p:Nat->Bool}(h:(aE n).all p=aj):∀j,j<n->p j=aj:=fun j hj=>be.1 h j (bh.2 hj)
theorem ab4{n:Nat}{o:Nat->Oj}(h:∀j,j<n->uw (o j).kind (o j).init=ag):Ef n o=aj:=be.2 fun j hj=>by simp_all
theorem ajI{n k:Nat}{o:Nat->Oj}(hk:k<n)(h:uw (o k).kind (o k).init=aj):Ef n o=ag:=by
 grind [Ef,List.all_eq_false]
theorem find_range{n k:Nat}{p:Nat->Bool}(hk:k<n)(h:p k=aj)(hb:∀j,j<k->p j=ag):(aE n).find? p=ae k:=by
 simp_all
theorem ab5{n k:Nat}{o:Nat->Oj}(hk:k<n)(h:uw (o k).kind (o k).init=aj)(hb:∀j,j<k->uw (o j).kind (o j).init=ag):BN n o=k:=by
 unfold BN;rw[find_range hk h hb];rfl
def ajJ(n:Nat)(o:Nat->Int):Bool:=(aE n).all fun j=>qg (o j)
def aop(n:Nat)(o:Nat->Pr):Bool:=(aE n).all fun j=>qg (o j).key&&qg (o j).val
end Go.Pl
namespace Go.Proofs
open Go Go.Sx Go.Pl
theorem O59:nG ah (nY W7) 145 F92:=by
 refine rM (C:=C7 mD W7 qN ny) (C7.ok _ _) (CQ _) (m:=300) (n:=400) (L:=L0) (fn:=jt) (by kernel_rfl) (by kernel_rfl) fun H w nV args φ hrep h=>?_
 have hn:jt.ntmps=5:=by kernel_rfl
 unfold F92 at h;split at h
 ·obtain ⟨h1,hφ⟩:=h
  refine ⟨_,hrep,?_⟩;rw[hn,a59 mD W7];exact ⟨h1,oq (s':=.str _) rfl hφ⟩
 ·exact h.elim
theorem O60:nG ah (nY W7) 146 F60:=by
 refine rM (C:=C7 mD W7 qN ny) (C7.ok _ _) (CQ _) (m:=300) (n:=400) (L:=L0) (fn:=jv) (by kernel_rfl) (by kernel_rfl) fun H w nV args φ hrep h=>?_
 have hn:jv.ntmps=5:=by kernel_rfl
 unfold F60 at h;split at h
 ·obtain ⟨h1,h2,h3,hφ⟩:=h
  refine ⟨_,hrep,?_⟩;rw[hn,a60 mD W7];exact ⟨h1,h2,h3,oq (s':=.str _) rfl hφ⟩
 ·exact h.elim
theorem OBs:∀g F,yg g=ae F->nG ah (nY W7) g F:=fun g F h=>by
 unfold yg at h;grind [O58,O59,O60,O65]
theorem VR(stop:Nat->List Nat->Bool):oH ah (C7 mD W7 yg stop):=C7.Gh OBs fun g h=>by
 unfold yg at h;split at h;all_goals first|(cases h;done) |kernel_rfl
def F41:List Sh->Tree Sh
 |[.agg [.i .i64 k,.i .i64 i]]=>.need (qg k) (.node (uw k i) (.leaf (.mV [.agg (qo Ee),.er 7 329])) (.leaf (.mV [.agg [.i .i64 k,.i .i64 i,.sl 1 0 noI,.sl 2 0 noP],.v .nilIface]))) |_=>.fail
theorem O41:nG ah (nY W7) 95 F41:=by
 refine rM (C:=C7 mD W7 yg ny) (C7.ok _ _) (VR _) (m:=300) (n:=400) (L:=L0) (fn:=kg) (by kernel_rfl) (by kernel_rfl) fun H w nV args φ hrep h=>?_
 have hn:kg.ntmps=16:=by kernel_rfl
 unfold F41 at h;split at h
 ·rename_i k i
  obtain ⟨h1,hb,hg⟩:=h;refine ⟨_,hrep,?_⟩;rw[hn,a41 mD W7 k i];refine ⟨h1,fun e=>oq (s':=.mV [.agg (qo Ee),.er 7 329]) ?_ (hb e),fun e=>oq (s':=.mV [.agg [.i .i64 k,.i .i64 i,.sl 1 0 noI,.sl 2 0 noP],.v .nilIface]) ?_ (hg e)⟩
  ·simp[qo,Ee,Wk,Et,len]
  ·simp[Wk,Et]
 ·exact h.elim
def F49:List Sh->Tree Sh
 |[.agg [s0,s1]]=>match sD 2 s0,sD 8 s1 with
  |some (n,g),ae (0,_)=>.need (okB Oj n g) (.need (Hz n (mJ g)) (.node (JA n) (.leaf (.er 6 329)) (.node (Ef n (mJ g)) (.leaf (.v .nilIface)) (.leaf (.pV 109 (.pt [.i .i64 (BN n (mJ g)),.er 7 329])))))) |_,_=>.fail
 |_=>.fail
theorem af0{H0:Mem}{w0:World}{n:Nat}{o:Nat->Oj}{e:Nat->List Sh}{φ:Sh->Prop}(hn:n<=8)(hk:∀j,j<n->qg (o j).kind=aj)(hT:(∀j,j<n->uw (o j).kind (o j).init=ag)->φ (.v .nilIface))
  (hF:∀k,k<n->uw (o k).kind (o k).init=aj->(∀j,j<k->uw (o j).kind (o j).init=ag)->φ (.pV 109 (.pt [.i .i64 k,.er 7 329]))) :
  ∀r k,k+r=n->(∀j,j<k->uw (o j).kind (o j).init=ag)->nX ah (C7 mD W7 yg ny) (K0 H0 w0) 77 yQ (Yt n o e (k:Int)) [] emp φ
 |r,k,hkr,hE=>by
  refine wY (fn:=cE) (tb:=Pm) (by kernel_rfl) (by kernel_rfl) ?_;refine xA (C7.ok _ _) (VR _) (hold:=KE) (m:=300) (n:=400) (ts:=[⟨77,yQ,Yt n o e (k+1:Nat),[]⟩,⟨77,aeo,aen n o e,[]⟩]) ?_;rw[b49 mD W7 n o e k (k+1:Nat)];simp only[mQ,oJ,pR,qG,wZ,bR];refine ⟨fun h=>?_,fun h=>?_⟩
  ·have hlt:k<n:=by simp_all
   refine ⟨by simp;omega,hk k hlt,fun hb=>hF k hlt hb hE,fun hb=>⟨⟨rfl,rfl,?_,rfl,rfl,trivial⟩,_,rfl,?_⟩⟩
   ·grind [cw,pI]
   ·match r,hkr with
    |0,hkr=>omega |r+1,hkr=>
     refine af0 hn hk hT hF r (k+1) (by omega) fun j hj=>?_
     grind
  ·have:k=n:=by grind
   subst this;refine ⟨⟨rfl,rfl,trivial⟩,_,rfl,?_⟩;refine wY (fn:=cE) (tb:=ajF) (by kernel_rfl) (by kernel_rfl) ?_;refine xA (C7.ok _ _) (VR _) (hold:=KE) (m:=300) (n:=400) (ts:=[]) ?_;rw[c49 mD W7 k o e];exact ⟨fun h=>by simp[mQ] at h,fun _=>hT hE⟩
theorem O49:nG ah (nY W7) 77 F49:=by
 refine BA (C:=C7 mD W7 yg ny) (C7.ok _ _) (fn:=cE) (by kernel_rfl) (by kernel_rfl) fun H w nV args φ hrep h=>?_
 have hn:cE.ntmps=78:=by kernel_rfl
 unfold F49 at h;split at h
 ·rename_i s0 s1
  split at h
  ·rename_i n g e hs0 hs1
   obtain ⟨h1,h2,hbig,hsm⟩:=h;have hbig:JA n=aj->φ (.er 6 329):=hbig;have hsm:JA n=ag->(Ef n (mJ g)=aj->φ (.v .nilIface))/\(Ef n (mJ g)=ag->φ (.pV 109 (.pt [.i .i64 (BN n (mJ g)),.er 7 329]))):=hsm;match args,hrep with
   |[v],⟨hv,_⟩=>
    refine ⟨[.agg [.sl 2 n (mF (mJ (α:=Oj) g)),.sl 8 0 e]],⟨QH hv (fun u hu=>uD (oO hs0 hu) h1) (fun u hu=>oO hs1 hu),trivial⟩,L0,?_⟩;generalize mJ (α:=Oj) g=o at *;refine xA (C7.ok _ _) (VR _) (hold:=KE) (m:=300) (n:=400) (ts:=[⟨77,yQ,Yt n o e (0:Nat),[]⟩]) ?_;rw[hn,a49 mD W7 n o e (0:Nat)];refine ⟨fun h=>hbig ?_,fun h=>⟨fun h=>?_,fun _=>⟨⟨rfl,rfl,rfl,rfl,rfl,trivial⟩,_,rfl,?_⟩⟩⟩
    ·grind [mQ,nI,JA]
    ·simp[mQ,nI] at h
    ·have hn8:n<=8:=by grind [mQ,nI]
     obtain ⟨q1,q2⟩:=hsm (by simp[JA];omega);refine af0 hn8 (yh h2) (fun hE=>q1 (ab4 hE)) (fun k hk hb hE=>?_) n 0 (by omega) fun j hj=>by omega
     grind [ajI,ab5]
  ·exact h.elim
 ·exact h.elim
end Go.Proofs
namespace Go.Pl
open Go Go.Sx Go.Proofs
theorem ajK{a b:List UInt8}:lst (List UInt8) 2 (nM (chunks 1 (1+1) [aR a,aR b]))=[a,b]:=rfl
theorem ajL{a:List UInt8}:lst (List UInt8) 1 (nM (chunks 1 1 [aR a]))=[a]:=rfl
theorem Ba{n:Int}(h:qg n=aj):(nT n).length<=21:=by
 have h:=of_decide_eq_true h;exact Go.Lib.itoa_length_le n h.1 h.2
theorem ZM{α:Type}[Row α](l:List α){k:Nat}(h:l.length=k):lst α k (mF (nth l))=l:=by grind [BL]
theorem Gj{α:Type}[Row α](l:List α)(a:α){r:List (List Sh)}(h:nM r 0=Row.put a):∀i,i<l.length+1->mD.snoc (mF (nth l)) l.length (nM r) i=mF (nth (l++[a])) i:=fun i hi=>by
 rw[tY];split
 ·simp_all [mF,nth,List.getD_eq_getElem?_getD]
 ·have:i=l.length:=by omega
  simp_all [gU,mF,nth]
end Go.Pl
namespace Go.Proofs
open Go Go.Sx Go.Pl
def F35:List Sh->Tree Sh
 |[.agg [.i .i64 x,.i .i64 y,s2,s3]]=>match sD 1 s2,sD 2 s3 with
  |some (a,h),ae (b,l)=>.need (okB Int a h) (.need (okB Pr b l) (.need (qg x) (.need (qg y) (.need (ajJ a (mJ h)) (.need (aop b (mJ l)) (.need (decide (a<=100000/\b<=100000)) (.leaf (.str (keyS ⟨x,y,lst Int a h,lst Pr b l⟩))))))))) |_,_=>.fail
 |_=>.fail
theorem QM(l:List (List UInt8))(sep:List UInt8){m:Nat}(h:∀x∈l,x.length<=m):(qJ l sep).length<=l.length*(m+sep.length):=by
 induction l with
 |nil=>simp[qJ,Go.Lib.join_nil] |cons x r ih=>
  have h1:=h x (by simp);have h2:(eg sep r).length<=r.length*(m+sep.length):=by
   clear ih;induction r with
   |nil=>simp[eg] |cons y r ih2=>
    have h3:=ih2 fun z hz=>h z (by
     grind)
    have h4:=h y (by simp);simp only[eg,List.map_cons,List.flatten_cons,bz,cZ,gK,gC] at h3 ⊢;omega
  unfold qJ;rw[Go.Lib.join_cons,bz,cZ,gK,gC];omega
theorem EN{l:List (List UInt8)}(hl:l.length<=200000)(h:∀x∈l,x.length<=50):yx (qJ l [32])=aj:=by
 have:=QM l [32] h;have h2:l.length*(50+[(32:UInt8)].length)<=200000*51:=bj _ hl;exact decide_eq_true (by omega)
theorem room_le{n b:Nat}(h:n<=1000000)(hb:b<=1000):oI n b=aj:=by
 show decide (n*b<=140737488355328/\n<=maxLen)=aj;rw[maxLen_eq];have:n*b<=1000000*1000:=Nat.mul_le_mul h hb;grind
theorem VU(k:Int):(tH k).length<=50:=by
 unfold tH;repeat' split
 all_goals decide
theorem ab6{H0:Mem}{w0:World}{q:List Int}{W:List UInt8}{φ:Sh->Prop}(hq:q.length<=100000)(h64:∀x∈q,qg x=aj)(hW:W.length<=50)(hφ:φ (.str (qJ (W::q.map nT) [32]))):
  ∀r k,k+r=q.length->nX ah (C7 mD W7 yg ny) (K0 H0 w0) 116 QK (QI q.length (nth q) (k:Int) (k+1) (mF (nth (W::(q.take k).map nT)))) [] emp φ
 |r,k,hkr=>by
  refine wY (fn:=fM) (tb:=ajG) (by kernel_rfl) (by kernel_rfl) ?_;refine xA (C7.ok _ _) (VR _) (hold:=oG) (m:=300) (n:=400) (ts:=[⟨116,QK,QI q.length (nth q) (k+1:Nat) (k+1+1) (mF (nth (W::(q.take (k+1)).map nT))),[]⟩]) ?_;rw[arD mD W7 q.length (nth q) k (k+1:Nat) (k+1) (k+1+1) (mF (nth (W::(q.take k).map nT))) (mF (nth (W::(q.take (k+1)).map nT)))];have hlen:(W::(q.take k).map nT).length=k+1:=by simp;omega
  simp only[mQ,oJ,pR,qG,wZ,bR,VP];refine ⟨fun h=>?_,fun h=>?_⟩
  ·have hlt:k<q.length:=by simp_all
   have hx:nth q k=q[k]:=by simp[nth,hlt]
   refine ⟨by simp;omega,by simp_all,room_le (by omega) (by omega),⟨rfl,rfl,?_,rfl,?_,trivial⟩,_,rfl,?_⟩
   ·grind [cw,pI]
   ·have e:W::(q.take (k+1)).map nT=(W::(q.take k).map nT)++[nT (nth q k)]:=by
     grind [fg]
    have:=Gj (W::(q.take k).map nT) (nT (nth q k)) (r:=[[.str (nT (nth q k))]]) rfl;rw[hlen] at this;rw[e];exact this
   ·match r,hkr with
    |0,hkr=>omega |r+1,hkr=>exact ab6 hq h64 hW hφ r (k+1) (by omega)
  ·have hk:k=q.length:=by simp_all
   subst hk;rw[jC] at hlen ⊢;rw[ZM _ hlen];refine ⟨rZ _ _,room_le (by omega) (by omega),EN (by simp;omega) fun x hx=>?_,hφ⟩;grind [Ba]
theorem Yu{p:Pr}(h1:qg p.key=aj)(h2:qg p.val=aj):(nT p.key++[58]++nT p.val).length<=50:=by
 grind [Ba]
theorem ab7{H0:Mem}{w0:World}{q:List Pr}{W:List UInt8}{φ:Sh->Prop}(hq:q.length<=100000)(h64:∀x∈q,qg x.key=aj/\qg x.val=aj)(hW:W.length<=50)(hφ:φ (.str (qJ (W::q.map (fun p=>nT p.key++[58]++nT p.val)) [32]))):
  ∀r k,k+r=q.length->nX ah (C7 mD W7 yg ny) (K0 H0 w0) 116 QL (QJ q.length (nth q) (k:Int) (k+1) (mF (nth (W::(q.take k).map (fun p=>nT p.key++[58]++nT p.val))))) [] emp φ
 |r,k,hkr=>by
  refine wY (fn:=fM) (tb:=ajH) (by kernel_rfl) (by kernel_rfl) ?_;refine xA (C7.ok _ _) (VR _) (hold:=oG) (m:=300) (n:=400) (ts:=[⟨116,QL,QJ q.length (nth q) (k+1:Nat) (k+1+1) (mF (nth (W::(q.take (k+1)).map (fun p=>nT p.key++[58]++nT p.val)))),[]⟩]) ?_;rw[arE mD W7 q.length (nth q) k (k+1:Nat) (k+1) (k+1+1) (mF (nth (W::(q.take k).map (fun p=>nT p.key++[58]++nT p.val)))) (mF (nth (W::(q.take (k+1)).map (fun p=>nT p.key++[58]++nT p.val))))];have hlen:(W::(q.take k).map (fun p=>nT p.key++[58]++nT p.val)).length=k+1:=by simp;omega
  simp only[mQ,oJ,pR,qG,wZ,bR,VP];refine ⟨fun h=>?_,fun h=>?_⟩
  ·have hlt:k<q.length:=by simp_all
   have hx:nth q k=q[k]:=by simp[nth,hlt]
   obtain ⟨p1,p2⟩:=h64 _ (List.getElem_mem hlt);rw[<-hx] at p1 p2;have l1:=Ba p1;have l2:=Ba p2;refine ⟨by simp;omega,p1,?_,p2,?_,room_le (by omega) (by omega),⟨rfl,rfl,?_,rfl,?_,trivial⟩,_,rfl,?_⟩
   ·show decide ((nT (nth q k).key).length+1<=9223372036854775807)=aj
    grind
   ·show decide ((nT (nth q k).key++[58]).length+(nT (nth q k).val).length<=9223372036854775807)=aj
    grind
   ·grind [cw,pI]
   ·have e:W::(q.take (k+1)).map (fun p=>nT p.key++[58]++nT p.val)=(W::(q.take k).map (fun p=>nT p.key++[58]++nT p.val))++[nT (nth q k).key++[58]++nT (nth q k).val]:=by
     grind [fg]
    have:=Gj (W::(q.take k).map (fun p=>nT p.key++[58]++nT p.val)) (nT (nth q k).key++[58]++nT (nth q k).val) (r:=[[.str (nT (nth q k).key++[58]++nT (nth q k).val)]]) rfl;rw[hlen] at this;rw[e];exact this
   ·match r,hkr with
    |0,hkr=>omega |r+1,hkr=>exact ab7 hq h64 hW hφ r (k+1) (by omega)
  ·have hk:k=q.length:=by simp_all
   subst hk;rw[jC] at hlen ⊢;rw[ZM _ hlen];refine ⟨rZ _ _,room_le (by omega) (by omega),EN (by simp;omega) fun x hx=>?_,hφ⟩;grind [Yu]
theorem ab8{α:Type}[Row α]{n:Nat}{g:Nat->List Sh}{x:α}(h:x∈lst α n g):∃j,j<n/\x=mJ g j:=by
 obtain ⟨j,hj,rfl⟩:=bN.1 h;grind
theorem BF{α:Type}[Row α]{H:Mem}{st n:Nat}{g:Nat->List Sh}{v:Value}(h:Rep H (.sl st n g) v)(hg:okB α n g=aj):Rep H (.sl st (lst α n g).length (mF (nth (lst α n g)))) v:=by
 grind [vK,sW,BD,mF,Pj]
theorem O35:nG ah (nY W7) 116 F35:=by
 refine BA (C:=C7 mD W7 yg ny) (C7.ok _ _) (fn:=fM) (by kernel_rfl) (by kernel_rfl) fun H w nV args φ hrep h=>?_
 have hn:fM.ntmps=61:=by kernel_rfl
 unfold F35 at h;split at h
 ·rename_i x y s2 s3
  split at h
  ·rename_i a hh b l hs2 hs3
   obtain ⟨h1,h2,h3,h4,h5,h6,h7,hφ⟩:=h;have h7:=of_decide_eq_true h7;match args,hrep with
   |[v],⟨hv,_⟩=>
    have l1:(lst Int a hh).length=a:=vK _ _;have l2:(lst Pr b l).length=b:=vK _ _;have m1:∀z∈lst Int a hh,qg z=aj:=fun z hz=>by
     obtain ⟨j,hj,rfl⟩:=ab8 hz;exact yh h5 j hj
    have m2:∀z∈lst Pr b l,qg z.key=aj/\qg z.val=aj:=fun z hz=>by
     obtain ⟨j,hj,rfl⟩:=ab8 hz;simpa using yh h6 j hj
    refine ⟨[.agg [.i .i64 x,.i .i64 y,.sl 1 (lst Int a hh).length (mF (nth (lst Int a hh))),.sl 2 (lst Pr b l).length (mF (nth (lst Pr b l)))]],⟨xI hv (fun u hu=>BF (oO hs2 hu) h1) (fun u hu=>BF (oO hs3 hu) h2),trivial⟩,L0,?_⟩;generalize lst Int a hh=q at *;generalize lst Pr b l=ps at *;have hφ:φ (.str (qJ (zZ ⟨x,y,q,ps⟩) [32])):=hφ;refine xA (C7.ok _ _) (VR _) (hold:=oG) (m:=300) (n:=400) (ts:=[⟨116,QK,QI q.length (nth q) (0:Nat) 1 (mF (nth [tH x])),[]⟩,⟨116,QL,QJ ps.length (nth ps) (0:Nat) 1 (mF (nth [tH x])),[]⟩]) ?_;rw[hn,a35 mD W7 x y q.length ps.length (nth q) (nth ps) (0:Nat) 1 (mF (nth [tH x])),ajK,ajL];have hw:=VU x;have hy:=Ba h4;have two:yx (qJ [tH x,nT y] [32])=aj:=EN (by simp) fun z hz=>by
     grind
    refine ⟨rfl,h3,fun e=>⟨h4,rfl,room_le (by omega) (by omega),two,?_⟩,fun e1=>⟨fun e=>⟨h4,rfl,room_le (by omega) (by omega),two,?_⟩,fun e2=>⟨fun e=>⟨⟨rfl,rfl,rfl,rfl,fun j hj=>?_,trivial⟩,_,rfl,?_⟩,fun e3=>⟨fun e=>⟨⟨rfl,rfl,rfl,rfl,fun j hj=>?_,trivial⟩,_,rfl,?_⟩,fun e4=>⟨rfl,room_le (by omega) (by omega),EN (by simp) fun z hz=>?_,?_⟩⟩⟩⟩⟩
    ·have e:x=1:=by grind [nC]
     subst e;exact hφ
    ·have e:x=2:=by grind [nC]
     subst e;exact hφ
    ·obtain rfl:j=0:=by omega
     rfl
    ·have e:x=3:=by grind [nC]
     subst e;exact ab6 (by omega) m1 hw hφ q.length 0 (by omega)
    ·obtain rfl:j=0:=by omega
     rfl
    ·have e:x=4:=by grind [nC]
     subst e;exact ab7 (by omega) m2 hw hφ ps.length 0 (by omega)
    ·simp_all
    ·have e1:¬x=1:=by grind [nC]
     have e2:¬x=2:=by grind [nC]
     have e3:¬x=3:=by grind [nC]
     have e4:¬x=4:=by grind [nC]
     have e:zZ ⟨x,y,q,ps⟩=[tH x]:=by simp_all [zZ]
     rw[e] at hφ;exact hφ
  ·exact h.elim
 ·exact h.elim
end Go.Proofs
