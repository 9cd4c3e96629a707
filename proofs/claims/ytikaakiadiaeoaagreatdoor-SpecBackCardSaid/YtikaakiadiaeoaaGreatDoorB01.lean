/-
  DERIVED: THE SHELF's CONTRACTS AT THIS DUMP, IN PLAIN WORDS (tools/lay-plain.mjs out of 'TryzSbShelf.lean', which tools/lay-shelf.mjs wrote): THE SAME DECLARATIONS UNDER THE SAME NAMES: 'import', 'namespace', 'open', 'def', 'theorem' AND NOTHING ELSE: no command of the shelf's: FOR A HAND-IN. Each laying: the table of numbers ('.._ren') and one theorem, a field a fact of the dump's own or the kernel's comparison; each contract: ONE APPLICATION. A symbolic executor for the model's code: definitions alone (values, heap, operations, the run). Own work; the theorem that it is sound stands in Sx2. What the executor's values and states mean in the model: definitions, and that they keep when the environment and the immutable memory grow. What the tables of a context say, and the operations that look at memory and leave it as it is. Operations that leave memory as it is: what the executor says of them holds.
-/
import Derived.Shelf.Strings.Search2
import Derived.Shelf.Strings.Search3
import Derived.Shelf.Strings.Cut
import Derived.Shelf.Strings.Count
import Derived.Shelf.Strings.Split
import Derived.Shelf.LaysM
import Derived.Shelf.LaysC
import Derived.Shelf.Strconv.AtoiAll
import Derived.Test.YtikaakiadiaeoaaGreatDoorProg
import Derived.OrdersHeld
import Derived.Calls
import Derived.Laws.AppendOwn
import Derived.Laws.OwnMore
import Derived.Below
import Derived.WalkKit
namespace Go.Proofs
open Go.Shelf
def Tryz.laysC172_ren : Go.Shelf.Ren := ⟨fun | 172 => 110 | 244 => 135 | 245 => 136 | 247 => 167 | 279 => 168 | 280 => 169 | 281 => 170 | 282 => 171 | 287 => 187 | 316 => 188 | 171 => 92 | 205 => 189 | 321 => 195 | 322 => 196 | 243 => 125 | 246 => 158 | 283 => 179 | 284 => 180 | 285 => 181 | 286 => 182 | 129 => 191 | 317 => 190 | 318 => 192 | 319 => 193 | 320 => 194 | 337 => 197 | 338 => 198 | n => n, fun | 9 => 9 | 3 => 3 | 75 => 52 | 76 => 154 | 4 => 4 | 5 => 5 | 167 => 210 | 37 => 118 | 0 => 0 | 85 => 211 | 2 => 2 | 168 => 213 | 53 => 217 | 175 => 226 | 46 => 205 | 210 => 230 | 127 => 180 | 145 => 244 | 143 => 242 | 21 => 21 | 171 => 216 | 173 => 220 | 212 => 233 | 51 => 223 | 20 => 20 | 213 => 234 | 232 => 246 | 233 => 247 | 80 => 67 | n => n, fun | 15 => 14 | 16 => 15 | 17 => 16 | 18 => 19 | 19 => 20 | n => n⟩
theorem Tryz.laysC172 : Go.Proofs.LaysC.n172 Tryz.prog Tryz.laysC172_ren := {
 mixed := by kernel_rfl
 f129 := Tryz.func191.trans (congrArg some (by kernel_rfl))
 f171 := Tryz.func92.trans (congrArg some (by kernel_rfl))
 f172 := Tryz.func110.trans (congrArg some (by kernel_rfl))
 f205 := Tryz.func189.trans (congrArg some (by kernel_rfl))
 f243 := Tryz.func125.trans (congrArg some (by kernel_rfl))
 f244 := Tryz.func135.trans (congrArg some (by kernel_rfl))
 f245 := Tryz.func136.trans (congrArg some (by kernel_rfl))
 f246 := Tryz.func158.trans (congrArg some (by kernel_rfl))
 f247 := Tryz.func167.trans (congrArg some (by kernel_rfl))
 f279 := Tryz.func168.trans (congrArg some (by kernel_rfl))
 f280 := Tryz.func169.trans (congrArg some (by kernel_rfl))
 f281 := Tryz.func170.trans (congrArg some (by kernel_rfl))
 f282 := Tryz.func171.trans (congrArg some (by kernel_rfl))
 f283 := Tryz.func179.trans (congrArg some (by kernel_rfl))
 f284 := Tryz.func180.trans (congrArg some (by kernel_rfl))
 f285 := Tryz.func181.trans (congrArg some (by kernel_rfl))
 f286 := Tryz.func182.trans (congrArg some (by kernel_rfl))
 f287 := Tryz.func187.trans (congrArg some (by kernel_rfl))
 f316 := Tryz.func188.trans (congrArg some (by kernel_rfl))
 f317 := Tryz.func190.trans (congrArg some (by kernel_rfl))
 f318 := Tryz.func192.trans (congrArg some (by kernel_rfl))
 f319 := Tryz.func193.trans (congrArg some (by kernel_rfl))
 f320 := Tryz.func194.trans (congrArg some (by kernel_rfl))
 f321 := Tryz.func195.trans (congrArg some (by kernel_rfl))
 f322 := Tryz.func196.trans (congrArg some (by kernel_rfl))
 f337 := Tryz.func197.trans (congrArg some (by kernel_rfl))
 f338 := Tryz.func198.trans (congrArg some (by kernel_rfl))
 t0 := Tryz.underlying0
 a0 := Tryz.isAgg0
 z0 := Tryz.sizeOf0
 v0 := Tryz.zeroValue0
 t2 := Tryz.underlying2
 a2 := Tryz.isAgg2
 z2 := Tryz.sizeOf2
 v2 := Tryz.zeroValue2
 t3 := Tryz.underlying3
 a3 := Tryz.isAgg3
 z3 := Tryz.sizeOf3
 v3 := Tryz.zeroValue3
 t4 := Tryz.underlying4
 a4 := Tryz.isAgg4
 z4 := Tryz.sizeOf4
 v4 := Tryz.zeroValue4
 t5 := Tryz.underlying5
 a5 := Tryz.isAgg5
 z5 := Tryz.sizeOf5
 v5 := Tryz.zeroValue5
 t9 := Tryz.underlying9
 a9 := Tryz.isAgg9
 z9 := Tryz.sizeOf9
 v9 := Tryz.zeroValue9
 t20 := Tryz.underlying20
 a20 := Tryz.isAgg20
 z20 := Tryz.sizeOf20
 v20 := Tryz.zeroValue20
 t21 := Tryz.underlying21
 a21 := Tryz.isAgg21
 z21 := Tryz.sizeOf21
 v21 := Tryz.zeroValue21
 t37 := Tryz.underlying118
 a37 := Tryz.isAgg118
 z37 := Tryz.sizeOf118
 v37 := Tryz.zeroValue118
 t46 := Tryz.underlying205
 a46 := Tryz.isAgg205
 z46 := Tryz.sizeOf205
 v46 := Tryz.zeroValue205
 t51 := Tryz.underlying223
 a51 := Tryz.isAgg223
 z51 := Tryz.sizeOf223
 v51 := Tryz.zeroValue223
 t53 := Tryz.underlying217
 a53 := Tryz.isAgg217
 z53 := Tryz.sizeOf217
 v53 := Tryz.zeroValue217
 t75 := Tryz.underlying52
 a75 := Tryz.isAgg52
 z75 := Tryz.sizeOf52
 v75 := Tryz.zeroValue52
 t76 := Tryz.underlying154
 a76 := Tryz.isAgg154
 z76 := Tryz.sizeOf154
 v76 := Tryz.zeroValue154
 t85 := Tryz.underlying211
 a85 := Tryz.isAgg211
 z85 := Tryz.sizeOf211
 v85 := Tryz.zeroValue211
 t127 := Tryz.underlying180
 a127 := Tryz.isAgg180
 z127 := Tryz.sizeOf180
 v127 := Tryz.zeroValue180
 t143 := Tryz.underlying242
 a143 := Tryz.isAgg242
 z143 := Tryz.sizeOf242
 v143 := Tryz.zeroValue242
 t145 := Tryz.underlying244
 a145 := Tryz.isAgg244
 z145 := Tryz.sizeOf244
 v145 := Tryz.zeroValue244
 t167 := Tryz.underlying210
 a167 := Tryz.isAgg210
 z167 := Tryz.sizeOf210
 v167 := Tryz.zeroValue210
 t168 := Tryz.underlying213
 a168 := Tryz.isAgg213
 z168 := Tryz.sizeOf213
 v168 := Tryz.zeroValue213
 t171 := Tryz.underlying216
 a171 := Tryz.isAgg216
 z171 := Tryz.sizeOf216
 v171 := Tryz.zeroValue216
 t173 := Tryz.underlying220
 a173 := Tryz.isAgg220
 z173 := Tryz.sizeOf220
 v173 := Tryz.zeroValue220
 t175 := Tryz.underlying226
 a175 := Tryz.isAgg226
 z175 := Tryz.sizeOf226
 v175 := Tryz.zeroValue226
 t210 := Tryz.underlying230
 a210 := Tryz.isAgg230
 z210 := Tryz.sizeOf230
 v210 := Tryz.zeroValue230
 t212 := Tryz.underlying233
 a212 := Tryz.isAgg233
 z212 := Tryz.sizeOf233
 v212 := Tryz.zeroValue233
 t213 := Tryz.underlying234
 a213 := Tryz.isAgg234
 z213 := Tryz.sizeOf234
 t232 := Tryz.underlying246
 a232 := Tryz.isAgg246
 z232 := Tryz.sizeOf246
 v232 := Tryz.zeroValue246
 t233 := Tryz.underlying247
 a233 := Tryz.isAgg247
 z233 := Tryz.sizeOf247
 v233 := Tryz.zeroValue247
 g15 := by kernel_rfl
 g16 := by kernel_rfl
 g17 := by kernel_rfl
 g18 := by kernel_rfl
 g19 := by kernel_rfl
 t80 := Tryz.underlying67
 a80 := Tryz.isAgg67
 z80 := Tryz.sizeOf67
 v80 := Tryz.zeroValue67
 i0 := by kernel_rfl
 i2 := by kernel_rfl
 i3 := by kernel_rfl
 i4 := by kernel_rfl
 i5 := by kernel_rfl
 i9 := by kernel_rfl
 i20 := by kernel_rfl
 i21 := by kernel_rfl
 i37 := by kernel_rfl
 i46 := by kernel_rfl
 i51 := by kernel_rfl
 i53 := by kernel_rfl
 i75 := by kernel_rfl
 i76 := by kernel_rfl
 i80 := by kernel_rfl
 i85 := by kernel_rfl
 i127 := by kernel_rfl
 i143 := by kernel_rfl
 i145 := by kernel_rfl
 i167 := by kernel_rfl
 i168 := by kernel_rfl
 i171 := by kernel_rfl
 i173 := by kernel_rfl
 i175 := by kernel_rfl
 i210 := by kernel_rfl
 i212 := by kernel_rfl
 i232 := by kernel_rfl
 i233 := by kernel_rfl
 m15 := by kernel_rfl
 m16 := by kernel_rfl
 m17 := by kernel_rfl
 m18 := by kernel_rfl
 m19 := by kernel_rfl
 c0 := by kernel_rfl
 c2 := by kernel_rfl
 c3 := by kernel_rfl
 c4 := by kernel_rfl
 c5 := by kernel_rfl
 c9 := by kernel_rfl
 c20 := by kernel_rfl
 c21 := by kernel_rfl
 c37 := by kernel_rfl
 c46 := by kernel_rfl
 c51 := by kernel_rfl
 c53 := by kernel_rfl
 c75 := by kernel_rfl
 c76 := by kernel_rfl
 c80 := by kernel_rfl
 c85 := by kernel_rfl
 c127 := by kernel_rfl
 c143 := by kernel_rfl
 c145 := by kernel_rfl
 c167 := by kernel_rfl
 c168 := by kernel_rfl
 c171 := by kernel_rfl
 c173 := by kernel_rfl
 c175 := by kernel_rfl
 c210 := by kernel_rfl
 c212 := by kernel_rfl
 c213 := by kernel_rfl
 c232 := by kernel_rfl
 c233 := by kernel_rfl }
def Tryz.lays219_ren : Go.Shelf.Ren := ⟨fun | 219 => 134 | 217 => 163 | 225 => 164 | 224 => 165 | 267 => 166 | 266 => 185 | 314 => 186 | n => n, fun | 9 => 9 | 3 => 3 | 4 => 4 | 5 => 5 | 46 => 205 | 146 => 224 | 51 => 223 | n => n, fun | 1 => 13 | n => n⟩
theorem Tryz.lays219 : Go.Proofs.Lays.n219 Tryz.prog Tryz.lays219_ren := {
 mixed := by kernel_rfl
 f217 := Tryz.func163.trans (congrArg some (by kernel_rfl))
 f219 := Tryz.func134.trans (congrArg some (by kernel_rfl))
 f224 := Tryz.func165.trans (congrArg some (by kernel_rfl))
 f225 := Tryz.func164.trans (congrArg some (by kernel_rfl))
 f266 := Tryz.func185.trans (congrArg some (by kernel_rfl))
 f267 := Tryz.func166.trans (congrArg some (by kernel_rfl))
 f314 := Tryz.func186.trans (congrArg some (by kernel_rfl))
 t3 := Tryz.underlying3
 a3 := Tryz.isAgg3
 z3 := Tryz.sizeOf3
 v3 := Tryz.zeroValue3
 t4 := Tryz.underlying4
 a4 := Tryz.isAgg4
 z4 := Tryz.sizeOf4
 v4 := Tryz.zeroValue4
 t5 := Tryz.underlying5
 a5 := Tryz.isAgg5
 z5 := Tryz.sizeOf5
 v5 := Tryz.zeroValue5
 t9 := Tryz.underlying9
 a9 := Tryz.isAgg9
 z9 := Tryz.sizeOf9
 v9 := Tryz.zeroValue9
 t46 := Tryz.underlying205
 a46 := Tryz.isAgg205
 z46 := Tryz.sizeOf205
 v46 := Tryz.zeroValue205
 t51 := Tryz.underlying223
 a51 := Tryz.isAgg223
 z51 := Tryz.sizeOf223
 v51 := Tryz.zeroValue223
 t146 := Tryz.underlying224
 a146 := Tryz.isAgg224
 z146 := Tryz.sizeOf224
 v146 := Tryz.zeroValue224
 g1 := by kernel_rfl }
def Tryz.lays143_ren : Go.Shelf.Ren := ⟨fun | 143 => 133 | 219 => 134 | 217 => 163 | 225 => 164 | 224 => 165 | 267 => 166 | 266 => 185 | 314 => 186 | n => n, fun | 9 => 9 | 3 => 3 | 4 => 4 | 5 => 5 | 46 => 205 | 146 => 224 | 51 => 223 | n => n, fun | 1 => 13 | n => n⟩
theorem Tryz.lays143 : Go.Proofs.Lays.n143 Tryz.prog Tryz.lays143_ren := {
 mixed := by kernel_rfl
 f143 := Tryz.func133.trans (congrArg some (by kernel_rfl))
 f217 := Tryz.func163.trans (congrArg some (by kernel_rfl))
 f219 := Tryz.func134.trans (congrArg some (by kernel_rfl))
 f224 := Tryz.func165.trans (congrArg some (by kernel_rfl))
 f225 := Tryz.func164.trans (congrArg some (by kernel_rfl))
 f266 := Tryz.func185.trans (congrArg some (by kernel_rfl))
 f267 := Tryz.func166.trans (congrArg some (by kernel_rfl))
 f314 := Tryz.func186.trans (congrArg some (by kernel_rfl))
 t3 := Tryz.underlying3
 a3 := Tryz.isAgg3
 z3 := Tryz.sizeOf3
 v3 := Tryz.zeroValue3
 t4 := Tryz.underlying4
 a4 := Tryz.isAgg4
 z4 := Tryz.sizeOf4
 v4 := Tryz.zeroValue4
 t5 := Tryz.underlying5
 a5 := Tryz.isAgg5
 z5 := Tryz.sizeOf5
 v5 := Tryz.zeroValue5
 t9 := Tryz.underlying9
 a9 := Tryz.isAgg9
 z9 := Tryz.sizeOf9
 v9 := Tryz.zeroValue9
 t46 := Tryz.underlying205
 a46 := Tryz.isAgg205
 z46 := Tryz.sizeOf205
 v46 := Tryz.zeroValue205
 t51 := Tryz.underlying223
 a51 := Tryz.isAgg223
 z51 := Tryz.sizeOf223
 v51 := Tryz.zeroValue223
 t146 := Tryz.underlying224
 a146 := Tryz.isAgg224
 z146 := Tryz.sizeOf224
 v146 := Tryz.zeroValue224
 g1 := by kernel_rfl }
def Tryz.lays138_ren : Go.Shelf.Ren := ⟨fun | 138 => 132 | 195 => 160 | 218 => 162 | 143 => 133 | 219 => 134 | 217 => 163 | 225 => 164 | 224 => 165 | 267 => 166 | 266 => 185 | 314 => 186 | n => n, fun | 9 => 9 | 3 => 3 | 4 => 4 | 5 => 5 | 0 => 0 | 46 => 205 | 146 => 224 | 51 => 223 | n => n, fun | 1 => 13 | n => n⟩
theorem Tryz.lays138 : Go.Proofs.Lays.n138 Tryz.prog Tryz.lays138_ren := {
 mixed := by kernel_rfl
 f138 := Tryz.func132.trans (congrArg some (by kernel_rfl))
 f143 := Tryz.func133.trans (congrArg some (by kernel_rfl))
 f195 := Tryz.func160.trans (congrArg some (by kernel_rfl))
 f217 := Tryz.func163.trans (congrArg some (by kernel_rfl))
 f218 := Tryz.func162.trans (congrArg some (by kernel_rfl))
 f219 := Tryz.func134.trans (congrArg some (by kernel_rfl))
 f224 := Tryz.func165.trans (congrArg some (by kernel_rfl))
 f225 := Tryz.func164.trans (congrArg some (by kernel_rfl))
 f266 := Tryz.func185.trans (congrArg some (by kernel_rfl))
 f267 := Tryz.func166.trans (congrArg some (by kernel_rfl))
 f314 := Tryz.func186.trans (congrArg some (by kernel_rfl))
 t0 := Tryz.underlying0
 a0 := Tryz.isAgg0
 z0 := Tryz.sizeOf0
 v0 := Tryz.zeroValue0
 t3 := Tryz.underlying3
 a3 := Tryz.isAgg3
 z3 := Tryz.sizeOf3
 v3 := Tryz.zeroValue3
 t4 := Tryz.underlying4
 a4 := Tryz.isAgg4
 z4 := Tryz.sizeOf4
 v4 := Tryz.zeroValue4
 t5 := Tryz.underlying5
 a5 := Tryz.isAgg5
 z5 := Tryz.sizeOf5
 v5 := Tryz.zeroValue5
 t9 := Tryz.underlying9
 a9 := Tryz.isAgg9
 z9 := Tryz.sizeOf9
 v9 := Tryz.zeroValue9
 t46 := Tryz.underlying205
 a46 := Tryz.isAgg205
 z46 := Tryz.sizeOf205
 v46 := Tryz.zeroValue205
 t51 := Tryz.underlying223
 a51 := Tryz.isAgg223
 z51 := Tryz.sizeOf223
 v51 := Tryz.zeroValue223
 t146 := Tryz.underlying224
 a146 := Tryz.isAgg224
 z146 := Tryz.sizeOf224
 v146 := Tryz.zeroValue224
 g1 := by kernel_rfl }
def Tryz.lays221_ren : Go.Shelf.Ren := ⟨fun | 221 => 108 | 268 => 131 | 138 => 132 | 143 => 133 | 195 => 160 | 197 => 161 | 218 => 162 | 219 => 134 | 260 => 184 | 217 => 163 | 225 => 164 | 224 => 165 | 267 => 166 | 266 => 185 | 314 => 186 | n => n, fun | 9 => 9 | 3 => 3 | 31 => 34 | 4 => 4 | 0 => 0 | 105 => 207 | 21 => 21 | 5 => 5 | 46 => 205 | 119 => 236 | 139 => 239 | 138 => 238 | 146 => 224 | 51 => 223 | n => n, fun | 1 => 13 | 3 => 17 | 4 => 18 | n => n⟩
theorem Tryz.lays221 : Go.Proofs.Lays.n221 Tryz.prog Tryz.lays221_ren := {
 mixed := by kernel_rfl
 f138 := Tryz.func132.trans (congrArg some (by kernel_rfl))
 f143 := Tryz.func133.trans (congrArg some (by kernel_rfl))
 f195 := Tryz.func160.trans (congrArg some (by kernel_rfl))
 f197 := Tryz.func161.trans (congrArg some (by kernel_rfl))
 f217 := Tryz.func163.trans (congrArg some (by kernel_rfl))
 f218 := Tryz.func162.trans (congrArg some (by kernel_rfl))
 f219 := Tryz.func134.trans (congrArg some (by kernel_rfl))
 f221 := Tryz.func108.trans (congrArg some (by kernel_rfl))
 f224 := Tryz.func165.trans (congrArg some (by kernel_rfl))
 f225 := Tryz.func164.trans (congrArg some (by kernel_rfl))
 f260 := Tryz.func184.trans (congrArg some (by kernel_rfl))
 f266 := Tryz.func185.trans (congrArg some (by kernel_rfl))
 f267 := Tryz.func166.trans (congrArg some (by kernel_rfl))
 f268 := Tryz.func131.trans (congrArg some (by kernel_rfl))
 f314 := Tryz.func186.trans (congrArg some (by kernel_rfl))
 t0 := Tryz.underlying0
 a0 := Tryz.isAgg0
 z0 := Tryz.sizeOf0
 v0 := Tryz.zeroValue0
 t3 := Tryz.underlying3
 a3 := Tryz.isAgg3
 z3 := Tryz.sizeOf3
 v3 := Tryz.zeroValue3
 t4 := Tryz.underlying4
 a4 := Tryz.isAgg4
 z4 := Tryz.sizeOf4
 v4 := Tryz.zeroValue4
 t5 := Tryz.underlying5
 a5 := Tryz.isAgg5
 z5 := Tryz.sizeOf5
 v5 := Tryz.zeroValue5
 t9 := Tryz.underlying9
 a9 := Tryz.isAgg9
 z9 := Tryz.sizeOf9
 v9 := Tryz.zeroValue9
 t21 := Tryz.underlying21
 a21 := Tryz.isAgg21
 z21 := Tryz.sizeOf21
 v21 := Tryz.zeroValue21
 t31 := Tryz.underlying34
 a31 := Tryz.isAgg34
 z31 := Tryz.sizeOf34
 v31 := Tryz.zeroValue34
 t46 := Tryz.underlying205
 a46 := Tryz.isAgg205
 z46 := Tryz.sizeOf205
 v46 := Tryz.zeroValue205
 t51 := Tryz.underlying223
 a51 := Tryz.isAgg223
 z51 := Tryz.sizeOf223
 v51 := Tryz.zeroValue223
 t105 := Tryz.underlying207
 a105 := Tryz.isAgg207
 z105 := Tryz.sizeOf207
 v105 := Tryz.zeroValue207
 t119 := Tryz.underlying236
 a119 := Tryz.isAgg236
 z119 := Tryz.sizeOf236
 t138 := Tryz.underlying238
 a138 := Tryz.isAgg238
 z138 := Tryz.sizeOf238
 v138 := Tryz.zeroValue238
 t139 := Tryz.underlying239
 a139 := Tryz.isAgg239
 z139 := Tryz.sizeOf239
 v139 := Tryz.zeroValue239
 t146 := Tryz.underlying224
 a146 := Tryz.isAgg224
 z146 := Tryz.sizeOf224
 v146 := Tryz.zeroValue224
 g1 := by kernel_rfl
 g3 := by kernel_rfl
 g4 := by kernel_rfl }
end Go.Proofs
namespace Go.Sx
instance (priority := high) natBEq : BEq Nat := ⟨Nat.beq⟩
instance (priority := high) natLawful : LawfulBEq Nat where
 eq_of_beq h := Nat.eq_of_beq_eq_true h
 rfl := Nat.beq_refl _
inductive BT (α : Type) where
 | nil
 | node (l : BT α) (k : Nat) (v : α) (r : BT α)
def BT.get {α : Type} : BT α → Nat → Option α
 | .nil, _ => none
 | .node l k v r, i => bif Nat.blt i k then l.get i else bif Nat.blt k i then r.get i else some v
def BT.All {α : Type} (φ : Nat → α → Prop) : BT α → Prop
 | .nil => True
 | .node l k v r => φ k v ∧ l.All φ ∧ r.All φ
def BT.allB {α : Type} (f : Nat → α → Bool) : BT α → Bool
 | .nil => true
 | .node l k v r => f k v && l.allB f && r.allB f
theorem BT.All.get {α : Type} {φ : Nat → α → Prop} : ∀ {t : BT α} {i : Nat} {v : α}, t.All φ → t.get i = some v → φ i v
 | .nil, _, _, _, h => by cases h
 | .node l k v r, i, v', h, hg => by
  simp only [BT.get] at hg
  cases h1 : Nat.blt i k <;> simp only [h1, cond_true, cond_false] at hg
  ·cases h2 : Nat.blt k i <;> simp only [h2, cond_true, cond_false] at hg
   ·cases hg
    have a1 : ¬ i < k := fun h => by have : Nat.blt i k = true := Nat.ble_eq_true_of_le h; rw [this] at h1; cases h1
    have a2 : ¬ k < i := fun h => by have : Nat.blt k i = true := Nat.ble_eq_true_of_le h; rw [this] at h2; cases h2
    obtain rfl : k = i := by omega
    exact h.1
   ·exact BT.All.get h.2.2 hg
  ·exact BT.All.get h.2.1 hg
theorem BT.allB_all {α : Type} {f : Nat → α → Bool} : ∀ {t : BT α}, t.allB f = true → t.All fun k v => f k v = true
 | .nil, _ => trivial
 | .node l k v r, h => by
  simp only [BT.allB, Bool.and_eq_true] at h
  exact ⟨h.1.1, BT.allB_all h.1.2, BT.allB_all h.2⟩
inductive Sh where
 | i (k : IntKind) (n : Int)
 | b (x : Bool)
 | str (l : List UInt8)
 | v (x : Value)
 | sl (st n : Nat) (get : Nat → List Sh)
 | os (e st n : Nat) (get : Nat → List Sh)
 | agg (l : List Sh)
 | tup (l : List Sh)
 | ifc (t : Nat) (x : Sh)
 | fn (f : Nat) (caps : List Sh)
 | er (g T : Nat)
 | pt (l : List Sh)
 deriving Inhabited
inductive SV where
 | any
 | val (v : Value)
 | int (k : IntKind) (n : Int)
 | sym (k : IntKind) (n : Int)
 | bool (b : Bool)
 | test (b : Bool)
 | str (l : List UInt8)
 | ptr (id off : Nat)
 | gs (id : Nat)
 | gp (id st i off : Nat)
 | nilp | nils | nilf | nili | nilm
 | fn (f : Nat) (cap : List SV)
 | agg (l : List SV)
 | tup (l : List SV)
 | ifc (t : Nat) (x : SV)
 | mp (id : Nat)
 | sh (s : Sh)
 | shp (st n : Nat) (get : Nat → List Sh) (i off : Nat)
 | glob (g : Nat)
 | ev (id : Nat)
 | vw (id n : Nat)
 deriving Inhabited
inductive SB where
 | box (cells : List SV) (elem : Nat)
 | row (cells : List SV) (elem st n : Nat)
 | own (elem st n : Nat) (get : Nat → List Sh)
 | fz (st n : Nat) (get : Nat → List Sh)
 | map (es : List (SV × SV))
 | fzb (l : List Sh)
 | ownx (elem st n : Nat) (get : Nat → List Sh) (more : List SV)
 | fm (k : IntKind) (M : Int → Option Value) (fs us : List (Int × Bool × SV)) (tag : Option (Nat × Int))
 | buf (e : Nat) (l : List UInt8)
inductive Ty where
 | int (k : IntKind) | bool | str | ptr (e : Nat) | fn | iface
 | map (k e : Nat)
 | slice (e : Nat)
 | struct (fs : List (Nat × Nat × Bool))
 | arr (n e : Nat)
 | other
structure TyI where
 ty : Ty
 size : Nat
 bytes : Nat
 zero : List SV
structure Prim where
 add : IntKind → Int → Int → Int
 sub : IntKind → Int → Int → Int
 mul : IntKind → Int → Int → Int
 neg : IntKind → Int → Int
 lt : Int → Int → Bool
 le : Int → Int → Bool
 eq : Int → Int → Bool
 max : Int → Int → Int
 min : Int → Int → Int
 inB : Int → Nat → Bool
 upTo : Int → Nat → Bool
 toN : Int → Nat
 ofN : Nat → Int
 addN : Nat → Nat → Nat
 subN : Nat → Nat → Nat
 leN : Nat → Nat → Bool
 room : Nat → Nat → Bool
 len : List UInt8 → Nat
 nt : Bool → Bool
 ite : Bool → Bool → Bool → Bool
 beq : Bool → Bool → Bool
 seq : List UInt8 → List UInt8 → Bool
 app : List UInt8 → List UInt8 → List UInt8
 snoc : (Nat → List Sh) → Nat → (Nat → List Sh) → Nat → List Sh
 upd : (Nat → List Sh) → Nat → Nat → List Sh → Nat → List Sh
 bin : BinOp → IntKind → Int → Int → Int
 conv : IntKind → Int → Int
 ins : (Nat → List Sh) → Nat → List Sh → Nat → List Sh
inductive Eqn where
 | int (a b : Int)
 | nat (a b : Nat)
 | bool (a b : Bool)
 | str (a b : List UInt8)
 | val (a b : Value)
 | sh (a b : Sh)
 | get (n : Nat) (g g' : Nat → List Sh)
 | fun_ (g g' : Nat → List Sh)
 | mp (M M' : Int → Option Value)
def Eqn.ok : Eqn → Prop
 | .int a b => a = b
 | .nat a b => a = b
 | .bool a b => a = b
 | .str a b => a = b
 | .val a b => a = b
 | .sh a b => a = b
 | .get n g g' => ∀ i, i < n → g i = g' i
 | .fun_ g g' => g = g'
 | .mp M M' => M = M'
def Eqn.all : List Eqn → Prop
 | [] => True
 | e :: l => e.ok ∧ Eqn.all l
inductive Tree (α : Type) where
 | leaf (a : α)
 | node (b : Bool) (t f : Tree α)
 | need (b : Bool) (t : Tree α)
 | must (l : List Eqn) (t : Tree α)
 | both (t f : Tree α)
 | fail
def Tree.bind {α β : Type} : Tree α → (α → Tree β) → Tree β
 | .leaf a, k => k a
 | .node b t f, k => .node b (t.bind k) (f.bind k)
 | .need b t, k => .need b (t.bind k)
 | .must l t, k => .must l (t.bind k)
 | .both t f, k => .both (t.bind k) (f.bind k)
 | .fail, _ => .fail
def Tree.All {α : Type} (φ : α → Prop) : Tree α → Prop
 | .leaf a => φ a
 | .node b t f => (b = true → t.All φ) ∧ (b = false → f.All φ)
 | .need b t => b = true ∧ t.All φ
 | .must l t => Eqn.all l ∧ t.All φ
 | .both t f => t.All φ ∧ f.All φ
 | .fail => False
def Tree.lone {α : Type} : Tree α → Bool
 | .both _ _ => false
 | .node _ t f => t.lone && f.lone
 | .need _ t => t.lone
 | .must _ t => t.lone
 | _ => true
structure Ctx where
 A : Prim
 tys : BT TyI
 fns : BT Func
 spec : Nat → Option (List Sh → Tree Sh)
 eqs : List Nat
 ers : List Nat
 stopLoop : Nat → List Nat → Bool
 gls : List (Nat × Sh)
 live : BT Nat
 fmaps : Nat → Option (IntKind × List Int) := fun _ => none
 lits : Bool := false
 ins : Nat → Option Nat := fun _ => none
 lend : Nat → Bool := fun _ => false
 grow : Nat → Option Nat := fun _ => none
def look? {α : Type} : List (Nat × α) → Nat → Option α
 | [], _ => none
 |(j, x) :: l, i => bif j == i then some x else look? l i
def hset {α : Type} : List (Nat × α) → Nat → α → List (Nat × α)
 | [], _, _ => []
 |(j, x) :: l, i, y => bif j == i then (j, y) :: l else (j, x) :: hset l i y
def hdel {α : Type} : List (Nat × α) → Nat → List (Nat × α)
 | [], _ => []
 |(j, x) :: l, i => bif j == i then hdel l i else (j, x) :: hdel l i
def hins {α : Type} : List (Nat × α) → Nat → α → List (Nat × α)
 | [], i, y => [(i, y)]
 |(j, x) :: l, i, y => bif Nat.blt j i then (j, x) :: hins l i y else (i, y) :: (j, x) :: l
structure Core where
 tm : List SV
 hp : List (Nat × SB)
 nx : Nat
 lim : Nat
 tc : List Nat
def SV.ofValue : Value → SV
 | .int k n => .int k n
 | .bool b => .bool b
 | .pointer none => .nilp
 | .slice none 0 0 => .nils
 | .nilFunc => .nilf
 | .nilIface => .nili
 | .map none => .nilm
 | .string s => .str s.data.toList
 | _ => .any
def SV.lit : Value → SV
 | .int k n => .int k n
 | .nilIface => .nili
 | .bool b => .bool b
 | x => .val x
mutual
def argSV : Sh → SV
 | .agg l => .agg (argL l)
 | .tup l => .tup (argL l)
 | .fn f l => .fn f (argL l)
 | .i k n => .sym k n
 | .b x => .test x
 | .v x => SV.lit x
 | .pt l => .shp l.length 1 (fun _ => l) 0 0
 | s => .sh s
def argL : List Sh → List SV
 | [] => []
 | x :: r => argSV x :: argL r
end
def Sh.toSV : Sh → SV
 | .fn f l => .fn f (argL l)
 | .i k n => .sym k n
 | .b x => .test x
 | .v x => SV.lit x
 | .pt l => .shp l.length 1 (fun _ => l) 0 0
 | s => .sh s
def evL (tm : List SV) : Operand → SV
 | .tmp t => tm.getD t .any
 | .const v => .ofValue v
 | .global g => .glob g
 | .func f => .fn f []
def SV.cells : SV → List SV
 | .agg l => l
 | x => [x]
def setAt (l : List SV) (off : Nat) : List SV → List SV
 | [] => l
 | x :: r => setAt (l.set off x) (off + 1) r
def Ty.isAgg : Ty → Bool
 | .struct _ => true
 | .arr _ _ => true
 | _ => false
def pack (agg : Bool) (l : List SV) : Option SV :=
 bif agg then some (.agg l) else match l with
  | [x] => some x
  | _ => none
def seg (l : List SV) (off n : Nat) : Option (List SV) :=
 bif Nat.ble (off + n) l.length then some ((l.drop off).take n) else none
def SV.okc : SV → Bool
 | .any => false
 | .ev _ => false
 | .sh (.agg _) => false
 | _ => true
def fillP (place : Nat → Option (Nat × Nat)) (ev : Operand → SV) : List SV → List (Nat × Operand) → Option (List SV)
 | z, [] => some z
 | z, (i, x) :: r => match place i with
  | some (off, size) => bif (ev x).okc && (ev x).cells.length == size && Nat.ble (off + size) z.length then fillP place ev (setAt z off (ev x).cells) r else none
  | none => none
def rep (l : List SV) : Nat → List SV
 | 0 => []
 | n + 1 => l ++ rep l n
def chunks (st : Nat) : Nat → List Sh → List (List Sh)
 | 0, _ => []
 | n + 1, l => l.take st :: chunks st n (l.drop st)
def nthL (ll : List (List Sh)) (i : Nat) : List Sh := ll.getD i []
def SV.one : SV → Bool
 | .any | .agg _ | .tup _ | .ev _ => false
 | .sh (.agg _) | .sh (.tup _) => false
 | _ => true
def oneL : List SV → Bool
 | [] => true
 | x :: r => x.one && oneL r
mutual
def toSh (hp : List (Nat × SB)) : SV → Option Sh
 | .int k n => some (.i k n)
 | .sym k n => some (.i k n)
 | .bool x => some (.b x)
 | .test x => some (.b x)
 | .str l => some (.str l)
 | .val v => some (.v v)
 | .nilp => some (.v (.pointer none))
 | .nilf => some (.v .nilFunc)
 | .nili => some (.v .nilIface)
 | .nils => some (.sl 0 0 fun _ => [])
 | .sh s => some s
 | .agg l => (toShL hp l).map .agg
 | .tup l => (toShL hp l).map .tup
 | .fn f l => (toShL hp l).map (.fn f)
 | .ifc t x => (toSh hp x).map (.ifc t)
 | .gs id => match look? hp id with
  | some (.fz st m g) => some (.sl st m g)
  | _ => none
 | .ptr id off => match look? hp id with
  | some (.fzb l) => bif off == 0 then some (.pt l) else none
  | _ => none
 | .shp st _ g i off => bif off == 0 && (g i).length == st then some (.pt (g i)) else none
 | _ => none
def toShL (hp : List (Nat × SB)) : List SV → Option (List Sh)
 | [] => some []
 | x :: r => match toSh hp x, toShL hp r with
  | some s, some l => some (s :: l)
  | _, _ => none
end
mutual
def idsOf : SV → List Nat
 | .gs id => [id]
 | .ptr id _ => [id]
 | .agg l => idsOfL l
 | .tup l => idsOfL l
 | .fn _ l => idsOfL l
 | .ifc _ x => idsOf x
 | _ => []
def idsOfL : List SV → List Nat
 | [] => []
 | x :: r => idsOf x ++ idsOfL r
end
def freezeN : Nat → List (Nat × SB) → List Nat → Option (List (Nat × SB))
 | _, hp, [] => some hp
 | 0, _, _ => none
 | m + 1, hp, id :: r => match look? hp id with
  | some (.fz _ _ _) => freezeN m hp r
  | some (.fzb _) => freezeN m hp r
  | some (.own _ st n g) => freezeN m (hset hp id (.fz st n g)) r
  | some (.row cells _ st n) => match toShL hp cells with
   | some l => bif oneL cells then freezeN m (hset hp id (.fz st n (nthL (chunks st n l)))) r else none
   | none => freezeN m hp (idsOfL cells ++ id :: r)
  | some (.box cells _) => match toShL hp cells with
   | some l => bif oneL cells then freezeN m (hset hp id (.fzb l)) r else none
   | none => freezeN m hp (idsOfL cells ++ id :: r)
  | _ => none
def freeze (hp : List (Nat × SB)) (ids : List Nat) : Option (List (Nat × SB)) := freezeN 40 hp ids
mutual
def ofSh : Sh → Nat → SV × List (Nat × SB) × Nat
 | .os e st n g, b => (.gs b, [(b, .own e st n g)], b + 1)
 | .agg l, b => let r := ofShL l b; (.agg r.1, r.2)
 | .tup l, b => let r := ofShL l b; (.tup r.1, r.2)
 | .i k n, b => (.sym k n, [], b)
 | .b x, b => (.test x, [], b)
 | .v x, b => (SV.lit x, [], b)
 | .fn f l, b => (.fn f (argL l), [], b)
 | .pt l, b => (.shp l.length 1 (fun _ => l) 0 0, [], b)
 | s, b => (.sh s, [], b)
def ofShL : List Sh → Nat → List SV × List (Nat × SB) × Nat
 | [], b => ([], [], b)
 | x :: r, b => let p := ofSh x b; let q := ofShL r p.2.2; (p.1 :: q.1, p.2.1 ++ q.2.1, q.2.2)
end
def insAll (hp : List (Nat × SB)) : List (Nat × SB) → List (Nat × SB)
 | [] => hp
 |(i, b) :: r => insAll (hins hp i b) r
def arithP (A : Prim) (op : BinOp) (k : IntKind) (x y : Int) : Option Int :=
 match op with
 | .add => some (A.add k x y)
 | .sub => some (A.sub k x y)
 | .mul => some (A.mul k x y)
 | _ => none
def arithL (op : BinOp) (k : IntKind) (x y : Int) : Option Int :=
 match op with
 | .add => some (k.wrap (x + y))
 | .sub => some (k.wrap (x - y))
 | .mul => some (k.wrap (x * y))
 | _ => none
def cmpP (A : Prim) (op : BinOp) (x y : Int) : Option Bool :=
 match op with
 | .eql => some (A.eq x y) | .neq => some (A.nt (A.eq x y)) | .lss => some (A.lt x y) | .leq => some (A.le x y) | .gtr => some (A.lt y x) | .geq => some (A.le y x)
 | _ => none
def cmpL (op : BinOp) (x y : Int) : Option Bool :=
 match op with
 | .eql => some (x == y) | .neq => some (x != y) | .lss => some (decide (x < y)) | .leq => some (decide (x ≤ y)) | .gtr => some (decide (y < x)) | .geq => some (decide (y ≤ x))
 | _ => none
def Ctx.ty (C : Ctx) (t : Nat) : Option TyI := C.tys.get t
def orO {α : Type} : Option α → Option α → Option α
 | some a, _ => some a
 | none, b => b
def isNilOp (op : BinOp) (nil : Bool) : Option SV :=
 match op with
 | .eql => some (.bool nil)
 | .neq => some (.bool !nil)
 | _ => none
def eqB (A : Prim) (op : BinOp) (x y : Bool) : Option SV :=
 match op with
 | .eql => some (.test (A.beq x y))
 | .neq => some (.test (A.nt (A.beq x y)))
 | _ => none
def eqS (A : Prim) (op : BinOp) (x y : List UInt8) : Option SV :=
 match op with
 | .eql => some (.test (A.seq x y))
 | .neq => some (.test (A.nt (A.seq x y)))
 | _ => none
def intsOf : List SV → Option (List Int)
 | [] => some []
 | .int .i64 n :: r => (intsOf r).map fun l => n :: l
 | .sym .i64 n :: r => (intsOf r).map fun l => n :: l
 | _ => none
def eqInts (A : Prim) : List Int → List Int → Bool
 | x :: xs, y :: ys => A.ite (A.eq x y) (eqInts A xs ys) false
 | _, _ => true
def nilEq (op : BinOp) : SV → SV → Option SV
 | .fn _ _, .nilf => isNilOp op false
 | .nilf, .nilf => isNilOp op true
 | .ptr _ _, .nilp => isNilOp op false
 | .shp _ _ _ _ _, .nilp => isNilOp op false
 | .val (.pointer (some _)), .nilp => isNilOp op false
 | .nilp, .nilp => isNilOp op true
 | .ifc _ _, .nili => isNilOp op false
 | .sh (.ifc _ _), .nili => isNilOp op false
 | .sh (.er _ _), .nili => isNilOp op false
 | .nili, .nili => isNilOp op true
 | .sh (.er g T), .sh (.er g' T') => bif g == g' && T == T' then isNilOp op true else none
 | .nili, .sh (.er _ _) => isNilOp op false
 | _, _ => none
def tyFits : Ty → SV → Bool
 | .fn, .fn _ _ => true
 | .fn, .nilf => true
 | .ptr _, .ptr _ _ => true
 | .ptr _, .shp _ _ _ _ _ => true
 | .ptr _, .val (.pointer (some _)) => true
 | .ptr _, .nilp => true
 | .iface, .ifc _ _ => true
 | .iface, .sh (.ifc _ _) => true
 | .iface, .sh (.er _ _) => true
 | .iface, .nili => true
 | _, _ => false
def isConst : Operand → Bool
 | .const _ => true
 | _ => false
def boolS (A : Prim) (op : BinOp) (x y : SV) : Option SV :=
 match x, y with
 | .bool a, .bool b => match op with | .eql => some (.bool (a == b)) | .neq => some (.bool (a != b)) | _ => none
 | .bool a, .test b => eqB A op a b
 | .test a, .bool b => eqB A op a b
 | .test a, .test b => eqB A op a b
 | _, _ => none
def isNili : SV → Bool
 | .nili => true
 | _ => false
def erTy (ers : List Nat) : SV → Bool
 | .sh (.er _ T) => ers.contains T
 | _ => true
def nilS (ers : List Nat) (op : BinOp) (ty : Ty) (lit : Bool) (x y : SV) : Option SV :=
 bif erTy ers x && tyFits ty x && tyFits ty y && (lit || !(isNili x && isNili y)) then nilEq op x y else none
def binS (C : Ctx) (op : BinOp) (t : Nat) (lit : Bool) (x y : SV) : Option SV :=
 let A := C.A
 match x, y with
 | .int k a, .int l b => bif k == l then orO ((arithL op k a b).map (.int k)) ((cmpL op a b).map .bool) else none
 | .int k a, .sym l b => bif k == l then orO ((arithP A op k a b).map (.sym k)) ((cmpP A op a b).map .test) else none
 | .sym k a, .int l b => bif k == l then orO ((arithP A op k a b).map (.sym k)) ((cmpP A op a b).map .test) else none
 | .sym k a, .sym l b => bif k == l then orO ((arithP A op k a b).map (.sym k)) ((cmpP A op a b).map .test) else none
 | .str a, .str b => match op with | .eql => some (.bool (a == b)) | .neq => some (.bool (a != b)) | _ => none
 | .str a, .sh (.str b) => eqS A op a b
 | .sh (.str a), .str b => eqS A op a b
 | .sh (.str a), .sh (.str b) => eqS A op a b
 | .agg a, .agg b => match intsOf a, intsOf b, C.ty t with
  | some a, some b, some i => bif C.eqs.contains t && a.length == i.size && b.length == i.size then match op with
   | .eql => some (.test (eqInts A a b))
   | .neq => some (.test (A.nt (eqInts A a b)))
   | _ => none
   else none
  | _, _, _ => none
 | x, y => match C.ty t with
  | none => none
  | some i => match i.ty with
   | .bool => boolS A op x y
   | ty => nilS C.ers op ty lit x y
def lenN (hp : List (Nat × SB)) : SV → Option Nat
 | .gs id => match look? hp id with
  | some (.row _ _ _ n) => some n
  | some (.own _ _ n _) => some n
  | some (.fz _ n _) => some n
  | _ => none
 | .sh (.sl _ n _) => some n
 | _ => none
def nilSlice : Operand → Bool
 | .const (.slice none 0 0) => true
 | _ => false
def sliceNil (C : Ctx) (c : Core) (op : BinOp) (t : Nat) (y : Operand) (x : SV) : Option (Tree (SV × Core)) :=
 match C.ty t with
 | some i => match i.ty with
  | .slice _ => bif nilSlice y then
    match isNilOp op true, isNilOp op false with
    | some a, some b => match x with
     | .nils => some (.leaf (a, c))
     | x => match lenN c.hp x with
      | some n => some (.node (C.A.leN n 0) (.both (.leaf (a, c)) (.leaf (b, c))) (.leaf (b, c)))
      | none => none
    | _, _ => none
   else none
  | _ => none
 | none => none
def textOf : SV → Option (List UInt8)
 | .str l => some l
 | .sh (.str l) => some l
 | _ => none
def binL (op : BinOp) (k : IntKind) (a b : Int) : Int :=
 match op with
 | .and => k.wrap (BitVec.ofInt k.bits a &&& BitVec.ofInt k.bits b).toNat
 | .or => k.wrap (BitVec.ofInt k.bits a ||| BitVec.ofInt k.bits b).toNat
 | .xor => k.wrap (BitVec.ofInt k.bits a ^^^ BitVec.ofInt k.bits b).toNat
 | .andNot => k.wrap (BitVec.ofInt k.bits a &&& ~~~ BitVec.ofInt k.bits b).toNat
 | .shl => k.wrap (a * 2 ^ (min b.toNat k.bits))
 | .shr => a.fdiv (2 ^ (min b.toNat k.bits))
 | .quo => k.wrap (a.tdiv b)
 | .rem => a.tmod b
 | _ => 0
def numOf : SV → Option (IntKind × Int × Bool)
 | .int k n => some (k, n, true)
 | .sym k n => some (k, n, false)
 | _ => none
def binR (A : Prim) (op : BinOp) (k : IntKind) (a b : Int) (la lb : Bool) (c : Core) : Tree (SV × Core) :=
 .leaf (bif la && lb then .int k (binL op k a b) else .sym k (A.bin op k a b), c)
def bitS (C : Ctx) (c : Core) (op : BinOp) (x y : SV) : Option (Tree (SV × Core)) :=
 match op, numOf x, numOf y with
 | .shl, some (k, a, la), some (_, b, lb) => some (bif lb then bif decide (0 ≤ b) then binR C.A .shl k a b la lb c else .fail else .need (C.A.le 0 b) (binR C.A .shl k a b la lb c))
 | .shr, some (k, a, la), some (_, b, lb) => some (bif lb then bif decide (0 ≤ b) then binR C.A .shr k a b la lb c else .fail else .need (C.A.le 0 b) (binR C.A .shr k a b la lb c))
 | .quo, some (k, a, la), some (l, b, lb) => bif k == l then some (bif lb then bif b == 0 then .fail else binR C.A .quo k a b la lb c else .need (C.A.nt (C.A.eq b 0)) (binR C.A .quo k a b la lb c)) else none
 | .rem, some (k, a, la), some (l, b, lb) => bif k == l then some (bif lb then bif b == 0 then .fail else binR C.A .rem k a b la lb c else .need (C.A.nt (C.A.eq b 0)) (binR C.A .rem k a b la lb c)) else none
 | .and, some (k, a, la), some (l, b, lb) => bif k == l then some (binR C.A .and k a b la lb c) else none
 | .or, some (k, a, la), some (l, b, lb) => bif k == l then some (binR C.A .or k a b la lb c) else none
 | .xor, some (k, a, la), some (l, b, lb) => bif k == l then some (binR C.A .xor k a b la lb c) else none
 | .andNot, some (k, a, la), some (l, b, lb) => bif k == l then some (binR C.A .andNot k a b la lb c) else none
 | _, _, _ => none
def strAdd (C : Ctx) (c : Core) (op : BinOp) (x y : SV) : Option (Tree (SV × Core)) :=
 match op with
 | .add => match textOf x, textOf y with
  | some a, some b => some (.need (C.A.leN (C.A.addN (C.A.len a) (C.A.len b)) 9223372036854775807) (.leaf (.sh (.str (C.A.app a b)), c)))
  | _, _ => none
 | _ => none
def execBin (C : Ctx) (c : Core) (op : BinOp) (t : Nat) (x y : Operand) (lit : Bool) : Tree (SV × Core) :=
 match bitS C c op (evL c.tm x) (evL c.tm y) with
 | some r => r
 | none => match strAdd C c op (evL c.tm x) (evL c.tm y) with
 | some r => r
 | none => match sliceNil C c op t y (evL c.tm x) with
 | some r => r
 | none => match binS C op t lit (evL c.tm x) (evL c.tm y) with
  | some v => .leaf (v, c)
  | none => .fail
def notS (A : Prim) : SV → Option SV
 | .bool b => some (.bool !b)
 | .test b => some (.test (A.nt b))
 | _ => none
def negS (A : Prim) : SV → Option SV
 | .int k n => some (.int k (k.wrap (0 - n)))
 | .sym k n => some (.sym k (A.neg k n))
 | _ => none
def boolOf : SV → Option Bool
 | .bool x => some x
 | .test x => some x
 | _ => none
def pickS (A : Prim) (c a b : SV) : Option SV :=
 match c with
 | .bool true => some a
 | .bool false => some b
 | .test c => match boolOf a, boolOf b with
  | some x, some y => some (.test (A.ite c x y))
  | _, _ => none
 | _ => none
def lenS (A : Prim) (hp : List (Nat × SB)) : SV → Option SV
 | .gs id => match look? hp id with
  | some (.row _ _ _ n) => some (.int .i64 n)
  | some (.own _ _ n _) => some (.sym .i64 (A.ofN n))
  | some (.ownx _ st n _ more) => some (.sym .i64 (A.ofN (A.addN n (Nat.div more.length st))))
  | some (.fz _ n _) => some (.sym .i64 (A.ofN n))
  | some (.buf _ l) => some (.sym .i64 (A.ofN (A.len l)))
  | _ => none
 | .vw _ n => some (.sym .i64 (A.ofN n))
 | .sh (.sl _ n _) => some (.sym .i64 (A.ofN n))
 | .nils => some (.int .i64 0)
 | .str l => some (.int .i64 l.length)
 | .sh (.str l) => some (.sym .i64 (A.ofN (A.len l)))
 | _ => none
def intOf? : SV → Option Int
 | .int _ n => some n
 | .sym _ n => some n
 | _ => none
def ret (c : Core) (v : SV) : Tree (SV × Core) := .leaf (v, c)
def alloc (c : Core) (b : SB) (v : SV) : Tree (SV × Core) :=
 bif Nat.blt c.nx c.lim then ret { c with hp := hins c.hp c.nx b, nx := c.nx + 1 } v else .fail
def retO (c : Core) : Option SV → Tree (SV × Core)
 | some v => .leaf (v, c)
 | none => .fail
def execAlloc (C : Ctx) (c : Core) (e : Nat) : Tree (SV × Core) :=
 match C.ty e with
 | some i => alloc c (.box i.zero e) (.ptr c.nx 0)
 | none => .fail
def execBuild (C : Ctx) (c : Core) (t : Nat) (parts : List (Nat × Operand)) : Tree (SV × Core) :=
 match C.ty t with
 | some i => match i.ty with
  | .struct fs => match fillP (fun j => fs[j]?.map fun f => (f.1, f.2.1)) (evL c.tm) i.zero parts with
   | some l => ret c (.agg l)
   | none => .fail
  | _ => .fail
 | none => .fail
def execBuildSlice (C : Ctx) (c : Core) (t n : Nat) (parts : List (Nat × Operand)) : Tree (SV × Core) :=
 match C.ty t with
 | some i => match i.ty with
  | .slice e => match C.ty e with
   | some j => bif Nat.ble (n * j.size) 16777216 && Nat.blt 0 j.size then
     match fillP (fun k => some (k * j.size, j.size)) (evL c.tm) (rep j.zero n) parts with
     | some l => alloc c (.row l e j.size n) (.gs c.nx)
     | none => .fail
    else .fail
   | none => .fail
  | _ => .fail
 | none => .fail
def loadS (C : Ctx) (c : Core) (agg : Bool) (size : Nat) : SV → Option SV
 | .ptr id off => match look? c.hp id with
  | some (.box cs _) => (seg cs off size).bind (pack agg)
  | some (.row cs _ _ _) => (seg cs off size).bind (pack agg)
  | some (.fzb l) => (seg (l.map Sh.toSV) off size).bind (pack agg)
  | _ => none
 | .gp id st i off => match look? c.hp id with
  | some (.own _ st' _ g) => bif st == st' then (seg ((g i).map Sh.toSV) off size).bind (pack agg) else none
  | some (.fz st' _ g) => bif st == st' then (seg ((g i).map Sh.toSV) off size).bind (pack agg) else none
  | _ => none
 | .shp _ _ g i off => (seg ((g i).map Sh.toSV) off size).bind (pack agg)
 | .glob g => bif agg then none else (look? C.gls g).bind fun s => match s with
  | .tup _ => none
  | s => some s.toSV
 | _ => none
def execLoad (C : Ctx) (c : Core) (t : Nat) (x : SV) : Tree (SV × Core) :=
 match C.ty t with
 | some i => retO c (loadS C c i.ty.isAgg i.size x)
 | none => .fail
def execStore (C : Ctx) (c : Core) (t : Nat) (x v : SV) : Tree (SV × Core) :=
 match C.ty t with
 | some i => bif v.cells.length == i.size && oneL v.cells then
   match x with
   | .ptr id off => match look? c.hp id with
    | some (.box cs e) => bif Nat.ble (off + i.size) cs.length then ret { c with hp := hset c.hp id (.box (setAt cs off v.cells) e), tc := id :: c.tc } .any else .fail
    | some (.row cs e st n) => bif Nat.ble (off + i.size) cs.length then ret { c with hp := hset c.hp id (.row (setAt cs off v.cells) e st n), tc := id :: c.tc } .any else .fail
    | _ => .fail
   | .gp id st j off => match look? c.hp id with
    | some (.own e st' n g) => bif st == st' && Nat.ble (off + i.size) st then match toShL c.hp v.cells with
      | some l => ret { c with hp := hset c.hp id (.own e st n (C.A.upd g j off l)), tc := id :: c.tc } .any
      | none => .fail
     else .fail
    | _ => .fail
   | _ => .fail
  else .fail
 | none => .fail
def execNil (c : Core) : SV → Tree (SV × Core)
 | .ptr i o => ret c (.ptr i o)
 | .gp i st j o => ret c (.gp i st j o)
 | .shp st n g i o => ret c (.shp st n g i o)
 | .fn f l => ret c (.fn f l)
 | _ => .fail
def execFieldAddr (C : Ctx) (c : Core) (t f : Nat) (x : SV) : Tree (SV × Core) :=
 match C.ty t with
 | some i => match i.ty with
  | .struct fs => match fs[f]? with
   | some (off, size, _) => bif Nat.blt 0 size then match x with
    | .ptr id o => ret c (.ptr id (o + off))
    | .gp id st j o => ret c (.gp id st j (o + off))
    | .shp st n g j o => ret c (.shp st n g j (o + off))
    | _ => .fail
    else .fail
   | none => .fail
  | _ => .fail
 | none => .fail
def execField (C : Ctx) (c : Core) (t f : Nat) (x : SV) : Tree (SV × Core) :=
 match C.ty t with
 | some i => match i.ty, x with
  | .struct fs, .agg l => match fs[f]? with
   | some (off, size, agg) => retO c ((seg l off size).bind (pack agg))
   | none => .fail
  | _, _ => .fail
 | none => .fail
def caseN (A : Prim) (n : Int) (f : Nat → Tree (SV × Core)) (m : Nat) : Nat → Tree (SV × Core)
 | 0 => .fail
 | k + 1 => .node (A.eq n (Int.ofNat (m - (k + 1)))) (f (m - (k + 1))) (caseN A n f m k)
def idxS (A : Prim) (n : Int) : SV → Nat
 | .int _ k => k.toNat
 | _ => A.toN n
def execIndexAddr (C : Ctx) (c : Core) (t : Nat) (x i : SV) : Tree (SV × Core) :=
 match C.ty t with
 | some ti => match ti.ty with
  | .slice e => match C.ty e with
   | some te => match x, intOf? i with
    | .gs id, some n => match look? c.hp id with
     | some (.row _ _ st m) => match i with
      | .int _ n => bif decide (0 ≤ n) && decide (n < m) && st == te.size then ret c (.ptr id (n.toNat * st)) else .fail
      | _ => .fail
     | some (.own _ st m _) => bif st == te.size then .need (C.A.inB n m) (ret c (.gp id st (idxS C.A n i) 0)) else .fail
     | some (.fz st m g) => bif st == te.size then .need (C.A.inB n m) (ret c (.shp st m g (idxS C.A n i) 0)) else .fail
     | _ => .fail
    | .sh (.sl st m g), some n => bif st == te.size then .need (C.A.inB n m) (ret c (.shp st m g (idxS C.A n i) 0)) else .fail
    | _, _ => .fail
   | none => .fail
  | .arr m e => match C.ty e with
   | some te => match x, i with
    | .glob g, .int _ n => match look? C.gls g with
     | some (.tup l) => bif decide (0 ≤ n) && decide (n < m) && l.length == m * te.size then ret c (.shp te.size m (nthL (chunks te.size m l)) n.toNat 0) else .fail
     | _ => .fail
    | .glob g, .sym _ n => match look? C.gls g with
     | some (.tup l) => bif l.length == m * te.size then .need (C.A.inB n m) (caseN C.A n (fun j => ret c (.shp te.size m (nthL (chunks te.size m l)) j 0)) m m) else .fail
     | _ => .fail
    | _, _ => .fail
   | none => .fail
  | _ => .fail
 | none => .fail
def execExtract (c : Core) (x : SV) (i : Nat) : Tree (SV × Core) :=
 match x with
 | .tup l => retO c l[i]?
 | _ => .fail
def natOf (A : Prim) : SV → Option Nat
 | .int _ k => some k.toNat
 | .sym _ n => some (A.toN n)
 | _ => none
def viewOf (hp : List (Nat × SB)) (st : Nat) : SV → Option (Nat × Nat)
 | .gs id => match look? hp id with
  | some (.own _ st' n _) => bif st == st' then some (id, n) else none
  | _ => none
 | _ => none
def execSlice (C : Ctx) (c : Core) (t : Nat) (x : SV) (lo hi : Option SV) : Tree (SV × Core) :=
 match C.ty t with
 | some ti => match ti.ty with
  | .slice e => match C.ty e with
   | some te =>
    match viewOf c.hp te.size x, lo, hi with
    | some (id, n), none, some h => match intOf? h, natOf C.A h with
     | some hi, some h => .need (C.A.upTo hi n) (ret c (.vw id h))
     | _, _ => .fail
    | _, _, _ =>
    match (match x with | .gs id => freeze c.hp [id] | _ => some c.hp) with
    | none => .fail
    | some hp => match toSh hp x with
     | some (.sl st n g) => bif st == te.size then
       match lo, hi with
       | none, none => ret { c with hp } (.sh (.sl st n g))
       | none, some h => match intOf? h, natOf C.A h with
        | some hi, some h => .need (C.A.upTo hi n) (ret { c with hp } (.sh (.sl st h g)))
        | _, _ => .fail
       | some l, none => match intOf? l, natOf C.A l with
        | some li, some l => .need (C.A.upTo li n) (ret { c with hp } (.sh (.sl st (C.A.subN n l) fun j => g (C.A.addN l j))))
        | _, _ => .fail
       | some l, some h => match intOf? l, natOf C.A l, intOf? h, natOf C.A h with
        | some li, some l, some hi, some h => .need (C.A.upTo hi n) (.need (C.A.upTo li h) (ret { c with hp } (.sh (.sl st (C.A.subN h l) fun j => g (C.A.addN l j)))))
        | _, _, _, _ => .fail
      else .fail
     | _ => .fail
   | none => .fail
  | _ => .fail
 | none => .fail
def isZero : SV → Bool
 | .int _ n => n == 0
 | _ => false
def made0 (k : SV) (e st : Nat) : SB :=
 match k with
 | .int _ _ => .row [] e st 0
 | _ => .own e st 0 fun _ => []
def execMakeSlice (C : Ctx) (c : Core) (t : Nat) (l k : SV) (same : Bool) : Tree (SV × Core) :=
 match C.ty t with
 | some ti => match ti.ty with
  | .slice e => match C.ty e with
   | some te => match intOf? k, natOf C.A k with
    | some ki, some kn =>
     bif isZero l then .need (C.A.le 0 ki) (.need (C.A.room kn te.bytes) (alloc c (made0 k e te.size) (.gs c.nx)))
     else bif same && oneL te.zero && Nat.blt 0 te.size then match toShL [] te.zero with
      | some z => .need (C.A.le 0 ki) (.need (C.A.room kn te.bytes) (alloc c (.own e te.size kn fun _ => z) (.gs c.nx)))
      | none => .fail
     else .fail
    | _, _ => .fail
   | none => .fail
  | _ => .fail
 | none => .fail
def xOf (hp : List (Nat × SB)) (e st : Nat) : SV → Option (Nat × (Nat → List Sh) × List SV)
 | .gs id => match look? hp id with
  | some (.own e' st' n g) => bif e == e' && st == st' then some (n, g, []) else none
  | some (.ownx e' st' n g more) => bif e == e' && st == st' then some (n, g, more) else none
  | _ => none
 | _ => none
def rowOf (hp : List (Nat × SB)) (st : Nat) : SV → Option (List SV × Nat)
 | .nils => some ([], 0)
 | .gs id => match look? hp id with
  | some (.row cells _ st' n) => bif st == st' then some (cells, n) else none
  | _ => none
 | _ => none
def elsOf (hp : List (Nat × SB)) (st : Nat) : SV → Option (Nat × (Nat → List Sh))
 | .nils => some (0, fun _ => [])
 | .gs id => match look? hp id with
  | some (.row cells _ st' n) => bif st == st' && oneL cells then (toShL hp cells).map fun l => (n, nthL (chunks st n l)) else none
  | some (.own _ st' n g) => bif st == st' then some (n, g) else none
  | some (.fz st' n g) => bif st == st' then some (n, g) else none
  | _ => none
 | .sh (.sl st' n g) => bif st == st' then some (n, g) else bif st' == 0 && n == 0 then some (0, fun _ => []) else none
 | .vw id n => match look? hp id with
  | some (.own _ st' _ g) => bif st == st' then some (n, g) else none
  | _ => none
 | _ => none
def ownId : SV → Option Nat
 | .gs id => some id
 | _ => none
def isOwn (hp : List (Nat × SB)) (e : Nat) : SV → Bool
 | .nils => true
 | .gs id => match look? hp id with
  | some (.row _ e' _ _) => e == e'
  | some (.own e' _ _ _) => e == e'
  | some (.ownx e' _ _ _ _) => e == e'
  | some (.buf e' _) => e == e'
  | _ => false
 | _ => false
def sameId (x y : SV) : Bool :=
 match ownId x, ownId y with
 | some i, some j => i == j
 | _, _ => false
def dropOwn (c : Core) (s : SV) : Core :=
 match ownId s with
 | some id => { c with hp := hdel c.hp id, tc := id :: c.tc }
 | none => c
def byteL : List SV → Option (List UInt8)
 | [] => some []
 | .int .u8 n :: r => bif decide (0 ≤ n) && decide (n < 256) then (byteL r).map fun l => UInt8.ofNat n.toNat :: l else none
 | _ => none
def bufOf (hp : List (Nat × SB)) (e : Nat) : SV → Option (List UInt8)
 | .nils => some []
 | .gs id => match look? hp id with
  | some (.buf e' l) => bif e == e' then some l else none
  | some (.row cells e' st n) => bif e == e' && st == 1 && n == cells.length then byteL cells else none
  | _ => none
 | _ => none
def byteTy (C : Ctx) (e : Nat) : Bool :=
 match C.ty e with
 | some te => match te.ty, te.zero with
  | .int .u8, [.int .u8 n] => te.size == 1 && te.bytes == 1 && n == 0
  | _, _ => false
 | none => false
def execAppendS (C : Ctx) (c : Core) (t u : Nat) (s x : SV) : Tree (SV × Core) :=
 match C.ty t, C.ty u with
 | some ti, some ui => match ti.ty, ui.ty with
  | .slice e, .str => match bufOf c.hp e s, textOf x with
   | some l, some m => bif byteTy C e && isOwn c.hp e s then
     .need (C.A.room (C.A.addN (C.A.len l) (C.A.len m)) 1) (alloc (dropOwn c s) (.buf e (C.A.app l m)) (.gs c.nx))
    else .fail
   | _, _ => .fail
  | _, _ => .fail
 | _, _ => .fail
def execAppendB (C : Ctx) (c : Core) (t : Nat) (s x : SV) : Option (Tree (SV × Core)) :=
 match s with
 | .gs id => match look? c.hp id with
  | some (.buf e l) => match C.ty t, bufOf c.hp e x with
   | some ti, some m => match ti.ty with
    | .slice e' => bif e == e' && byteTy C e && !sameId s x then
      some (.need (C.A.room (C.A.addN (C.A.len l) (C.A.len m)) 1) (alloc (dropOwn c s) (.buf e (C.A.app l m)) (.gs c.nx)))
     else none
    | _ => none
   | _, _ => none
  | _ => none
 | _ => none
def execConv (C : Ctx) (c : Core) (t u : Nat) (x : SV) : Tree (SV × Core) :=
 match C.ty t, C.ty u with
 | some ti, some ui => match ti.ty, ui.ty with
  | .int _, .int k => match x with
   | .int _ n => ret c (.int k (k.wrap n))
   | .sym _ n => ret c (.sym k (C.A.conv k n))
   | _ => .fail
  | .str, .slice e => match textOf x with
   | some l => bif byteTy C e then .need (C.A.room (C.A.len l) 1) (alloc c (.buf e l) (.gs c.nx)) else .fail
   | none => .fail
  | .slice e, .str => match bufOf c.hp e x with
   | some l => bif byteTy C e then ret c (.sh (.str l)) else .fail
   | none => .fail
  | _, _ => .fail
 | _, _ => .fail
def execAppend (C : Ctx) (c : Core) (t : Nat) (s x : SV) : Tree (SV × Core) :=
 match C.ty t with
 | some ti => match ti.ty with
  | .slice e => match C.ty e with
   | some te =>
    bif isOwn c.hp e s && !sameId s x && Nat.blt 0 te.size then
     match rowOf c.hp te.size s, rowOf c.hp te.size x with
     | some (a, n), some (b, m) =>
      bif oneL b && Nat.ble ((n + m) * te.bytes) 140737488355328 && Nat.ble (n + m) 1073741824 then alloc (dropOwn c s) (.row (a ++ b) e te.size (n + m)) (.gs c.nx) else .fail
     | _, _ => match elsOf c.hp te.size s, elsOf c.hp te.size x with
      | some (n, g), some (m, h) => .need (C.A.room (C.A.addN n m) te.bytes) (alloc (dropOwn c s) (.own e te.size (C.A.addN n m) (C.A.snoc g n h)) (.gs c.nx))
      | _, _ => match xOf c.hp e te.size s, rowOf c.hp te.size x with
       | some (n, g, more), some (b, _) => bif oneL b then .need (C.A.room (C.A.addN n (Nat.div (more ++ b).length te.size)) te.bytes) (alloc (dropOwn c s) (.ownx e te.size n g (more ++ b)) (.gs c.nx)) else .fail
       | _, _ => .fail
    else .fail
   | none => .fail
  | _ => .fail
 | none => .fail
def kindInt : SV → Option (IntKind × Int × Bool)
 | .int k n => some (k, n, true)
 | .sym k n => some (k, n, false)
 | _ => none
def findLit (kk : IntKind) (k : Int) : List (SV × SV) → Option (Option SV)
 | [] => some none
 |(.int j m, v) :: r => bif j == kk then bif m == k then some (some v) else findLit kk k r else none
 | _ => none
def findSym (A : Prim) (kk : IntKind) (k : Int) (z : SV) (f : SV → Bool → Tree (SV × Core)) : List (SV × SV) → Tree (SV × Core)
 | [] => f z false
 |(.int j m, v) :: r => bif j == kk then .node (A.eq k m) (f v true) (findSym A kk k z f r) else .fail
 | _ => .fail
def setLit (k : IntKind) (n : Int) (v : SV) : List (SV × SV) → Option (List (SV × SV))
 | [] => some [(.int k n, v)]
 |(.int j m, u) :: r => bif j == k then bif m == n then some ((.int k n, v) :: r) else (setLit k n v r).map fun r => (.int j m, u) :: r else none
 | _ => none
def noFacts (l : List Int) : List (Int × Bool × SV) := l.map fun n => (n, false, .any)
def execMakeMap (C : Ctx) (c : Core) (t : Nat) : Tree (SV × Core) :=
 match C.fmaps t with
 | some (k, l) => alloc c (.fm k (fun _ => none) (noFacts l) [] none) (.mp c.nx)
 | none => alloc c (.map []) (.mp c.nx)
def findF (A : Prim) (k : Int) (f : Bool → SV → Tree (SV × Core)) : List (Int × Bool × SV) → Tree (SV × Core)
 | [] => .fail
 | [(j, p, v)] => .need (A.eq k j) (f p v)
 |(j, p, v) :: r => .node (A.eq k j) (f p v) (findF A k f r)
def lookOut (c : Core) (ok : Bool) (v : SV) (b : Bool) : Tree (SV × Core) := ret c (bif ok then .tup [v, .bool b] else v)
def execLookup (C : Ctx) (c : Core) (t : Nat) (m k : SV) (ok : Bool) : Tree (SV × Core) :=
 match C.ty t with
 | some ti => match ti.ty with
  | .map kt e => match C.ty kt, C.ty e with
   | some kti, some te => match kti.ty, pack te.ty.isAgg te.zero with
    | .int kk, some z =>
     match m with
     | .nilm => match kindInt k with
      | some (j, _, _) => bif j == kk then lookOut c ok z false else .fail
      | none => .fail
     | .mp id => match look? c.hp id with
      | some (.map es) => match k with
       | .int j n => bif j == kk then match findLit kk n es with
        | some (some v) => lookOut c ok v true
        | some none => lookOut c ok z false
        | none => .fail
        else .fail
       | .sym j n => bif j == kk then findSym C.A kk n z (lookOut c ok) es else .fail
       | _ => .fail
      | some (.fm fk _ fs us _) => match kindInt k with
       | some (j, n, _) => bif j == kk && fk == kk then findF C.A n (fun p v => bif p then lookOut c ok v true else lookOut c ok z false) (us ++ fs) else .fail
       | none => .fail
      | _ => .fail
     | _ => .fail
    | _, _ => .fail
   | _, _ => .fail
  | _ => .fail
 | none => .fail
def execMapSet (C : Ctx) (c : Core) (t : Nat) (m k v : SV) : Tree (SV × Core) :=
 match C.ty t with
 | some ti => match ti.ty with
  | .map kt _ => match C.ty kt with
   | some kti => match kti.ty, m, k with
    | .int kk, .mp id, .int k n => match look? c.hp id with
     | some (.map es) => bif kk == k then match setLit k n v es with
      | some es => ret { c with hp := hset c.hp id (.map es), tc := id :: c.tc } .any
      | none => .fail
      else .fail
     | _ => .fail
    | _, _, _ => .fail
   | none => .fail
  | _ => .fail
 | none => .fail
def execMapEntry (C : Ctx) (c : Core) (t : Nat) (m k : SV) : Tree (SV × Core) :=
 match C.ty t with
 | some ti => match ti.ty with
  | .map kt e => match C.ty kt, C.ty e with
   | some kti, some te => match kti.ty, pack te.ty.isAgg te.zero, m, kindInt k with
    | .int kk, some z, .mp id, some (j, n, _) => match look? c.hp id with
     | some (.fm fk M fs us _) => bif j == kk && fk == kk && z.one && Nat.blt c.nx c.lim then
       findF C.A n (fun p v => ret { c with hp := hset c.hp id (.fm fk M fs ((n, true, bif p then v else z) :: us) (some (c.nx, n))), nx := c.nx + 1, tc := id :: c.tc } (.tup [bif p then v else z, .ev c.nx])) (us ++ fs)
      else .fail
     | _ => .fail
    | _, _, _, _ => .fail
   | _, _ => .fail
  | _ => .fail
 | none => .fail
def execEntryStore (c : Core) (m s v : SV) : Tree (SV × Core) :=
 match m, s with
 | .mp id, .ev s => match look? c.hp id with
  | some (.fm fk M fs us (some (s', n))) => bif s == s' && v.one then ret { c with hp := hset c.hp id (.fm fk M fs ((n, true, v) :: us) (some (s', n))), tc := id :: c.tc } .any else .fail
  | _ => .fail
 | _, _ => .fail
def execDelete (C : Ctx) (c : Core) (t : Nat) (m k : SV) : Tree (SV × Core) :=
 match C.ty t with
 | some ti => match ti.ty with
  | .map kt _ => match C.ty kt with
   | some kti => match kti.ty, m, kindInt k with
    | .int kk, .mp id, some (j, n, _) => match look? c.hp id with
     | some (.fm fk M fs us _) => bif j == kk && fk == kk then ret { c with hp := hset c.hp id (.fm fk M fs ((n, false, .any) :: us) none), tc := id :: c.tc } .any else .fail
     | _ => .fail
    | _, _, _ => .fail
   | none => .fail
  | _ => .fail
 | none => .fail
def spread (c : Core) (F : List Sh → Tree Sh) (args : List SV) : Tree (SV × Core) :=
 match freeze c.hp (idsOfL args) with
 | none => .fail
 | some hp => match toShL hp args with
  | none => .fail
  | some shs => (F shs).bind fun r => bif Nat.ble (ofSh r c.nx).2.2 c.lim then ret { c with hp := insAll hp (ofSh r c.nx).2.1, nx := (ofSh r c.nx).2.2 } (ofSh r c.nx).1 else .fail
mutual
def plainSh : Sh → Bool
 | .i _ _ => true
 | .b _ => true
 | .str _ => true
 | .v _ => true
 | .agg l => plainShL l
 | .tup l => plainShL l
 | _ => false
def plainShL : List Sh → Bool
 | [] => true
 | x :: r => plainSh x && plainShL r
end
def spreadL (c : Core) (F : List Sh → Tree Sh) (args : List SV) : Tree (SV × Core) :=
 match freeze c.hp (idsOfL args) with
 | none => .fail
 | some hp => match toShL hp args with
  | none => .fail
  | some shs => (F shs).bind fun r => bif plainSh r then ret c (ofSh r c.nx).1 else .fail
def maxS (A : Prim) (mx : Bool) (x y : SV) : Option SV :=
 match kindInt x, kindInt y with
 | some (k, a, la), some (l, b, lb) => bif k == l then
   some (bif la && lb then .int k (bif mx then (bif decide (a < b) then b else a) else (bif decide (b < a) then b else a)) else .sym k (bif mx then A.max a b else A.min a b))
  else none
 | _, _ => none
def lenFits : Ty → SV → Bool
 | .str, .str _ => true
 | .str, .sh (.str _) => true
 | .slice _, .gs _ => true
 | .slice _, .sh (.sl _ _ _) => true
 | .slice _, .nils => true
 | .slice _, .vw _ _ => true
 | _, _ => false
def i64Of : SV → Option Int
 | .int .i64 n => some n
 | .sym .i64 n => some n
 | _ => none
def execIns (C : Ctx) (c : Core) (e : Nat) : List SV → Tree (SV × Core)
 | [s, i, .gs id'] => match C.ty e with
  | some te => match elsOf c.hp te.size s, look? c.hp id' with
   | some (n, g), some (.row cells e2 st2 m) =>
    bif isOwn c.hp e s && e == e2 && st2 == te.size && m == 1 && !sameId s (.gs id') && Nat.blt 0 te.size && oneL cells then
     match toShL c.hp cells, i64Of i, natOf C.A i with
     | some l, some iv, some k => .need (C.A.upTo iv n) (.need (C.A.room (C.A.addN n 1) te.bytes) (alloc (dropOwn c s) (.own e te.size (C.A.addN n 1) (C.A.ins g k l)) (.gs c.nx)))
     | _, _, _ => .fail
    else .fail
   | _, _ => .fail
  | none => .fail
 | _ => .fail
def execGrow (C : Ctx) (c : Core) (e : Nat) : List SV → Tree (SV × Core)
 | [.nils, i] => match C.ty e, i64Of i, natOf C.A i with
  | some te, some iv, some k => .need (C.A.le 0 iv) (.need (C.A.room k te.bytes) (alloc c (.own e te.size 0 fun _ => []) (.gs c.nx)))
  | _, _, _ => .fail
 | _ => .fail
def execCall (C : Ctx) (call : Nat → List SV → Core → Tree (SV × Core)) (c : Core) (k : Call) : Tree (SV × Core) :=
 let ev := evL c.tm
 match k.callee with
 | .builtin b => match b, k.args.toList, k.argTypes.toList with
  | .len, [x], [t] => match C.ty t with
   | some i => bif lenFits i.ty (ev x) then retO c (lenS C.A c.hp (ev x)) else .fail
   | none => .fail
  | .delete, [m, k], t :: _ => execDelete C c t (ev m) (ev k)
  | .append, [s, x], [t, u] => bif t == u then match execAppendB C c t (ev s) (ev x) with
    | some r => r
    | none => execAppend C c t (ev s) (ev x)
   else execAppendS C c t u (ev s) (ev x)
  | .max, [x, y], _ => retO c (maxS C.A true (ev x) (ev y))
  | .min, [x, y], _ => retO c (maxS C.A false (ev x) (ev y))
  | _, _, _ => .fail
 | .value f => match ev f with
  | .fn g cs =>
   let args := k.args.toList.map ev ++ cs
   match C.ins g with
   | some e => execIns C c e args
   | none => match C.grow g with
   | some e => execGrow C c e args
   | none => match C.spec g with
   | some F => bif C.lend g then spreadL c F args else spread c F args
   | none => call g args c
  | _ => .fail
 | _ => .fail
def exec0 (C : Ctx) (call : Nat → List SV → Core → Tree (SV × Core)) (c : Core) (o : Oper) : Tree (SV × Core) :=
 let ev := evL c.tm
 match o.op with
 | .move x => ret c (ev x)
 | .assign x => ret c (ev x)
 | .pick x a b => retO c (pickS C.A (ev x) (ev a) (ev b))
 | .alloc e => execAlloc C c e
 | .box e x => bif (ev x).okc then alloc c (.box (ev x).cells e) (.ptr c.nx 0) else .fail
 | .build t parts => execBuild C c t parts.toList
 | .buildSlice t n parts => execBuildSlice C c t n parts.toList
 | .load t x => execLoad C c t (ev x)
 | .store t x v => execStore C c t (ev x) (ev v)
 | .nilCheck x => execNil c (ev x)
 | .binOp op t x y _ => execBin C c op t x y (isConst x || isConst y)
 | .unOp .not _ x => retO c (notS C.A (ev x))
 | .unOp .neg _ x => retO c (negS C.A (ev x))
 | .fieldAddr t x f => execFieldAddr C c t f (ev x)
 | .field t x f => execField C c t f (ev x)
 | .indexAddr t x i => execIndexAddr C c t (ev x) (ev i)
 | .extract x i => execExtract c (ev x) i
 | .makeFunc (.func f) fs cs => bif fs.size == 0 then ret c (.fn f (cs.toList.map ev)) else .fail
 | .makeInterface t x => match C.ty t with
  | some i => match i.ty with
   | .iface => .fail
   | .other => .fail
   | _ => ret c (.ifc t (ev x))
  | none => .fail
 | .makeMap t none => execMakeMap C c t
 | .makeSlice t l k => execMakeSlice C c t (ev l) (ev k) (match l, k with | .tmp i, .tmp j => i == j | _, _ => false)
 | .slice t x lo hi none => execSlice C c t (ev x) (lo.map ev) (hi.map ev)
 | .lookup t m k ok => execLookup C c t (ev m) (ev k) ok
 | .insert t m k v => execMapSet C c t (ev m) (ev k) (ev v)
 | .mapUpdate t m k v => execMapSet C c t (ev m) (ev k) (ev v)
 | .mapEntry t m k => execMapEntry C c t (ev m) (ev k)
 | .entryStore _ m s v => execEntryStore c (ev m) (ev s) (ev v)
 | .call k => execCall C call c k
 | .convert t u x => execConv C c t u (ev x)
 | _ => .fail
mutual
def SV.hard : SV → SV
 | .sym k n => .int k n
 | .test b => .bool b
 | .agg l => .agg (hardL l)
 | .tup l => .tup (hardL l)
 | x => x
def hardL : List SV → List SV
 | [] => []
 | x :: r => x.hard :: hardL r
end
def exec (C : Ctx) (call : Nat → List SV → Core → Tree (SV × Core)) (c : Core) (o : Oper) : Tree (SV × Core) :=
 bif C.lits then (exec0 C call c o).bind fun p => .leaf (p.1.hard, p.2) else exec0 C call c o
mutual
def refs : SV → List Nat
 | .gs id => [id]
 | .ptr id _ => [id]
 | .gp id _ _ _ => [id]
 | .mp id => [id]
 | .agg l => refsL l
 | .tup l => refsL l
 | .fn _ l => refsL l
 | .ifc _ x => refs x
 | _ => []
def refsL : List SV → List Nat
 | [] => []
 | x :: r => refs x ++ refsL r
end
def refsM : List (SV × SV) → List Nat
 | [] => []
 |(a, b) :: r => refs a ++ refs b ++ refsM r
def refsF : List (Int × Bool × SV) → List Nat
 | [] => []
 |(_, _, b) :: r => refs b ++ refsF r
def refsB : SB → List Nat
 | .box l _ => refsL l
 | .row l _ _ _ => refsL l
 | .map es => refsM es
 | .ownx _ _ _ _ l => refsL l
 | .fm _ _ fs us _ => refsF fs ++ refsF us
 | _ => []
def reach (hp : List (Nat × SB)) : Nat → List Nat → List Nat → List Nat
 | 0, _, seen => seen
 | _, [], seen => seen
 | n + 1, i :: r, seen => bif seen.contains i then reach hp n r seen else match look? hp i with
  | some b => reach hp n (refsB b ++ r) (i :: seen)
  | none => reach hp n r (i :: seen)
def touchedRefs (hp : List (Nat × SB)) : List Nat → List Nat
 | [] => []
 | i :: r => match look? hp i with
  | some b => refsB b ++ touchedRefs hp r
  | none => touchedRefs hp r
def dropKey (p : Nat → Bool) : List (Nat × SB) → List (Nat × SB)
 | [] => []
 |(i, b) :: r => bif p i then dropKey p r else (i, b) :: dropKey p r
def gc (nx lim : Nat) (v : SV) (c : Core) : List (Nat × SB) :=
 let live := reach c.hp 4000 (refs v ++ touchedRefs c.hp c.tc) []
 dropKey (fun i => Nat.ble nx i && Nat.blt i lim && !live.contains i) c.hp
def putS (tm : List SV) (dst : Option Nat) (v : SV) : List SV :=
 match dst with
 | some d => tm.set d v
 | none => tm
def Core.put (c : Core) (dst : Option Nat) (v : SV) : Core := { c with tm := putS c.tm dst v }
def opAt (l : List Oper) (i : Nat) : Option Oper := l[i]?
inductive Want where
 | yes | no | ask (slot : Nat) (b want : Bool) | lost
def wantOf (ops : List Oper) (tm : List SV) (o : Oper) : Want :=
 match o.guard with
 | none => .yes
 | some (j, b) => match (opAt ops j).bind (·.dst) with
  | some d => match tm.getD d .any with
   | .bool c => bif c == b then .yes else .no
   | .test c => .ask d c b
   | .tup _ => .no
   | _ => .lost
  | none => .lost
def skV (ops : List Oper) (i : Nat) : SV :=
 bif ops.any (fun o => match o.guard with | some (j, _) => Nat.beq j i | none => false) then .tup [] else .any
def doOp (C : Ctx) (call : Nat → List SV → Core → Tree (SV × Core)) (c : Core) (o : Oper) : Tree Core :=
 (exec C call c o).bind fun p => .leaf (p.2.put o.dst p.1)
def opStep (C : Ctx) (call : Nat → List SV → Core → Tree (SV × Core)) (ops : List Oper) (c : Core) (i : Nat) : Tree Core :=
 match opAt ops i with
 | none => .leaf c
 | some o => match wantOf ops c.tm o with
  | .yes => doOp C call c o
  | .no => .leaf (c.put o.dst (skV ops i))
  | .ask d t b => .node t
    (let c' := c.put (some d) (.bool true); bif b then doOp C call c' o else .leaf (c'.put o.dst (skV ops i)))
    (let c' := c.put (some d) (.bool false); bif b then .leaf (c'.put o.dst (skV ops i)) else doOp C call c' o)
  | .lost => .fail
/-! A region that draws its order. -/
def quietKind : Op → Bool
 | .move _ | .assign _ | .pick .. | .load .. | .nilCheck _ | .binOp .. | .unOp .. | .fieldAddr .. | .field .. | .indexAddr .. | .extract .. | .makeFunc .. | .makeInterface .. | .build .. | .lookup .. => true
 | .call { callee := .builtin .len, .. } | .call { callee := .builtin .max, .. } | .call { callee := .builtin .min, .. } => true
 | _ => false
def lockHp (hp : List (Nat × SB)) (unl : List Nat) : List (Nat × SB) :=
 match hp with
 | [] => []
 |(j, x) :: l => bif unl.contains j then lockHp l unl else (j, x) :: lockHp l unl
def isEr : SV → Bool
 | .sh (.er _ _) => true
 | _ => false
def pureOp (tm : List SV) : Op → Bool
 | .load .. | .lookup .. => false
 | .binOp _ _ x y _ => !(isEr (evL tm x) && isEr (evL tm y))
 | o => quietKind o
def edgesOf (o : Oper) : List Nat := (o.after.toList.filter (Region.binds .any)).map (·.on)
def readyGo (all : List Bool) : List Oper → Nat → List Bool → List Nat
 | o :: r, i, b :: l => bif !b && (edgesOf o).all (fun j => all.getD j false) then i :: readyGo all r (i + 1) l else readyGo all r (i + 1) l
 | _, _, _ => []
def readyF (ops : Array Oper) (listed : Array Bool) : List Nat := readyGo listed.toList ops.toList 0 listed.toList
def freeGo (ops : Array Oper) (oi : Oper) (i : Nat) : List Oper → Nat → List Bool → Bool
 | o :: r, j, b :: l => (Nat.beq j i || b || (edgesOf o).contains i || oi.apart ops o) && freeGo ops oi i r (j + 1) l
 | _, _, _ => true
def freeF (ops : Array Oper) (listed : Array Bool) (i : Nat) : Bool :=
 match opAt ops.toList i with
 | none => false
 | some oi => freeGo ops oi i ops.toList 0 listed.toList
theorem natBEq_eq (a b : Nat) : @BEq.beq Nat natBEq a b = @BEq.beq Nat instBEqOfDecidableEq a b := by
 by_cases h : a = b
 ·subst h
  rw [@beq_self_eq_true Nat natBEq, @beq_self_eq_true Nat instBEqOfDecidableEq]
 ·have h1 : @BEq.beq Nat natBEq a b = false := by
   cases hb : @BEq.beq Nat natBEq a b with
   | false => rfl
   | true => exact (h (@eq_of_beq Nat natBEq natLawful a b hb)).elim
  have h2 : @BEq.beq Nat instBEqOfDecidableEq a b = false := decide_eq_false h
  rw [h1, h2]
theorem all_congr2 {l : List Nat} {p q : Nat → Bool} (h : ∀ j, j ∈ l → p j = q j) : l.all p = l.all q := by
 induction l with
 | nil => rfl
 | cons x r ih => rw [List.all_cons, List.all_cons, h x (List.mem_cons_self ..), ih fun j hj => h j (List.mem_cons_of_mem _ hj)]
theorem readyGo_eq (all : List Bool) : ∀ (ops : List Oper) (k : Nat) (l : List Bool), (∀ i, l.getD i true = all.getD (k + i) true) →
  readyGo all ops k l = (List.range' k ops.length).filter fun i => !all.getD i true && ((ops[i - k]?).map (·.after.all fun e => !Region.binds .any e || all.getD e.on false)).getD false
 | [], k, l, _ => by cases l <;> rfl
 | o :: r, k, [], h => by
  have h2 : ∀ i, all.getD (k + i) true = true := fun i => by rw [← h i]; simp
  simp only [readyGo]
  symm
  rw [List.filter_eq_nil_iff]
  intro i hi
  have := List.mem_range'_1.1 hi
  have e := h2 (i - k)
  rw [show k + (i - k) = i by omega] at e
  simp only [List.getD_eq_getElem?_getD] at e
  simp [e]
 | o :: r, k, b :: l, h => by
  have h0 := h 0
  simp only [List.getD_cons_zero, Nat.add_zero] at h0
  have ih := readyGo_eq all r (k + 1) l (fun i => by have := h (i + 1); simp only [List.getD_cons_succ] at this; rw [this]; congr 1; omega)
  have he : (edgesOf o).all (fun j => all.getD j false) = o.after.all fun e => !Region.binds .any e || all.getD e.on false := by
   rw [← Array.all_toList]
   unfold edgesOf
   generalize o.after.toList = es
   induction es with
   | nil => rfl
   | cons e es ih =>
    simp only [List.filter_cons, List.all_cons]
    cases Region.binds .any e
    ·simp
    ·simp only [if_true, List.map_cons, List.all_cons, Bool.not_true, Bool.false_or]
     rw [ih]
  have ht : (List.range' (k + 1) r.length).filter (fun i => !all.getD i true && ((r[i - (k + 1)]?).map (·.after.all fun e => !Region.binds .any e || all.getD e.on false)).getD false) =
    (List.range' (k + 1) r.length).filter (fun i => !all.getD i true && (((o :: r)[i - k]?).map (·.after.all fun e => !Region.binds .any e || all.getD e.on false)).getD false) := by
   refine List.filter_congr fun i hi => ?_
   have := List.mem_range'_1.1 hi
   rw [show i - k = (i - (k + 1)) + 1 by omega, List.getElem?_cons_succ]
  simp only [readyGo, List.length_cons, List.range'_succ, List.filter_cons, ih, ht, he, h0, Nat.sub_self, List.getElem?_cons_zero, Option.map_some, Option.getD_some]
  cases (!all.getD k true && o.after.all fun e => !Region.binds .any e || all.getD e.on false) <;> rfl
theorem arr_getD {listed : Array Bool} (i : Nat) (d : Bool) : listed.getD i d = listed.toList.getD i d := by
 rw [Array.getD_eq_getD_getElem?, List.getD_eq_getElem?_getD, Array.getElem?_toList]
theorem readyF_eq (ops : Array Oper) (listed : Array Bool) : readyF ops listed = Region.ready .any ops listed := by
 unfold readyF Region.ready
 rw [readyGo_eq listed.toList ops.toList 0 listed.toList (fun i => by rw [Nat.zero_add]), Array.length_toList, List.range_eq_range']
 refine List.filter_congr fun i _ => ?_
 simp only [arr_getD, Nat.sub_zero, Array.getElem?_toList]
theorem freeGo_eq (ops : Array Oper) (oi : Oper) (i : Nat) (all : List Bool) : ∀ (r : List Oper) (k : Nat) (l : List Bool), (∀ j, l.getD j true = all.getD (k + j) true) →
  freeGo ops oi i r k l = (List.range' k r.length).all fun j => j == i || all.getD j true || match r[j - k]? with
   | some oj => oj.after.any (fun e => Region.binds .any e && e.on == i) || oi.apart ops oj
   | none => true
 | [], k, l, _ => by cases l <;> rfl
 | o :: r, k, [], h => by
  have h2 : ∀ i, all.getD (k + i) true = true := fun i => by rw [← h i]; simp
  simp only [freeGo]
  symm
  rw [List.all_eq_true]
  intro j hj
  have := List.mem_range'_1.1 hj
  have e := h2 (j - k)
  rw [show k + (j - k) = j by omega] at e
  simp only [List.getD_eq_getElem?_getD] at e
  simp [e]
 | o :: r, k, b :: l, h => by
  have h0 := h 0
  simp only [List.getD_cons_zero, Nat.add_zero] at h0
  have ih := freeGo_eq ops oi i all r (k + 1) l (fun i => by have := h (i + 1); simp only [List.getD_cons_succ] at this; rw [this]; congr 1; omega)
  have he : (edgesOf o).contains i = o.after.any fun e => Region.binds .any e && e.on == i := by
   rw [← Array.any_toList]
   unfold edgesOf
   generalize o.after.toList = es
   induction es with
   | nil => rfl
   | cons e es ih =>
    simp only [List.filter_cons, List.any_cons]
    cases Region.binds .any e
    ·simpa using ih
    ·simp only [if_true, List.map_cons, List.contains_cons, Bool.true_and]
     rw [ih]
     congr 1
     cases h1 : (e.on == i) <;> cases h2 : (i == e.on) <;> simp_all
  have ht : (List.range' (k + 1) r.length).all (fun j => j == i || all.getD j true || match r[j - (k + 1)]? with
     | some oj => oj.after.any (fun e => Region.binds .any e && e.on == i) || oi.apart ops oj
     | none => true) =
    (List.range' (k + 1) r.length).all (fun j => j == i || all.getD j true || match (o :: r)[j - k]? with
     | some oj => oj.after.any (fun e => Region.binds .any e && e.on == i) || oi.apart ops oj
     | none => true) := by
   refine all_congr2 fun j hj => ?_
   have := List.mem_range'_1.1 hj
   rw [show j - k = (j - (k + 1)) + 1 by omega, List.getElem?_cons_succ]
  have hb : Nat.beq k i = (k == i) := rfl
  simp only [freeGo, List.length_cons, List.range'_succ, List.all_cons]
  rw [ih, ht, he, h0, hb]
  simp only [Nat.sub_self, List.getElem?_cons_zero, Bool.or_assoc]
theorem freeF_eq (ops : Array Oper) (listed : Array Bool) (i : Nat) : freeF ops listed i = Region.free .any ops listed i := by
 have hop : opAt ops.toList i = ops[i]? := by simp [opAt]
 unfold freeF Region.free
 rw [hop]
 cases ops[i]? with
 | none => rfl
 | some oi =>
  simp only
  rw [freeGo_eq ops oi i listed.toList ops.toList 0 listed.toList (fun i => by rw [Nat.zero_add]), Array.length_toList, List.range_eq_range']
  refine all_congr2 fun j _ => ?_
  simp only [arr_getD, Nat.sub_zero, Array.getElem?_toList]
  simp only [natBEq_eq]
  rfl
inductive Quiet where
 | take (i : Nat) (needs : List Bool) (v v0 : SV)
 | ask (slot : Nat) (b : Bool)
 | no
def noCall : Nat → List SV → Core → Tree (SV × Core) := fun _ _ _ => .fail
def nonAny : Option (List Bool × SV) → Option (List Bool × SV)
 | some (_, .any) => none
 | r => r
def quietLeaf : Tree (SV × Core) → List Bool → Option (List Bool × SV)
 | .leaf p, bs => some (bs, p.1)
 | .need b t, bs => quietLeaf t (b :: bs)
 | _, _ => none
def quiet1 (C : Ctx) (opsA : Array Oper) (lock : List (Nat × SB)) (listed : Array Bool) (tm0 : List SV) (c : Core) (i : Nat) : Quiet :=
 match opAt opsA.toList i with
 | none => .no
 | some o => match wantOf opsA.toList c.tm o with
  | .ask d t _ => .ask d t
  | .no => bif freeF opsA listed i then .take i [] (skV opsA.toList i) (skV opsA.toList i) else .no
  | .yes => bif quietKind o.op && freeF opsA listed i then
    match nonAny (quietLeaf (exec C noCall { c with tm := tm0, hp := lock } o) []) with
    | some (bs, v) => .take i bs v v
    | none => bif pureOp c.tm o.op then match quietLeaf (exec C noCall c o) [] with
     | some (bs, v) => .take i bs v .any
     | none => .no
     else .no
   else .no
  | .lost => .no
def firstQ (C : Ctx) (opsA : Array Oper) (lock : List (Nat × SB)) (listed : Array Bool) (tm0 : List SV) (c : Core) : List Nat → Quiet
 | [] => .no
 | i :: r => match quiet1 C opsA lock listed tm0 c i with
  | .no => firstQ C opsA lock listed tm0 c r
  | q => q
def needs {α : Type} (t : Tree α) : List Bool → Tree α
 | [] => t
 | b :: r => .need b (needs t r)
def allOf {α : Type} (f : Nat → Tree α) : List Nat → Tree α
 | [] => .fail
 | [i] => f i
 | i :: r => .both (f i) (allOf f r)
def disjoint (l : List Nat) (hp : List (Nat × SB)) : Bool := l.all fun i => (look? hp i).isNone
def idStep (c : Core) (n : Nat) : Nat := Nat.min 1048576 ((c.lim - c.nx) / (n + 1))
def explore (C : Ctx) (call : Nat → List SV → Core → Tree (SV × Core)) (base step : Nat) (opsA : Array Oper) (lock : List (Nat × SB)) :
  Nat → Array Bool → List SV → Core → Tree Core
 | 0, _, _, _ => .fail
 | n + 1, listed, tm0, c =>
  match readyF opsA listed with
  | [] => .leaf c
  | rs => match firstQ C opsA lock listed tm0 c rs with
   | .take i bs v v0 => let d := (opAt opsA.toList i).bind (·.dst)
    needs (explore C call base step opsA lock n (listed.setIfInBounds i true) (putS tm0 d v0) (c.put d v)) bs
   | .ask d t => .node t (explore C call base step opsA lock n listed (tm0.set d (.bool true)) (c.put (some d) (.bool true))) (explore C call base step opsA lock n listed (tm0.set d (.bool false)) (c.put (some d) (.bool false)))
   | .no => allOf (fun i => (opStep C call opsA.toList { c with tc := [], nx := base + step * i, lim := base + step * (i + 1) } i).bind fun c' =>
     bif disjoint c'.tc lock then explore C call base step opsA lock n (listed.setIfInBounds i true) (putS tm0 ((opAt opsA.toList i).bind (·.dst)) .any) { c' with tc := c'.tc ++ c.tc, nx := c.nx, lim := c.lim } else .fail) rs
def app2 (a b : Option (List Eqn)) : Option (List Eqn) :=
 match a, b with
 | some x, some y => some (x ++ y)
 | _, _ => none
def iff2 (c : Bool) (a : Option (List Eqn)) : Option (List Eqn) := bif c then a else none
def eqSh : Sh → Sh → Option (List Eqn)
 | .er g t, .er h u => iff2 (g == h && t == u) (some [])
 | s, s' => some [.sh s s']
mutual
def eqSV : SV → SV → Option (List Eqn)
 | .any, .any => some []
 | .int k n, .int l m => iff2 (k == l && n == m) (some [])
 | .sym k n, .sym l m => iff2 (k == l) (some [.int n m])
 | .bool a, .bool b => iff2 (a == b) (some [])
 | .test a, .test b => some [.bool a b]
 | .str a, .str b => iff2 (a == b) (some [])
 | .val v, .val u => some [.val v u]
 | .ptr a b, .ptr c d => iff2 (a == c && b == d) (some [])
 | .gs a, .gs b => iff2 (a == b) (some [])
 | .gp a st i o, .gp a' st' i' o' => iff2 (a == a' && st == st' && o == o') (some [.nat i i'])
 | .shp st n g i o, .shp st' n' g' i' o' => iff2 (st == st' && o == o') (some [.nat n n', .fun_ g g', .nat i i'])
 | .nilp, .nilp => some []
 | .nils, .nils => some []
 | .nilf, .nilf => some []
 | .nili, .nili => some []
 | .nilm, .nilm => some []
 | .fn f l, .fn g m => iff2 (f == g) (eqSVL l m)
 | .agg l, .agg m => eqSVL l m
 | .tup l, .tup m => eqSVL l m
 | .ifc t x, .ifc u y => iff2 (t == u) (eqSV x y)
 | .mp a, .mp b => iff2 (a == b) (some [])
 | .glob a, .glob b => iff2 (a == b) (some [])
 | .ev a, .ev b => iff2 (a == b) (some [])
 | .sh s, .sh u => eqSh s u
 | _, _ => none
def eqSVL : List SV → List SV → Option (List Eqn)
 | [], [] => some []
 | x :: l, y :: m => app2 (eqSV x y) (eqSVL l m)
 | _, _ => none
end
def eqSVM : List (SV × SV) → List (SV × SV) → Option (List Eqn)
 | [], [] => some []
 |(a, b) :: l, (c, d) :: m => app2 (eqSV a c) (app2 (eqSV b d) (eqSVM l m))
 | _, _ => none
def eqFM : List (Int × Bool × SV) → List (Int × Bool × SV) → Option (List Eqn)
 | [], [] => some []
 |(a, p, b) :: l, (c, q, d) :: m => iff2 (p == q) (app2 (some [.int a c]) (app2 (eqSV b d) (eqFM l m)))
 | _, _ => none
def eqTag : Option (Nat × Int) → Option (Nat × Int) → Option (List Eqn)
 | none, none => some []
 | some (a, n), some (b, m) => iff2 (a == b) (some [.int n m])
 | _, _ => none
def eqSB : SB → SB → Option (List Eqn)
 | .box l e, .box m f => iff2 (e == f) (eqSVL l m)
 | .row l e s n, .row m f t k => iff2 (e == f && s == t && n == k) (eqSVL l m)
 | .own e s n g, .own f t m h => iff2 (e == f && s == t) (some [.nat n m, .fun_ g h])
 | .fz s n g, .fz t m h => iff2 (s == t) (some [.nat n m, .fun_ g h])
 | .map l, .map m => eqSVM l m
 | .fzb l, .fzb m => some [.sh (.pt l) (.pt m)]
 | .ownx e s n g x, .ownx f t m h y => iff2 (e == f && s == t) (app2 (some [.nat n m, .fun_ g h]) (eqSVL x y))
 | .buf e l, .buf f m => iff2 (e == f) (some [.str l m])
 | .fm k M fs us tg, .fm l N gs vs th => iff2 (k == l) (app2 (some [.mp M N]) (app2 (eqFM fs gs) (app2 (eqFM us vs) (eqTag tg th))))
 | _, _ => none
def eqHp : List (Nat × SB) → List (Nat × SB) → Option (List Eqn)
 | [], [] => some []
 |(i, a) :: l, (j, b) :: m => iff2 (i == j) (app2 (eqSB a b) (eqHp l m))
 | _, _ => none
def eqCore (a b : Core) : Option (List Eqn) := iff2 (a.nx == b.nx && a.lim == b.lim && a.tc == b.tc) (app2 (eqSVL a.tm b.tm) (eqHp a.hp b.hp))
def insN (i : Nat) : List Nat → List Nat
 | [] => [i]
 | j :: l => bif i == j then j :: l else bif Nat.blt i j then i :: j :: l else j :: insN i l
def sortN : List Nat → List Nat
 | [] => []
 | i :: l => insN i (sortN l)
inductive Ob where
 | b (x : Bool)
 | e (l : List Eqn)
def strip {α : Type} : Tree α → Option (List Ob × α)
 | .leaf a => some ([], a)
 | .need b t => (strip t).map fun p => (.b b :: p.1, p.2)
 | .must l t => (strip t).map fun p => (.e l :: p.1, p.2)
 | _ => none
def wrap {α : Type} (t : Tree α) : List Ob → Tree α
 | [] => t
 | .b x :: r => .need x (wrap t r)
 | .e l :: r => .must l (wrap t r)
def mustE {α : Type} (l : List Eqn) (t : Tree α) : Tree α :=
 match l with
 | [] => t
 | l => .must l t
def merge2 (t f : Tree Core) : Tree Core :=
 match strip t, strip f with
 | some (o, a), some (q, b) => match eqCore a b with
  | some l => wrap (mustE l (.leaf a)) (o ++ q)
  | none => .both t f
 | _, _ => .both t f
def merge : Tree Core → Tree Core
 | .both t f => merge2 (merge t) (merge f)
 | .node b t f => .node b (merge t) (merge f)
 | .need b t => .need b (merge t)
 | .must l t => .must l (merge t)
 | t => t
def scrubL : Nat → List SV → List SV
 | _, [] => []
 | m, x :: l => (bif Nat.beq (m % 2) 1 then x else .any) :: scrubL (m / 2) l
def scrub (C : Ctx) (g : Nat) (tm : List SV) : List SV :=
 match C.live.get g with
 | some m => scrubL m tm
 | none => tm
def ptrIds : SV → List Nat
 | .ptr id _ => [id]
 | .gp id _ _ _ => [id]
 | .gs id => [id]
 | .mp id => [id]
 | _ => []
def touches (c : Core) : Op → List Nat
 | .store _ x _ => ptrIds (evL c.tm x)
 | .insert _ x _ _ => ptrIds (evL c.tm x)
 | .mapUpdate _ x _ _ => ptrIds (evL c.tm x)
 | .mapEntry _ x _ => ptrIds (evL c.tm x)
 | .entryStore _ x _ _ => ptrIds (evL c.tm x)
 | .call k => match k.callee with
  | .value f => reach c.hp 4000 (refs (evL c.tm f) ++ refsL (k.args.toList.map (evL c.tm))) []
  | .builtin .append => refsL (k.args.toList.map (evL c.tm))
  | .builtin .delete => refsL (k.args.toList.map (evL c.tm))
  | _ => []
 | .slice _ x _ _ _ => ptrIds (evL c.tm x)
 | _ => []
def preTouch (C : Ctx) : List Oper → Core → List Nat → List Nat
 | [], _, acc => acc
 | o :: r, c, acc => preTouch C r (c.put o.dst (bif quietKind o.op then match quietLeaf (exec C noCall c o) [] with
   | some (_, v) => v
   | none => .any
  else .any)) (touches c o.op ++ acc)
def drawn (C : Ctx) (call : Nat → List SV → Core → Tree (SV × Core)) (g : Nat) (opsA : Array Oper) (c : Core) : Tree Core :=
 let lock := lockHp c.hp (preTouch C opsA.toList c [])
 bif Nat.ble (c.nx + idStep c opsA.size * opsA.size) c.lim && Region.noSelect opsA then
  merge ((explore C call c.nx (idStep c opsA.size) opsA lock (2 * opsA.size + 1) (Array.replicate opsA.size false) c.tm { c with nx := 0, lim := 0 }).bind fun c' => .leaf { tm := scrub C g c'.tm, hp := c'.hp, nx := c.nx + idStep c opsA.size * opsA.size, lim := c.lim, tc := sortN c'.tc })
 else .fail
/-! The run of a function's code. -/
inductive It where
 | code (p : List Nat)
 | inBlock (id : Nat)
 | reg (p : List Nat) (l : List Nat)
 | beg
inductive Out where
 | done (v : SV) (c : Core)
 | stop (fn : Nat) (todo : List It) (c : Core)
def child : Code → Nat → Code
 | .seq a _, 0 => a
 | .seq _ b, _ => b
 | .cond _ a _, 0 => a
 | .cond _ _ b, _ => b
 | .block _ b, _ => b
 | .loop b, _ => b
 | .rangeFunc _ _ a _, 0 => a
 | .rangeFunc _ _ _ b, _ => b
 | _, _ => .skip
def codeAt (c : Code) : List Nat → Code
 | [] => c
 | i :: p => child (codeAt c p) i
def exitIt (id : Nat) : List It → Option (List It)
 | .inBlock j :: k => bif j == id then some k else exitIt id k
 | _ :: k => exitIt id k
 | [] => none
def resS (C : Ctx) (c : Core) : List ResultVar → Option (List SV)
 | [] => some []
 | .tmp t :: r => match c.tm[t]?, resS C c r with
  | some v, some l => some (v :: l)
  | _, _ => none
 | .cell a t :: r => match C.ty t, resS C c r with
  | some i, some l => (loadS C c i.ty.isAgg i.size (c.tm.getD a .any)).map fun v => v :: l
  | _, _ => none
def result (C : Ctx) (fn : Func) (c : Core) : Tree Out :=
 match resS C c fn.results.toList with
 | some [v] => .leaf (.done v c)
 | some l => .leaf (.done (.tup l) c)
 | none => .fail
def bodyOf (fn : Func) : Code := match fn.body with | some b => b | none => .skip
def fromDone (c : Core) : Out → Tree (SV × Core)
 | .done v c' => .leaf (v, { tm := c.tm, hp := gc c.nx c.lim v c', nx := c'.nx, lim := c'.lim, tc := c'.tc })
 | .stop _ _ _ => .fail
def callWith (C : Ctx) (run : Nat → List It → Core → Tree Out) (g : Nat) (args : List SV) (c : Core) : Tree (SV × Core) :=
 match C.fns.get g with
 | none => .fail
 | some fn => bif Nat.ble args.length fn.ntmps && fn.body.isSome then
   (run g [.code []] { tm := args ++ List.replicate (fn.ntmps - args.length) .any, hp := c.hp, nx := c.nx, lim := c.lim, tc := c.tc }).bind (fromDone c)
  else .fail
def slotOf : Operand → Option Nat
 | .tmp t => some t
 | _ => none
inductive Sig where
 | go (td : List It) (c : Core)
 | done (v : SV) (c : Core)
 | halt (td : List It) (c : Core)
def toSig : Out → Tree Sig
 | .done v c => .leaf (.done v c)
 | .stop _ td c => .leaf (.halt td c)
def stepR (C : Ctx) (call : Nat → List SV → Core → Tree (SV × Core)) (top : Bool) (g : Nat) (fn : Func) (td : List It) (c : Core) : Tree Sig :=
 match td with
 | [] => (result C fn c).bind toSig
 | .inBlock _ :: k => .leaf (.go k c)
 | .beg :: _ => .fail
 | .reg _ [] :: k => .leaf (.go k { c with tm := scrub C g c.tm })
 | .reg p (i :: r) :: k => match codeAt (bodyOf fn) p with
  | .region _ ops _ => (opStep C call ops.toList c i).bind fun c => .leaf (.go (.reg p r :: k) c)
  | _ => .fail
 | .code p :: k => match codeAt (bodyOf fn) p with
  | .skip => .leaf (.go k c)
  | .ret => (result C fn c).bind toSig
  | .seq _ _ => .leaf (.go (.code (0 :: p) :: .code (1 :: p) :: k) c)
  | .block id _ => .leaf (.go (.code (0 :: p) :: .inBlock id :: k) c)
  | .loop _ => bif C.stopLoop g p then .leaf (.halt td c) else .leaf (.go (.code (0 :: p) :: .code p :: k) c)
  | .exit id => match exitIt id k with
   | some k => .leaf (.go k c)
   | none => .fail
  | .cond x _ _ => match evL c.tm x with
   | .bool true => .leaf (.go (.code (0 :: p) :: k) c)
   | .bool false => .leaf (.go (.code (1 :: p) :: k) c)
   | .test b => let d := slotOf x
    .node b (.leaf (.go (.code (0 :: p) :: k) (c.put d (.bool true)))) (.leaf (.go (.code (1 :: p) :: k) (c.put d (.bool false))))
   | _ => .fail
  | .region _ ops dr => bif dr then
    let t := drawn C call g ops c
    bif top && !t.lone then t.bind fun c => .leaf (.halt k c) else t.bind fun c => .leaf (.go k c)
   else .leaf (.go (.reg p (List.range ops.size) :: k) c)
  | _ => .fail
def run (C : Ctx) : Nat → Bool → Nat → List It → Core → Tree Out
 | 0, _, g, td, c => .leaf (.stop g td c)
 | n + 1, top, g, td, c =>
  match C.fns.get g with
  | none => .fail
  | some fn => (stepR C (callWith C (run C n false)) top g fn td c).bind fun s => match s with
   | .go td c => run C n top g td c
   | .done v c => .leaf (.done v c)
   | .halt td c => .leaf (.stop g td c)
end Go.Sx
namespace Go.Sx
open Go.RowKit (Below)
abbrev Mem := Nat → Option Obj
def Mem.le (H H' : Mem) : Prop := ∀ b o, H b = some o → H' b = some o
def Mem.on (H : Mem) (w : World) : Prop := ∀ b o, H b = some o → w.heap[b]? = some o
def hcell (H : Mem) (b off : Nat) : Option Value :=
 match H b with
 | some (.cells c _ _) => c[off]?
 | _ => none
theorem hcell_le {H H' : Mem} (h : H.le H') {b off : Nat} {v : Value} (hc : hcell H b off = some v) : hcell H' b off = some v := by
 unfold hcell at *
 cases hb : H b with
 | none => simp [hb] at hc
 | some o => rw [h b o hb]; rw [hb] at hc; exact hc
theorem hcell_on {H : Mem} {w : World} (h : H.on w) {b off : Nat} {v : Value} (hc : hcell H b off = some v) : w.cell? ⟨b, off, none⟩ = some v := by
 unfold hcell at hc
 cases hb : H b with
 | none => simp [hb] at hc
 | some o =>
  rw [hb] at hc
  have := h b o hb
  cases o <;> simp at hc
  simp [World.cell?, this, hc]
inductive Rep (H : Mem) : Sh → Value → Prop
 | i (k : IntKind) (n : Int) : Rep H (.i k n) (.int k n)
 | b (x : Bool) : Rep H (.b x) (.bool x)
 | str (l : List UInt8) : Rep H (.str l) (.string ⟨l.toArray⟩)
 | v (x : Value) (h : x.oneCell' = true) : Rep H (.v x) x
 | sl0 (st : Nat) (g : Nat → List Sh) (A : Option Addr) (cap : Nat) : cap ≤ maxLen → Rep H (.sl st 0 g) (.slice A 0 cap)
 | sl (st n : Nat) (g : Nat → List Sh) (b off cap : Nat) (c : Nat → Nat → Value) : n ≤ cap → cap ≤ maxLen → (∀ (i : Nat), i < n → (g i).length = st) →
   (∀ (i j : Nat), i < n → j < st → hcell H b (off + i * st + j) = some (c i j)) → (∀ (i j : Nat), i < n → j < st → (c i j).oneCell' = true) →
   (∀ (i j : Nat) (s : Sh), i < n → (g i)[j]? = some s → Rep H s (c i j)) → Rep H (.sl st n g) (.slice (some ⟨b, off, none⟩) n cap)
 | agg (l : List Sh) (vs : Array Value) : vs.size = l.length → (∀ (j : Nat) (s : Sh) (v : Value), l[j]? = some s → vs[j]? = some v → Rep H s v) → Rep H (.agg l) (.agg vs)
 | tup (l : List Sh) (vs : Array Value) : vs.size = l.length → (∀ (j : Nat) (s : Sh) (v : Value), l[j]? = some s → vs[j]? = some v → Rep H s v) → Rep H (.tup l) (.tuple vs)
 | ifc (t : Nat) (x : Sh) (u : Value) : Rep H x u → Rep H (.ifc t x) (.iface t u)
 | fn (f : Nat) (l : List Sh) (vs : Array Value) : vs.size = l.length → (∀ (j : Nat) (s : Sh) (v : Value), l[j]? = some s → vs[j]? = some v → Rep H s v) → Rep H (.fn f l) (.func (.func f) #[] vs)
 | er (g T : Nat) (b : Addr) (cs : Array Value) (e : Nat) : hcell H g 0 = some (.iface T (.pointer (some b))) → H b.block = some (.cells cs e (0, 0)) →
   Rep H (.er g T) (.iface T (.pointer (some b)))
 | pt (l : List Sh) (b off : Nat) (c : Nat → Value) : (∀ (j : Nat), j < l.length → hcell H b (off + j) = some (c j)) → (∀ (j : Nat), j < l.length → (c j).oneCell' = true) → (∀ (j : Nat) (s : Sh), l[j]? = some s → Rep H s (c j)) →
   Rep H (.pt l) (.pointer (some ⟨b, off, none⟩))
theorem Rep.le {H H' : Mem} (h : H.le H') {s : Sh} {v : Value} (r : Rep H s v) : Rep H' s v := by
 induction r with
 | i k n => exact .i k n
 | b x => exact .b x
 | str l => exact .str l
 | v x hx => exact .v x hx
 | sl0 st g A cap hc => exact .sl0 st g A cap hc
 | sl st n g b off cap c h1 h2 h3 h4 h5 _ ih => exact .sl st n g b off cap c h1 h2 h3 (fun i j hi hj => hcell_le h (h4 i j hi hj)) h5 ih
 | agg l vs hs _ ih => exact .agg l vs hs ih
 | tup l vs hs _ ih => exact .tup l vs hs ih
 | ifc t x u _ ih => exact .ifc t x u ih
 | fn f l vs hs _ ih => exact .fn f l vs hs ih
 | er g T b cs e h1 h2 => exact .er g T b cs e (hcell_le h h1) (h _ _ h2)
 | pt l b off c h1 h2 _ ih => exact .pt l b off c (fun j hj => hcell_le h (h1 j hj)) h2 ih
def RepL (H : Mem) : List Sh → List Value → Prop
 | [], [] => True
 | s :: l, v :: vs => Rep H s v ∧ RepL H l vs
 | _, _ => False
theorem RepL.le {H H' : Mem} (h : H.le H') : ∀ {l : List Sh} {vs : List Value}, RepL H l vs → RepL H' l vs
 | [], [], _ => trivial
 | _ :: _, _ :: _, ⟨a, b⟩ => ⟨a.le h, RepL.le h b⟩
 | [], _ :: _, h => h.elim
 | _ :: _, [], h => h.elim
theorem RepL.length {H : Mem} : ∀ {l : List Sh} {vs : List Value}, RepL H l vs → vs.length = l.length
 | [], [], _ => rfl
 | _ :: _, _ :: _, ⟨_, b⟩ => by simp [RepL.length b]
 | [], _ :: _, h => h.elim
 | _ :: _, [], h => h.elim
theorem RepL.at_ {H : Mem} : ∀ {l : List Sh} {vs : List Value}, RepL H l vs → ∀ {j : Nat} {s : Sh} {v : Value}, l[j]? = some s → vs[j]? = some v → Rep H s v
 | _ :: _, _ :: _, ⟨a, _⟩, 0, _, _, h1, h2 => by simp at h1 h2; subst h1; subst h2; exact a
 | _ :: _, _ :: _, ⟨_, b⟩, j + 1, _, _, h1, h2 => RepL.at_ b (by simpa using h1) (by simpa using h2)
 | [], [], _, _, _, _, h1, _ => by simp at h1
 | [], _ :: _, h, _, _, _, _, _ => h.elim
 | _ :: _, [], h, _, _, _, _, _ => h.elim
theorem RepL.of_at {H : Mem} : ∀ {l : List Sh} {vs : List Value}, vs.length = l.length → (∀ (j : Nat) (s : Sh) (v : Value), l[j]? = some s → vs[j]? = some v → Rep H s v) → RepL H l vs
 | [], [], _, _ => trivial
 | _ :: _, _ :: _, hl, h => ⟨h 0 _ _ rfl rfl, RepL.of_at (by simpa using hl) fun j s v h1 h2 => h (j + 1) s v (by simpa using h1) (by simpa using h2)⟩
 | [], _ :: _, h, _ => by simp at h
 | _ :: _, [], h, _ => by simp at h
def RepRows (H : Mem) (st n : Nat) (g : Nat → List Sh) (xs : List Value) : Prop :=
 xs.length = n * st ∧ (∀ i, i < n → (g i).length = st) ∧ (∀ u ∈ xs, u.oneCell' = true) ∧
 ∀ (i j : Nat) (s : Sh) (v : Value), i < n → (g i)[j]? = some s → xs[i * st + j]? = some v → Rep H s v
theorem RepRows.le {H H' : Mem} (h : H.le H') {st n : Nat} {g : Nat → List Sh} {xs : List Value} (r : RepRows H st n g xs) : RepRows H' st n g xs :=
 ⟨r.1, r.2.1, r.2.2.1, fun i j s v hi h1 h2 => (r.2.2.2 i j s v hi h1 h2).le h⟩
abbrev Env := Nat → Option Value
def Env.le (E E' : Env) : Prop := ∀ i v, E i = some v → E' i = some v
def blkV : Value → Option Nat
 | .pointer (some ⟨b, 0, none⟩) => some b
 | .slice (some ⟨b, 0, none⟩) _ _ => some b
 | .map (some b) => some b
 | _ => none
def lenV : Value → Nat
 | .slice _ n _ => n
 | _ => 0
mutual
def Den (H : Mem) (E : Env) : SV → Value → Prop
 | .any, _ => True
 | .val v, u => u = v ∧ v.oneCell' = true
 | .int k n, u => u = .int k n
 | .sym k n, u => u = .int k n
 | .bool b, u => u = .bool b
 | .test b, u => u = .bool b
 | .str l, u => u = .string ⟨l.toArray⟩
 | .ptr id off, u => ∃ b, (E id).bind blkV = some b ∧ u = .pointer (some ⟨b, off, none⟩)
 | .gs id, u => E id = some u ∧ ∃ A n c, u = .slice A n c
 | .gp id st i off, u => ∃ b v, E id = some v ∧ blkV v = some b ∧ i < lenV v ∧ u = .pointer (some ⟨b, i * st + off, none⟩)
 | .nilp, u => u = .pointer none
 | .nils, u => u = .slice none 0 0
 | .nilf, u => u = .nilFunc
 | .nili, u => u = .nilIface
 | .nilm, u => u = .map none
 | .fn f l, u => ∃ vs : Array Value, u = .func (.func f) #[] vs ∧ DenL H E l vs.toList
 | .agg l, u => ∃ vs : Array Value, u = .agg vs ∧ DenL H E l vs.toList
 | .tup l, u => ∃ vs : Array Value, u = .tuple vs ∧ DenL H E l vs.toList
 | .ifc t x, u => ∃ v, u = .iface t v ∧ Den H E x v
 | .mp id, u => ∃ b, E id = some (.map (some b)) ∧ u = .map (some b)
 | .sh s, u => Rep H s u
 | .shp st n g i off, u => ∃ (b o : Nat) (c : Nat → Value), u = .pointer (some ⟨b, o + off, none⟩) ∧ i < n ∧ (g i).length = st ∧
   (∀ j, j < st → hcell H b (o + j) = some (c j) ∧ (c j).oneCell' = true) ∧ ∀ (j : Nat) (s : Sh), (g i)[j]? = some s → Rep H s (c j)
 | .glob g, u => u = .pointer (some ⟨g, 0, none⟩)
 | .ev id, u => E id = some u
 | .vw id n, u => ∃ A m c, E id = some (.slice A m c) ∧ n ≤ m ∧ u = .slice A n c
def DenL (H : Mem) (E : Env) : List SV → List Value → Prop
 | [], [] => True
 | s :: l, v :: vs => Den H E s v ∧ DenL H E l vs
 | _, _ => False
end
section
variable {H H' : Mem} {E E' : Env}
mutual
theorem Den.le (hH : H.le H') (hE : E.le E') : ∀ {s : SV} {v : Value}, Den H E s v → Den H' E' s v
 | .any, _, _ => trivial
 | .val _, _, h => h
 | .int _ _, _, h => h
 | .sym _ _, _, h => h
 | .bool _, _, h => h
 | .test _, _, h => h
 | .str _, _, h => h
 | .ptr id off, u, ⟨b, h1, h2⟩ => ⟨b, by
   cases he : E id with
   | none => simp [he] at h1
   | some v => rw [hE _ _ he]; simpa [he] using h1, h2⟩
 | .gs id, u, ⟨h, h'⟩ => ⟨hE _ _ h, h'⟩
 | .gp id st i off, u, ⟨b, v, h1, h2⟩ => ⟨b, v, hE _ _ h1, h2⟩
 | .nilp, _, h => h
 | .nils, _, h => h
 | .nilf, _, h => h
 | .nili, _, h => h
 | .nilm, _, h => h
 | .fn _ _, _, ⟨vs, h1, h2⟩ => ⟨vs, h1, DenL.le hH hE h2⟩
 | .agg _, _, ⟨vs, h1, h2⟩ => ⟨vs, h1, DenL.le hH hE h2⟩
 | .tup _, _, ⟨vs, h1, h2⟩ => ⟨vs, h1, DenL.le hH hE h2⟩
 | .ifc _ _, _, ⟨v, h1, h2⟩ => ⟨v, h1, Den.le hH hE h2⟩
 | .mp id, _, ⟨b, h1, h2⟩ => ⟨b, hE _ _ h1, h2⟩
 | .sh _, _, h => Rep.le hH h
 | .shp _ _ _ _ _, _, ⟨b, o, c, h1, h2, h3, h4, h5⟩ => ⟨b, o, c, h1, h2, h3, fun j hj => ⟨hcell_le hH (h4 j hj).1, (h4 j hj).2⟩, fun j s hs => (h5 j s hs).le hH⟩
 | .glob _, _, h => h
 | .ev _, _, h => hE _ _ h
 | .vw _ _, _, ⟨A, m, c, h1, h2⟩ => ⟨A, m, c, hE _ _ h1, h2⟩
theorem DenL.le (hH : H.le H') (hE : E.le E') : ∀ {l : List SV} {vs : List Value}, DenL H E l vs → DenL H' E' l vs
 | [], [], _ => trivial
 | _ :: _, _ :: _, ⟨a, b⟩ => ⟨Den.le hH hE a, DenL.le hH hE b⟩
 | [], _ :: _, h => h.elim
 | _ :: _, [], h => h.elim
end
theorem DenL.length : ∀ {l : List SV} {vs : List Value}, DenL H E l vs → vs.length = l.length
 | [], [], _ => rfl
 | _ :: _, _ :: _, ⟨_, b⟩ => by simp [DenL.length b]
 | [], _ :: _, h => h.elim
 | _ :: _, [], h => h.elim
theorem DenL.at_ : ∀ {l : List SV} {vs : List Value}, DenL H E l vs → ∀ {j : Nat} {s : SV} {v : Value}, l[j]? = some s → vs[j]? = some v → Den H E s v
 | _ :: _, _ :: _, ⟨a, _⟩, 0, _, _, h1, h2 => by simp at h1 h2; subst h1; subst h2; exact a
 | _ :: _, _ :: _, ⟨_, b⟩, j + 1, _, _, h1, h2 => DenL.at_ b (by simpa using h1) (by simpa using h2)
 | [], [], _, _, _, _, h1, _ => by simp at h1
 | [], _ :: _, h, _, _, _, _, _ => h.elim
 | _ :: _, [], h, _, _, _, _, _ => h.elim
theorem DenL.get : ∀ {l : List SV} {vs : List Value}, DenL H E l vs → ∀ {j : Nat} {s : SV}, l[j]? = some s → ∃ v, vs[j]? = some v ∧ Den H E s v := by
 intro l vs h j s hs
 have hj : j < l.length := (List.getElem?_eq_some_iff.1 hs).1
 have hj' : j < vs.length := by rw [h.length]; exact hj
 exact ⟨vs[j], List.getElem?_eq_getElem hj', h.at_ hs (List.getElem?_eq_getElem hj')⟩
theorem DenL.append : ∀ {l l' : List SV} {vs vs' : List Value}, DenL H E l vs → DenL H E l' vs' → DenL H E (l ++ l') (vs ++ vs')
 | [], _, [], _, _, h' => h'
 | _ :: _, _, _ :: _, _, ⟨a, b⟩, h' => ⟨a, DenL.append b h'⟩
 | [], _, _ :: _, _, h, _ => h.elim
 | _ :: _, _, [], _, h, _ => h.elim
theorem DenL.drop : ∀ {l : List SV} {vs : List Value}, DenL H E l vs → ∀ n, DenL H E (l.drop n) (vs.drop n)
 | _, _, h, 0 => h
 | [], [], _, _ + 1 => trivial
 | _ :: _, _ :: _, ⟨_, b⟩, n + 1 => DenL.drop b n
 | [], _ :: _, h, _ + 1 => h.elim
 | _ :: _, [], h, _ + 1 => h.elim
theorem DenL.take : ∀ {l : List SV} {vs : List Value}, DenL H E l vs → ∀ n, DenL H E (l.take n) (vs.take n)
 | _, _, _, 0 => by simp [DenL]
 | [], [], _, _ + 1 => trivial
 | _ :: _, _ :: _, ⟨a, b⟩, n + 1 => ⟨a, DenL.take b n⟩
 | [], _ :: _, h, _ + 1 => h.elim
 | _ :: _, [], h, _ + 1 => h.elim
theorem DenL.set : ∀ {l : List SV} {vs : List Value}, DenL H E l vs → ∀ (n : Nat) {s : SV} {v : Value}, Den H E s v → DenL H E (l.set n s) (vs.set n v)
 | [], [], _, _, _, _, _ => trivial
 | _ :: _, _ :: _, ⟨_, b⟩, 0, _, _, h => ⟨h, b⟩
 | _ :: _, _ :: _, ⟨a, b⟩, n + 1, _, _, h => ⟨a, DenL.set b n h⟩
 | [], _ :: _, h, _, _, _, _ => h.elim
 | _ :: _, [], h, _, _, _, _ => h.elim
theorem DenL.any : ∀ (n : Nat) (vs : List Value), vs.length = n → DenL H E (List.replicate n .any) vs
 | 0, [], _ => trivial
 | n + 1, _ :: vs, h => ⟨trivial, DenL.any n vs (by simpa using h)⟩
 | 0, _ :: _, h => by simp at h
 | _ + 1, [], h => by simp at h
end
structure Kx where
 w0 : World
 own : Nat → Prop
 H0 : Mem
def Mine (K : Kx) (H : Mem) (b : Nat) : Prop := H b = none ∧ (K.w0.heap.size ≤ b ∨ K.own b)
def DenM (H : Mem) (E : Env) : List (SV × SV) → List MapEntry → Prop
 | [], [] => True
 |(k, v) :: l, m :: ms => Den H E k m.key ∧ Den H E v m.val ∧ DenM H E l ms
 | _, _ => False
def DenF (H : Mem) (E : Env) : List (Int × Bool × SV) → List (Int × Option Value) → Prop
 | [], [] => True
 |(k, p, sv) :: l, (n, o) :: r => n = k ∧ (match p, o with | true, some v => Den H E sv v ∧ v.oneCell' = true | false, none => True | _, _ => False) ∧ DenF H E l r
 | _, _ => False
def ovr (M : Int → Option Value) : List (Int × Option Value) → Int → Option Value
 | [] => M
 |(n, o) :: r => fun k => if k = n then o else ovr M r k
def entAt (k : IntKind) (n : Int) : List MapEntry → Option Value
 | [] => none
 | m :: r => match Instr.sameNow (.int k) (.int k n) m.key with
  | some true => some m.val
  | _ => entAt k n r
structure MapOK (k : IntKind) (ms : List MapEntry) (clk : Nat) (N : Int → Option Value) : Prop where
 key : ∀ m ∈ ms, ∃ n, m.key = .int k n
 at_ : ∀ n, entAt k n ms = N n
 one : ∀ (i j : Nat) (m m' : MapEntry), ms[i]? = some m → ms[j]? = some m' → m.key = m'.key → i = j
 born : ∀ (i j : Nat) (m m' : MapEntry), ms[i]? = some m → ms[j]? = some m' → m.born = m'.born → i = j
 lt : ∀ m ∈ ms, m.born < clk
def TagOK (E : Env) (k : IntKind) (ms : List MapEntry) : Option (Nat × Int) → Prop
 | none => True
 | some (s, n) => ∃ m ∈ ms, m.key = .int k n ∧ E s = some (.int .i64 m.born)
def bytesV (l : List UInt8) : List Value := l.map fun b => .int .u8 b.toNat
def OwnsBuf (w : World) (e : TypeId) (v : Value) (l : List UInt8) : Prop :=
 (v = .slice none 0 0 ∧ l = []) ∨ ∃ g cap cur fz, v = .slice (some ⟨g, 0, none⟩) l.length cap ∧ w.heap[g]? = some (.cells cur e fz) ∧ (fz.2 ≤ l.length ∨ cap ≤ fz.1) ∧ l.length ≤ cap ∧ cap ≤ maxLen ∧ cur.size = cap ∧ cur.toList.take l.length = bytesV l
def Ent (K : Kx) (H : Mem) (E : Env) (w : World) (id : Nat) : SB → Prop
 | .box cells elem => ∃ b cs, E id = some (.pointer (some ⟨b, 0, none⟩)) ∧ w.heap[b]? = some (.cells cs elem (0, 0)) ∧ DenL H E cells cs.toList ∧ Mine K H b
 | .row cells elem st n => ∃ v xs, E id = some v ∧ w.ownsRow 0 elem st v n xs ∧ DenL H E cells xs ∧ ∀ b, blkV v = some b → Mine K H b
 | .own elem st n g => ∃ v xs, E id = some v ∧ w.ownsRow 0 elem st v n xs ∧ RepRows H st n g xs ∧ ∀ b, blkV v = some b → Mine K H b
 | .fz st n g => ∃ v, E id = some v ∧ Rep H (.sl st n g) v
 | .map es => ∃ b ms clk, E id = some (.map (some b)) ∧ w.heap[b]? = some (.map ms clk) ∧ DenM H E es ms.toList ∧ Mine K H b
 | .fzb l => ∃ v, E id = some v ∧ Rep H (.pt l) v
 | .ownx elem st n g more => ∃ v xs ys, E id = some v ∧ w.ownsRow 0 elem st v (n + more.length / st) (xs ++ ys) ∧ RepRows H st n g xs ∧ DenL H E more ys ∧ more.length % st = 0 ∧ oneL more = true ∧ ∀ b, blkV v = some b → Mine K H b
 | .fm k M fs us tag => ∃ b ms clk fv uv, E id = some (.map (some b)) ∧ w.heap[b]? = some (.map ms clk) ∧ DenF H E fs fv ∧ DenF H E us uv ∧ (∀ n o, (n, o) ∈ fv → M n = o) ∧ MapOK k ms.toList clk (ovr M uv) ∧ TagOK E k ms.toList tag ∧ Mine K H b
 | .buf e l => ∃ v, E id = some v ∧ OwnsBuf w e v l ∧ ∀ b, blkV v = some b → Mine K H b
def obk (E : Env) (id : Nat) : SB → Option Nat
 | .fz _ _ _ => none
 | .fzb _ => none
 | _ => (E id).bind blkV
structure HeapOK (K : Kx) (H : Mem) (E : Env) (w : World) (hp : List (Nat × SB)) : Prop where
 ent : ∀ id sb, look? hp id = some sb → Ent K H E w id sb
 dis : ∀ id id' sb sb' b, look? hp id = some sb → look? hp id' = some sb' → obk E id sb = some b → obk E id' sb' = some b → id = id'
structure WOK (K : Kx) (H : Mem) (w : World) : Prop where
 os : w.os = K.w0.os
 tape : w.tape = K.w0.tape
 output : w.output = K.w0.output
 size : K.w0.heap.size ≤ w.heap.size
 kept : ∀ b, b < K.w0.heap.size → ¬ K.own b → w.heap[b]? = K.w0.heap[b]?
 on : H.on w
 le : K.H0.le H
 fresh : ∀ b, H b ≠ none → K.H0 b ≠ none ∨ K.w0.heap.size ≤ b ∨ K.own b
end Go.Sx
namespace Go.Sx
open Go.RowKit (Below)
def prim : Prim where
 add k x y := k.wrap (x + y)
 sub k x y := k.wrap (x - y)
 mul k x y := k.wrap (x * y)
 neg k x := k.wrap (0 - x)
 lt x y := decide (x < y)
 le x y := decide (x ≤ y)
 eq x y := x == y
 max x y := if y > x then y else x
 min x y := if y < x then y else x
 inB i n := decide (0 ≤ i ∧ i < n)
 upTo i n := decide (0 ≤ i ∧ i ≤ n)
 toN i := i.toNat
 ofN n := n
 addN i j := i + j
 subN i j := i - j
 leN i j := decide (i ≤ j)
 room n b := decide (n * b ≤ 140737488355328 ∧ n ≤ maxLen)
 len l := l.length
 nt b := !b
 ite c x y := bif c then x else y
 beq x y := x == y
 seq x y := x == y
 app x y := x ++ y
 snoc g n h i := if i < n then g i else h (i - n)
 upd g i off l j := if j = i then (g j).take off ++ l ++ (g j).drop (off + l.length) else g j
 bin op k a b := binL op k a b
 conv k a := k.wrap a
 ins g i l j := if j < i then g j else if j = i then l else g (j - 1)
def E0 : Env := fun _ => none
def M0 : Mem := fun _ => none
def FieldsOK (P : Program) (fields : Array Field) (fs : List (Nat × Nat × Bool)) : Prop :=
 fields.size = fs.length ∧ ∀ (j : Nat) (f : Field), fields[j]? = some f → ∃ inf : TypeInfo, P.info? f.type = some inf ∧
  fs[j]? = some (f.offset, inf.size, match P.underlying f.type with | some (.struct _) | some (.array _ _) => true | _ => false) ∧ (P.underlying f.type).isSome = true
def DescOK (P : Program) (t : Nat) : Ty → Prop
 | .int k => P.underlying t = some (.int k)
 | .bool => P.underlying t = some .bool
 | .str => P.underlying t = some .string
 | .ptr e => P.underlying t = some (.pointer e)
 | .fn => ∃ ps rs b, P.underlying t = some (.func ps rs b)
 | .iface => ∃ ms, P.underlying t = some (.interface ms)
 | .map k e => P.underlying t = some (.map k e)
 | .slice e => P.underlying t = some (.slice e)
 | .struct fs => ∃ fields, P.underlying t = some (.struct fields) ∧ FieldsOK P fields fs
 | .arr n e => P.underlying t = some (.array n e)
 | .other => False
structure TyOK (P : Program) (t : Nat) (i : TyI) : Prop where
 desc : DescOK P t i.ty
 info : ∃ (inf : TypeInfo) (z : Value), P.info? t = some inf ∧ inf.size = i.size ∧ inf.bytes = i.bytes ∧ inf.zero = some z ∧ DenL M0 E0 i.zero z.cells.toList ∧ z.cells.size = i.size ∧
  (i.ty.isAgg = true → ∃ cs, z = .agg cs) ∧ (i.ty.isAgg = false → i.size = 1 ∧ z.oneCell' = true)
def GlobAt (H : Mem) (g : Nat) (s : Sh) : Prop :=
 match s with
 | .tup l => (∃ cs e f, H g = some (.cells cs e f) ∧ cs.size = l.length) ∧ ∃ c : Nat → Value, (∀ (j : Nat), j < l.length → hcell H g j = some (c j) ∧ (c j).oneCell' = true) ∧ ∀ (j : Nat) (s : Sh), l[j]? = some s → Rep H s (c j)
 | s => ∃ v, hcell H g 0 = some v ∧ Rep H s v ∧ v.oneCell' = true
def GlobOK (gls : List (Nat × Sh)) (H : Mem) : Prop := ∀ g s, look? gls g = some s → GlobAt H g s
theorem GlobOK.le {gls : List (Nat × Sh)} {H H' : Mem} (h : GlobOK gls H) (hH : H.le H') : GlobOK gls H' := fun g s hg => by
 have := h g s hg
 cases s with
 | tup l => obtain ⟨⟨cs, e, f, q1, q2⟩, c, h1, h2⟩ := this; exact ⟨⟨cs, e, f, hH _ _ q1, q2⟩, c, fun j hj => ⟨hcell_le hH (h1 j hj).1, (h1 j hj).2⟩, fun j s hs => (h2 j s hs).le hH⟩
 | _ => obtain ⟨v, h1, h2, h3⟩ := this; exact ⟨v, hcell_le hH h1, h2.le hH, h3⟩
section
variable {P : Program} {C : Ctx} {K : Kx} {H : Mem} {E : Env} {w : World}
theorem isAgg_run {t : Nat} {i : TyI} (h : TyOK P t i) (w : World) : (isAgg t).run P w = .ok i.ty.isAgg w := by
 have hd := h.desc
 unfold isAgg
 cases hi : i.ty <;> rw [hi] at hd <;> simp only [DescOK] at hd
 case struct fs => obtain ⟨f, hf, _⟩ := hd; simp [run_underlying hf, Ty.isAgg]
 case fn => obtain ⟨_, _, _, hd⟩ := hd; simp [run_underlying hd, Ty.isAgg]
 case iface => obtain ⟨_, hd⟩ := hd; simp [run_underlying hd, Ty.isAgg]
 all_goals simp [run_underlying hd, Ty.isAgg]
theorem sizeOf_run {t : Nat} {i : TyI} (h : TyOK P t i) (w : World) : (sizeOf t).run P w = .ok i.size w := by
 obtain ⟨inf, z, h1, h2, _⟩ := h.info
 simp [sizeOf, typeInfo, h1, h2]
theorem zero_run {t : Nat} {i : TyI} (h : TyOK P t i) (w : World) : ∃ z : Value, (zeroValue t).run P w = .ok z w ∧ DenL M0 E0 i.zero z.cells.toList ∧ z.cells.size = i.size := by
 obtain ⟨inf, z, h1, _, _, h4, h5, h6, _⟩ := h.info
 exact ⟨z, by simp [zeroValue, typeInfo, h1, h4], h5, h6⟩
theorem den_const (v : Value) : Den H E (.ofValue v) v := by
 unfold SV.ofValue
 split <;> simp [Den]
theorem den_ev {tm : List SV} {a : Act} (hd : DenL H E tm a.tmps.toList) (x : Operand) : Den H E (evL tm x) (a.eval x) := by
 cases x with
 | tmp t =>
  simp only [evL, Act.eval]
  by_cases ht : t < tm.length
  ·have h1 : tm[t]? = some tm[t] := List.getElem?_eq_getElem ht
   obtain ⟨v, hv, h2⟩ := hd.get h1
   have : a.tmps.getD t undef = v := by
    rw [Array.getElem?_toList] at hv
    simp [Array.getD_eq_getD_getElem?, hv]
   rw [this, List.getD_eq_getElem?_getD, h1]
   exact h2
  ·rw [List.getD_eq_getElem?_getD, List.getElem?_eq_none (Nat.le_of_not_lt ht)]
   trivial
 | const v => exact den_const v
 | global g => exact rfl
 | func f => exact ⟨#[], rfl, trivial⟩
theorem den_lit {x : Value} (h : x.oneCell' = true) : Den H E (SV.lit x) x := by
 unfold SV.lit
 split
 ·rfl
 ·rfl
 ·rfl
 ·exact ⟨rfl, h⟩
mutual
theorem argSV_den : ∀ {s : Sh} {v : Value}, Rep H s v → Den H E (argSV s) v
 | .i _ _, _, h => by cases h; rfl
 | .b _, _, h => by cases h; rfl
 | .v _, _, h => by cases h with | v _ h1 => exact den_lit h1
 | .str _, _, h => h
 | .sl _ _ _, _, h => h
 | .ifc _ _, _, h => h
 | .er _ _, _, h => h
 | .fn _ l, _, h => by
  cases h with
  | fn _ _ vs h1 h2 => exact ⟨vs, rfl, argL_den (RepL.of_at (by simpa using h1) fun j s v e1 e2 => h2 j s v e1 (by simpa using e2))⟩
 | .pt l, _, h => by
  cases h with
  | pt _ b off c h1 h2 h3 => exact ⟨b, off, c, rfl, Nat.zero_lt_one, rfl, fun j hj => ⟨h1 j hj, h2 j hj⟩, h3⟩
 | .os _ _ _ _, _, h => by cases h
 | .agg l, _, h => by
  cases h with
  | agg _ vs h1 h2 => exact ⟨vs, rfl, argL_den (RepL.of_at (by simpa using h1) fun j s v e1 e2 => h2 j s v e1 (by simpa using e2))⟩
 | .tup l, _, h => by
  cases h with
  | tup _ vs h1 h2 => exact ⟨vs, rfl, argL_den (RepL.of_at (by simpa using h1) fun j s v e1 e2 => h2 j s v e1 (by simpa using e2))⟩
theorem argL_den : ∀ {l : List Sh} {vs : List Value}, RepL H l vs → DenL H E (argL l) vs
 | [], [], _ => trivial
 | _ :: _, _ :: _, ⟨h1, h2⟩ => ⟨argSV_den h1, argL_den h2⟩
 | [], _ :: _, h => h.elim
 | _ :: _, [], h => h.elim
end
theorem den_toSV {s : Sh} {v : Value} (h : Rep H s v) (h1 : v.oneCell' = true) : Den H E s.toSV v := by
 cases h
 case v hx =>
  simp only [Sh.toSV]
  unfold SV.lit
  split
  ·rfl
  ·rfl
  ·rfl
  ·exact ⟨rfl, hx⟩
 all_goals simp [Sh.toSV, Den]
 case sl0 st g A cap hc => exact .sl0 st g A cap hc
 case sl st n g b off cap c a1 a2 a3 a4 a5 a6 => exact .sl st n g b off cap c a1 a2 a3 a4 a5 a6
 case str l => exact .str l
 case agg l vs _ _ => simp [Value.oneCell'] at h1
 case tup l vs _ _ => simp [Value.oneCell'] at h1
 case ifc t x u hu => exact .ifc t x u hu
 case fn f l vs hs hv => exact argL_den (RepL.of_at (by simpa using hs) fun j s v e1 e2 => hv j s v e1 (by simpa using e2))
 case er g T b cs e a1 a2 => exact .er g T b cs e a1 a2
 case pt l b off c a1 a2 a3 => exact ⟨b, off, ⟨rfl, rfl⟩, c, fun j hj => ⟨a1 j hj, a2 j hj⟩, a3⟩
def Agr (H : Mem) (E : Env) (hp : List (Nat × SB)) (w w' : World) : Prop :=
 ∀ b, (H b ≠ none ∨ ∃ id sb, look? hp id = some sb ∧ obk E id sb = some b) → w'.heap[b]? = w.heap[b]?
theorem Agr.refl (H : Mem) (E : Env) (hp : List (Nat × SB)) (w : World) : Agr H E hp w w := fun _ _ => rfl
theorem seg_spec {l : List SV} {off n : Nat} {r : List SV} (h : seg l off n = some r) : off + n ≤ l.length ∧ r = (l.drop off).take n := by
 unfold seg at h
 cases hb : Nat.ble (off + n) l.length <;> simp [hb] at h
 exact ⟨Nat.le_of_ble_eq_true hb, h.symm⟩
theorem pack_spec {agg : Bool} {l : List SV} {v : SV} (h : pack agg l = some v) : (agg = true ∧ v = .agg l) ∨ (agg = false ∧ l = [v]) := by
 unfold pack at h
 cases agg
 ·right
  simp only [cond_false] at h
  split at h <;> simp at h
  subst h; exact ⟨rfl, rfl⟩
 ·left; simp at h; exact ⟨rfl, h.symm⟩
theorem load_run {t : Nat} {i : TyI} (ht : TyOK P t i) {a : Addr} {cs : List Value} (hl : cs.length = i.size) (hc : ∀ j v, cs[j]? = some v → w.cell? (a.add j) = some v) :
  (loadVar t a).run P w = .ok (if i.ty.isAgg then .agg cs.toArray else cs.headD undef) w := by
 unfold loadVar
 simp only [Sem.run_bind, isAgg_run ht, Result.andThen_ok]
 cases hi : i.ty.isAgg
 ·obtain ⟨_, _, _, _, _, _, _, _, _, h1⟩ := ht.info
  have h1 := (h1 hi).1
  rw [h1] at hl
  match cs, hl with
  | [c], _ =>
   have := hc 0 c rfl
   simp [Addr.add_zero'] at this
   simp [run_load, this]
 ·have := run_loadCells_list (P := P) (w := w) a cs hc
  rw [hl] at this
  simp [sizeOf_run ht, this]
def vpack (agg : Bool) (cs : List Value) : Value := if agg then .agg cs.toArray else cs.headD undef
theorem den_pack {agg : Bool} {l : List SV} {sv : SV} {cs : List Value} (h : pack agg l = some sv) (hd : DenL H E l cs) : Den H E sv (vpack agg cs) := by
 rcases pack_spec h with ⟨rfl, rfl⟩ | ⟨rfl, rfl⟩
 ·exact ⟨cs.toArray, by simp [vpack], hd⟩
 ·match cs, hd with
  | [c], ⟨hc, _⟩ => exact hc
theorem block_kept {hp : List (Nat × SB)} {w' : World} (ha : Agr H E hp w w') {id b : Nat} {sb : SB} (hl : look? hp id = some sb) (hb : obk E id sb = some b) :
  w'.heap[b]? = w.heap[b]? := ha b (.inr ⟨id, sb, hl, hb⟩)
theorem ownsRow_blk {elem st n : Nat} {v : Value} {xs : List Value} (h : w.ownsRow 0 elem st v n xs) {j : Nat} {u : Value} (hu : xs[j]? = some u) :
  ∃ b cur, blkV v = some b ∧ w.heap[b]? = some (.cells cur elem (0, 0)) ∧ cur.toList[j]? = some u := by
 obtain ⟨hl, h⟩ := h
 rcases h with ⟨rfl, rfl⟩ | ⟨g, cap, cur, rfl, _, hg, _, _, hs, ht⟩
 ·have : xs = [] := List.eq_nil_of_length_eq_zero (by simpa using hl)
  subst this
  simp at hu
 ·refine ⟨g, cur, rfl, hg, ?_⟩
  rw [← ht, List.getElem?_take] at hu
  split at hu
  ·exact hu
  ·cases hu
theorem rep_rows_den {st n : Nat} {g : Nat → List Sh} {xs : List Value} (h : RepRows H st n g xs) {i : Nat} (hi : i < n) :
  DenL H E ((g i).map Sh.toSV) ((xs.drop (i * st)).take st) := by
 obtain ⟨h1, h2, h3, h4⟩ := h
 have hg := h2 i hi
 have hlen : i * st + st ≤ xs.length := by
  rw [h1]; calc i * st + st = (i + 1) * st := by rw [Nat.add_mul, Nat.one_mul]
   _ ≤ n * st := Nat.mul_le_mul_right _ hi
 have key : ∀ (l : List Sh) (vs : List Value), vs.length = l.length → (∀ (j : Nat) (s : Sh) (v : Value), l[j]? = some s → vs[j]? = some v → Rep H s v ∧ v.oneCell' = true) → DenL H E (l.map Sh.toSV) vs := by
  intro l
  induction l with
  | nil => intro vs hl _; match vs, hl with | [], _ => trivial
  | cons s l ih =>
   intro vs hl h
   match vs, hl with
   | v :: vs, hl =>
    have h0 := h 0 s v rfl rfl
    exact ⟨den_toSV h0.1 h0.2, ih vs (by simpa using hl) fun j s' v' e1 e2 => h (j + 1) s' v' (by simpa using e1) (by simpa using e2)⟩
 refine key _ _ (by simp [List.length_take, List.length_drop]; omega) fun j s v e1 e2 => ?_
 have hj : j < st := by rw [← hg]; exact (List.getElem?_eq_some_iff.1 e1).1
 rw [List.getElem?_take, if_pos hj, List.getElem?_drop] at e2
 exact ⟨h4 i j s v hi e1 e2, h3 v (List.mem_of_getElem? e2)⟩
theorem range_map_get {st k : Nat} {c : Nat → Value} {v : Value} (h : ((List.range st).map c)[k]? = some v) : k < st ∧ c k = v := by
 have hk : k < st := by simpa using (List.getElem?_eq_some_iff.1 h).1
 refine ⟨hk, ?_⟩
 simpa [List.getElem?_range hk] using h
theorem den_cells {l : List Sh} {st : Nat} {c : Nat → Value} (hl : l.length = st) (hr : ∀ (j : Nat) (s : Sh), l[j]? = some s → Rep H s (c j)) (h1 : ∀ j, j < st → (c j).oneCell' = true) :
  DenL H E (l.map Sh.toSV) ((List.range st).map c) := by
 have key : ∀ (l : List Sh) (c : Nat → Value), (∀ (j : Nat) (s : Sh), l[j]? = some s → Rep H s (c j) ∧ (c j).oneCell' = true) → DenL H E (l.map Sh.toSV) ((List.range l.length).map c) := by
  intro l
  induction l with
  | nil => intro c _; trivial
  | cons s l ih =>
   intro c h
   rw [List.length_cons, List.range_succ_eq_map, List.map_cons, List.map_cons, List.map_map]
   exact ⟨den_toSV (h 0 s rfl).1 (h 0 s rfl).2, ih (c ∘ Nat.succ) fun j s' e => h (j + 1) s' (by simpa using e)⟩
 rw [← hl]
 exact key l c fun j s e => ⟨hr j s e, h1 j (by rw [← hl]; exact (List.getElem?_eq_some_iff.1 e).1)⟩
theorem loadS_spec {c : Core} {agg : Bool} {size : Nat} {x sv : SV} {u : Value} (hx : Den H E x u) (hh : HeapOK K H E w c.hp) (hg : GlobOK C.gls H) (hsz : agg = false → size = 1)
  (h : loadS C c agg size x = some sv) : ∃ (a : Addr) (cs : List Value), u = .pointer (some a) ∧ cs.length = size ∧ Den H E sv (vpack agg cs) ∧
   ∀ w', Agr H E c.hp w w' → H.on w' → ∀ (j : Nat) (v : Value), cs[j]? = some v → w'.cell? (a.add j) = some v := by
 unfold loadS at h
 split at h
 ·-- a variable, a row
  rename_i id off
  obtain ⟨b, hb, rfl⟩ := hx
  split at h
  ·rename_i cells elem hl
   obtain ⟨b', cs, he, hw, hd, _⟩ := hh.ent _ _ hl
   simp only [he, Option.bind_some, blkV, Option.some.injEq] at hb
   subst hb
   cases hs : seg cells off size with
   | none => simp [hs] at h
   | some r =>
    simp only [hs, Option.bind_some] at h
    obtain ⟨hle, rfl⟩ := seg_spec hs
    have hdl := hd.length
    refine ⟨_, (cs.toList.drop off).take size, rfl, by simp [List.length_take, List.length_drop]; simp at hdl; omega, den_pack h ((hd.drop off).take size), ?_⟩
    intro w' ha _ j v hv
    rw [List.getElem?_take] at hv
    split at hv
    ·rw [List.getElem?_drop, Array.getElem?_toList] at hv
     have hk := block_kept ha hl (b := b') (by simp [obk, he, blkV])
     simp [World.cell?, Addr.add_lit, hk, hw, hv]
    ·cases hv
  ·rename_i cells elem st n hl
   obtain ⟨v', xs, he, ho, hd, _⟩ := hh.ent _ _ hl
   cases hs : seg cells off size with
   | none => simp [hs] at h
   | some r =>
    simp only [hs, Option.bind_some] at h
    obtain ⟨hle, rfl⟩ := seg_spec hs
    have hdl := hd.length
    refine ⟨_, (xs.drop off).take size, rfl, by simp [List.length_take, List.length_drop]; omega, den_pack h ((hd.drop off).take size), ?_⟩
    intro w' ha _ j v hv
    rw [List.getElem?_take] at hv
    split at hv
    ·rw [List.getElem?_drop] at hv
     obtain ⟨b', cur, hb', hw, hu⟩ := ownsRow_blk ho hv
     simp only [he, Option.bind_some, hb', Option.some.injEq] at hb
     subst hb
     have hk := block_kept ha hl (b := b') (by simp [obk, he, hb'])
     rw [Array.getElem?_toList] at hu
     simp [World.cell?, Addr.add_lit, hk, hw, hu]
    ·cases hv
  ·rename_i l hl
   obtain ⟨v', he, hr⟩ := hh.ent _ _ hl
   cases hr with
   | pt _ b2 off2 c2 h1 h2 h3 =>
    have h02 : b2 = b ∧ off2 = 0 := by
     rw [he] at hb
     simp only [Option.bind_some] at hb
     unfold blkV at hb
     split at hb <;> simp_all
    obtain ⟨rfl, rfl⟩ := h02
    cases hs : seg (l.map Sh.toSV) off size with
    | none => simp [hs] at h
    | some r =>
     simp only [hs, Option.bind_some] at h
     obtain ⟨hle, rfl⟩ := seg_spec hs
     rw [List.length_map] at hle
     have hd : DenL H E (l.map Sh.toSV) ((List.range l.length).map c2) := den_cells rfl h3 h2
     refine ⟨_, (((List.range l.length).map c2).drop off).take size, rfl, by simp [List.length_take, List.length_drop]; omega, den_pack h ((hd.drop off).take size), ?_⟩
     intro w' _ hon j v hv
     rw [List.getElem?_take] at hv
     split at hv
     ·rw [List.getElem?_drop] at hv
      obtain ⟨hk, rfl⟩ := range_map_get hv
      have := hcell_on hon (h1 (off + j) hk)
      simpa [Addr.add_lit] using this
     ·cases hv
  ·cases h
 ·-- an element of a slice that grows, or grows no more
  rename_i id st i off
  obtain ⟨b, v', he, hb, hi, rfl⟩ := hx
  split at h
  ·rename_i elem st' n g hl
   obtain ⟨v'', xs, he', ho, hr, _⟩ := hh.ent _ _ hl
   rw [he] at he'; cases he'
   have hn : lenV v' = n := by
    rcases ho.2 with ⟨rfl, rfl⟩ | ⟨_, _, _, rfl, _⟩ <;> rfl
   rw [hn] at hi
   cases hst : (st == st') <;> simp only [hst, cond_true, cond_false] at h
   ·cases h
   obtain rfl : st = st' := by simpa using hst
   cases hs : seg ((g i).map Sh.toSV) off size with
   | none => simp [hs] at h
   | some r =>
    simp only [hs, Option.bind_some] at h
    obtain ⟨hle, rfl⟩ := seg_spec hs
    have hd := rep_rows_den (E := E) hr hi
    have hdl := hd.length
    refine ⟨_, (((xs.drop (i * st)).take st).drop off).take size, rfl, by rw [List.length_take, List.length_drop]; omega, den_pack h ((hd.drop off).take size), ?_⟩
    intro w' ha _ j v hv
    rw [List.getElem?_take] at hv
    split at hv
    ·rw [List.getElem?_drop, List.getElem?_take] at hv
     split at hv
     ·rw [List.getElem?_drop] at hv
      obtain ⟨b', cur, hb', hw, hu⟩ := ownsRow_blk ho hv
      rw [hb] at hb'; cases hb'
      have hk := block_kept ha hl (b := b) (by simp [obk, he, hb])
      rw [Array.getElem?_toList] at hu
      simp [World.cell?, Addr.add_lit, hk, hw]
      rw [← hu]; congr 1; omega
     ·cases hv
    ·cases hv
  ·rename_i st' n g hl
   obtain ⟨v'', he', hr⟩ := hh.ent _ _ hl
   rw [he] at he'; cases he'
   cases hst : (st == st') <;> simp only [hst, cond_true, cond_false] at h
   ·cases h
   obtain rfl : st = st' := by simpa using hst
   cases hr with
   | sl0 _ _ A cap hc => simp [lenV] at hi
   | sl _ _ _ b2 off2 cap c h1 h2 h3 h4 h5 h6 =>
    simp only [lenV] at hi
    have h02 : b2 = b ∧ off2 = 0 := by
     unfold blkV at hb
     split at hb <;> simp_all
    obtain ⟨rfl, rfl⟩ := h02
    cases hs : seg ((g i).map Sh.toSV) off size with
    | none => simp [hs] at h
    | some r =>
     simp only [hs, Option.bind_some] at h
     obtain ⟨hle, rfl⟩ := seg_spec hs
     rw [List.length_map, h3 i hi] at hle
     have hd : DenL H E ((g i).map Sh.toSV) ((List.range st).map (c i)) := den_cells (h3 i hi) (fun j s hs => h6 i j s hi hs) (fun j hj => h5 i j hi hj)
     refine ⟨_, (((List.range st).map (c i)).drop off).take size, rfl, by simp [List.length_take, List.length_drop]; omega, den_pack h ((hd.drop off).take size), ?_⟩
     intro w' _ hon j v hv
     rw [List.getElem?_take] at hv
     split at hv
     ·rw [List.getElem?_drop] at hv
      obtain ⟨hk, rfl⟩ := range_map_get hv
      have := hcell_on hon (h4 i (off + j) hi hk)
      simpa [Addr.add_lit, Nat.add_assoc] using this
     ·cases hv
  ·cases h
 ·-- an element of an immutable slice
  rename_i st n g i off
  obtain ⟨b, o, c, rfl, hi, hgl, hc, hr⟩ := hx
  cases hs : seg ((g i).map Sh.toSV) off size with
  | none => simp [hs] at h
  | some r =>
   simp only [hs, Option.bind_some] at h
   obtain ⟨hle, rfl⟩ := seg_spec hs
   rw [List.length_map, hgl] at hle
   have hd : DenL H E ((g i).map Sh.toSV) ((List.range st).map c) := den_cells hgl hr (fun j hj => (hc j hj).2)
   refine ⟨_, (((List.range st).map c).drop off).take size, rfl, by simp [List.length_take, List.length_drop]; omega, den_pack h ((hd.drop off).take size), ?_⟩
   intro w' _ hon j v hv
   rw [List.getElem?_take] at hv
   split at hv
   ·rw [List.getElem?_drop] at hv
    obtain ⟨hk, rfl⟩ := range_map_get hv
    have := hcell_on hon (hc (off + j) hk).1
    simpa [Addr.add_lit, Nat.add_assoc] using this
   ·cases hv
 ·rename_i g
  obtain rfl : u = _ := hx
  cases agg <;> simp only [cond_true, cond_false] at h
  ·cases hl : look? C.gls g with
   | none => simp [hl] at h
   | some s =>
    have hgl := hg g s hl
    have h : s.toSV = sv ∧ ∃ v, hcell H g 0 = some v ∧ Rep H s v ∧ v.oneCell' = true := by
     cases s <;> simp [hl] at h <;> exact ⟨h, hgl⟩
    obtain ⟨rfl, v, h1, h2, h3⟩ := h
    refine ⟨_, [v], rfl, (hsz rfl).symm, den_toSV h2 h3, ?_⟩
    intro w' _ hon j v' hv
    match j, hv with
    | 0, hv =>
     simp at hv; subst hv
     simpa [Addr.add_zero'] using hcell_on hon h1
  ·cases h
 ·cases h
end
end Go.Sx
namespace Go.Sx
structure CtxOK (P : Program) (C : Ctx) : Prop where
 ty : ∀ t i, C.tys.get t = some i → TyOK P t i
 fn : ∀ g fn, C.fns.get g = some fn → P.funcs[g]? = some fn
 A : C.A = prim
 mixed : P.follows .mixedOrders = true
 eqs : ∀ t i, C.eqs.contains t = true → C.tys.get t = some i → ∀ (xs ys : List Int) (w : World), xs.length = i.size → ys.length = i.size → ∀ x y : Operand,
  (do eqGuard .eql t x y (.agg (xs.map (Value.int .i64)).toArray) (.agg (ys.map (Value.int .i64)).toArray); binOp .eql t (.agg (xs.map (Value.int .i64)).toArray) (.agg (ys.map (Value.int .i64)).toArray) : Sem Value).run P w = .ok (.bool (xs == ys)) w ∧
  (do eqGuard .neq t x y (.agg (xs.map (Value.int .i64)).toArray) (.agg (ys.map (Value.int .i64)).toArray); binOp .neq t (.agg (xs.map (Value.int .i64)).toArray) (.agg (ys.map (Value.int .i64)).toArray) : Sem Value).run P w = .ok (.bool (!(xs == ys))) w
 ers : ∀ T, C.ers.contains T = true → ∃ inf e ie, P.info? T = some inf ∧ inf.comparable = true ∧ P.underlying T = some (.pointer e) ∧ P.info? e = some ie ∧ ie.size ≠ 0
section
variable {P : Program} {C : Ctx} {K : Kx} {H : Mem} {E : Env} {w : World}
def QOut (P : Program) (H : Mem) (E : Env) (w : World) (c : Core) (a : Act) (o : Oper) (φ : SV × Core → Prop) : Prop :=
 ∃ (p : SV × Core) (v : Value), φ p ∧ p.2 = c ∧ Den H E p.1 v ∧ ∀ w', Agr H E c.hp w w' → H.on w' → (execOp a.eval o).run P w' = .ok (.value v) w'
def QP (P : Program) (H : Mem) (E : Env) (c : Core) (a : Act) (o : Oper) (φ : SV × Core → Prop) : Prop :=
 ∃ (p : SV × Core) (v : Value), φ p ∧ p.2 = c ∧ Den H E p.1 v ∧ ∀ w', (execOp a.eval o).run P w' = .ok (.value v) w'
theorem QP.q {c : Core} {a : Act} {o : Oper} {φ : SV × Core → Prop} (h : QP P H E c a o φ) : QOut P H E w c a o φ :=
 let ⟨p, v, h1, h2, h3, h4⟩ := h; ⟨p, v, h1, h2, h3, fun w' _ _ => h4 w'⟩
theorem retO_all {c : Core} {x : Option SV} {φ : SV × Core → Prop} (h : (retO c x).All φ) : ∃ v, x = some v ∧ φ (v, c) := by
 cases x with
 | none => exact h.elim
 | some v => exact ⟨v, rfl, h⟩
theorem q_move {c : Core} {a : Act} {o : Oper} {x : Operand} {φ : SV × Core → Prop} (ho : o.op = .move x ∨ o.op = .assign x) (hd : DenL H E c.tm a.tmps.toList)
  (h : (ret c (evL c.tm x)).All φ) : QP P H E c a o φ := by
 refine ⟨_, a.eval x, h, rfl, den_ev hd x, fun w' => ?_⟩
 rcases ho with ho | ho <;> simp [execOp, ho]
theorem boolOf_spec {x : SV} {b : Bool} {u : Value} (h : boolOf x = some b) (hd : Den H E x u) : u = .bool b := by
 cases x <;> simp [boolOf] at h
 all_goals (subst h; exact hd)
theorem q_pick {c : Core} {a : Act} {o : Oper} {x y z : Operand} {φ : SV × Core → Prop} (hA : C.A = prim) (ho : o.op = .pick x y z) (hd : DenL H E c.tm a.tmps.toList)
  (h : (retO c (pickS C.A (evL c.tm x) (evL c.tm y) (evL c.tm z))).All φ) : QP P H E c a o φ := by
 obtain ⟨v, hv, hφ⟩ := retO_all h
 have dx := den_ev (H := H) (E := E) hd x
 have dy := den_ev (H := H) (E := E) hd y
 have dz := den_ev (H := H) (E := E) hd z
 unfold pickS at hv
 split at hv
 ·rename_i hx
  rw [hx] at dx
  cases hv
  refine ⟨_, a.eval y, hφ, rfl, dy, fun w' => ?_⟩
  simp only [Den] at dx
  simp [execOp, ho, dx, asBool]
 ·rename_i hx
  rw [hx] at dx
  cases hv
  refine ⟨_, a.eval z, hφ, rfl, dz, fun w' => ?_⟩
  simp only [Den] at dx
  simp [execOp, ho, dx, asBool]
 ·rename_i b hx
  rw [hx] at dx
  simp only [Den] at dx
  split at hv
  ·rename_i p q hp hq
   cases hv
   have ep := boolOf_spec hp dy
   have eq := boolOf_spec hq dz
   refine ⟨_, .bool (bif b then p else q), hφ, rfl, ?_, fun w' => ?_⟩
   ·rw [hA]; rfl
   ·cases b <;> simp [execOp, ho, dx, asBool, ep, eq]
  ·cases hv
 ·cases hv
theorem q_not {c : Core} {a : Act} {o : Oper} {t : Nat} {x : Operand} {φ : SV × Core → Prop} (hA : C.A = prim) (ho : o.op = .unOp .not t x) (hd : DenL H E c.tm a.tmps.toList)
  (h : (retO c (notS C.A (evL c.tm x))).All φ) : QP P H E c a o φ := by
 obtain ⟨v, hv, hφ⟩ := retO_all h
 have dx := den_ev (H := H) (E := E) hd x
 unfold notS at hv
 split at hv <;> cases hv
 all_goals
  rename_i b hx
  rw [hx] at dx
  simp only [Den] at dx
  refine ⟨_, .bool (!b), hφ, rfl, ?_, fun w' => by simp [execOp, ho, dx, Op.unary]⟩
 ·rfl
 ·rw [hA]; rfl
theorem q_neg {c : Core} {a : Act} {o : Oper} {t : Nat} {x : Operand} {φ : SV × Core → Prop} (hA : C.A = prim) (ho : o.op = .unOp .neg t x) (hd : DenL H E c.tm a.tmps.toList)
  (h : (retO c (negS C.A (evL c.tm x))).All φ) : QP P H E c a o φ := by
 obtain ⟨v, hv, hφ⟩ := retO_all h
 have dx := den_ev (H := H) (E := E) hd x
 unfold negS at hv
 split at hv <;> cases hv
 all_goals
  rename_i k n hx
  rw [hx] at dx
  simp only [Den] at dx
  refine ⟨_, .int k (k.wrap (0 - n)), hφ, rfl, ?_, fun w' => by simp [execOp, ho, dx, Op.unary, Op.intArith]⟩
 ·rfl
 ·rw [hA]; rfl
theorem q_extract {c : Core} {a : Act} {o : Oper} {x : Operand} {i : Nat} {φ : SV × Core → Prop} (ho : o.op = .extract x i) (hd : DenL H E c.tm a.tmps.toList)
  (h : (execExtract c (evL c.tm x) i).All φ) : QP P H E c a o φ := by
 have dx := den_ev (H := H) (E := E) hd x
 unfold execExtract at h
 split at h
 ·rename_i l hx
  obtain ⟨v, hv, hφ⟩ := retO_all h
  rw [hx] at dx
  obtain ⟨vs, he, hl⟩ := dx
  obtain ⟨u, hu, hdu⟩ := hl.get hv
  refine ⟨_, u, hφ, rfl, hdu, fun w' => ?_⟩
  rw [Array.getElem?_toList] at hu
  simp [execOp, ho, he, Instr.extract, hu]
 ·exact h.elim
theorem q_makeFunc {c : Core} {a : Act} {o : Oper} {f : Nat} {fs cs : Array Operand} {φ : SV × Core → Prop} (ho : o.op = .makeFunc (.func f) fs cs) (hd : DenL H E c.tm a.tmps.toList)
  (h : (bif fs.size == 0 then ret c (.fn f (cs.toList.map (evL c.tm))) else .fail).All φ) : QP P H E c a o φ := by
 cases hf : (fs.size == 0) <;> simp only [hf, cond_true, cond_false] at h
 ·exact h.elim
 have hf : fs = #[] := by simpa using hf
 subst hf
 have key : ∀ l : List Operand, DenL H E (l.map (evL c.tm)) (l.map a.eval) := by
  intro l
  induction l with
  | nil => trivial
  | cons x l ih => exact ⟨den_ev hd x, ih⟩
 refine ⟨_, .func (.func f) #[] (cs.map a.eval), h, rfl, ⟨cs.map a.eval, rfl, by simpa using key cs.toList⟩, fun w' => ?_⟩
 simp [execOp, ho, Instr.makeFunc]
theorem q_nil {c : Core} {a : Act} {o : Oper} {x : Operand} {φ : SV × Core → Prop} (ho : o.op = .nilCheck x) (hd : DenL H E c.tm a.tmps.toList)
  (h : (execNil c (evL c.tm x)).All φ) : QP P H E c a o φ := by
 have dx := den_ev (H := H) (E := E) hd x
 unfold execNil at h
 split at h
 ·rename_i i off hx
  rw [hx] at dx
  have dx' := dx
  obtain ⟨b, _, he⟩ := dx
  exact ⟨_, a.eval x, h, rfl, dx', fun w' => by simp [execOp, ho, he]⟩
 ·rename_i i st j off hx
  rw [hx] at dx
  have dx' := dx
  obtain ⟨b, _, _, _, _, he⟩ := dx
  exact ⟨_, a.eval x, h, rfl, dx', fun w' => by simp [execOp, ho, he]⟩
 ·rename_i st n g i off hx
  rw [hx] at dx
  have dx' := dx
  obtain ⟨b, _, _, he, _⟩ := dx
  exact ⟨_, a.eval x, h, rfl, dx', fun w' => by simp [execOp, ho, he]⟩
 ·rename_i f l hx
  rw [hx] at dx
  have dx' := dx
  obtain ⟨vs, he, _⟩ := dx
  exact ⟨_, a.eval x, h, rfl, dx', fun w' => by simp [execOp, ho, he]⟩
 ·exact h.elim
theorem q_load {c : Core} {a : Act} {o : Oper} {t : Nat} {x : Operand} {φ : SV × Core → Prop} (hC : CtxOK P C) (ho : o.op = .load t x) (hd : DenL H E c.tm a.tmps.toList)
  (hh : HeapOK K H E w c.hp) (hg : GlobOK C.gls H) (h : (execLoad C c t (evL c.tm x)).All φ) : QOut P H E w c a o φ := by
 have dx := den_ev (H := H) (E := E) hd x
 unfold execLoad at h
 split at h
 ·rename_i i hi
  have ht := hC.ty _ _ hi
  obtain ⟨sv, hs, hφ⟩ := retO_all h
  obtain ⟨ad, cs, he, hl, hden, hc⟩ := loadS_spec dx hh hg (fun e => by obtain ⟨_, _, _, _, _, _, _, _, _, h1⟩ := ht.info; exact (h1 e).1) hs
  refine ⟨_, _, hφ, rfl, hden, fun w' ha hon => ?_⟩
  have := load_run (w := w') ht hl (hc w' ha hon)
  simp [execOp, ho, Instr.loadAt, he, Instr.sureAddr, this, vpack]
 ·exact h.elim
theorem fields_at {fields : Array Field} {fs : List (Nat × Nat × Bool)} (hf : FieldsOK P fields fs) {j off size : Nat} {agg : Bool} (h : fs[j]? = some (off, size, agg)) :
  ∃ (f : Field) (inf : TypeInfo), fields[j]? = some f ∧ f.offset = off ∧ P.info? f.type = some inf ∧ inf.size = size ∧ (P.underlying f.type).isSome = true ∧
   (match P.underlying f.type with | some (.struct _) | some (.array _ _) => true | _ => false) = agg := by
 obtain ⟨h1, h2⟩ := hf
 have hj : j < fields.size := by rw [h1]; exact (List.getElem?_eq_some_iff.1 h).1
 have hfj : fields[j]? = some fields[j] := Array.getElem?_eq_getElem hj
 obtain ⟨inf, hi, he, hs⟩ := h2 j _ hfj
 rw [h] at he
 simp only [Option.some.injEq, Prod.mk.injEq] at he
 exact ⟨_, inf, hfj, he.1.symm, hi, he.2.1.symm, hs, he.2.2.symm⟩
theorem blt_spec {n m : Nat} (h : Nat.blt n m = true) : n < m := Nat.le_of_ble_eq_true h
theorem fieldPlace_run {f : Field} {inf : TypeInfo} (hi : P.info? f.type = some inf) (hs : 0 < inf.size) (a : Addr) (w : World) : (fieldPlace a f).run P w = .ok (a.add f.offset) w := by
 unfold fieldPlace
 simp [sizeOf, typeInfo, hi, Nat.ne_of_gt hs]
theorem q_fieldAddr {c : Core} {a : Act} {o : Oper} {t f : Nat} {x : Operand} {φ : SV × Core → Prop} (hC : CtxOK P C) (ho : o.op = .fieldAddr t x f) (hd : DenL H E c.tm a.tmps.toList)
  (h : (execFieldAddr C c t f (evL c.tm x)).All φ) : QP P H E c a o φ := by
 have dx := den_ev (H := H) (E := E) hd x
 unfold execFieldAddr at h
 split at h
 ·rename_i i hi
  have ht := (hC.ty _ _ hi).desc
  split at h
  ·rename_i fs hty
   rw [hty] at ht
   obtain ⟨fields, hu, hf⟩ := ht
   split at h
   ·rename_i off size agg hfs
    cases hb : Nat.blt 0 size <;> simp only [hb, cond_true, cond_false] at h
    ·exact h.elim
    obtain ⟨fd, inf, h1, rfl, h2, h3, _⟩ := fields_at hf hfs
    have hp := fun (ad : Addr) (w' : World) => fieldPlace_run (P := P) h2 (by rw [h3]; exact blt_spec hb) ad w'
    split at h
    ·rename_i id off2 hx
     rw [hx] at dx
     obtain ⟨b, h4, he⟩ := dx
     refine ⟨_, .pointer (some ⟨b, off2 + fd.offset, none⟩), h, rfl, ⟨b, h4, rfl⟩, fun w' => ?_⟩
     simp [execOp, ho, Instr.fieldAt, run_underlying hu, h1, he, Instr.sureAddr, hp, Addr.add_lit]
    ·rename_i id st j off2 hx
     rw [hx] at dx
     obtain ⟨b, v, h4, h5, h6, he⟩ := dx
     refine ⟨_, .pointer (some ⟨b, j * st + off2 + fd.offset, none⟩), h, rfl, ⟨b, v, h4, h5, h6, by rw [Nat.add_assoc]⟩, fun w' => ?_⟩
     simp [execOp, ho, Instr.fieldAt, run_underlying hu, h1, he, Instr.sureAddr, hp, Addr.add_lit]
    ·rename_i st n g j off2 hx
     rw [hx] at dx
     obtain ⟨b, o2, cc, he, h4⟩ := dx
     refine ⟨_, .pointer (some ⟨b, o2 + off2 + fd.offset, none⟩), h, rfl, ⟨b, o2, cc, by rw [Nat.add_assoc], h4⟩, fun w' => ?_⟩
     simp [execOp, ho, Instr.fieldAt, run_underlying hu, h1, he, Instr.sureAddr, hp, Addr.add_lit]
    ·exact h.elim
   ·exact h.elim
  ·exact h.elim
 ·exact h.elim
theorem part_run {ty : Nat} {inf : TypeInfo} {agg : Bool} (hi : P.info? ty = some inf) (hs : (P.underlying ty).isSome = true)
  (ha : (match P.underlying ty with | some (.struct _) | some (.array _ _) => true | _ => false) = agg) {cs : List Value} {off : Nat} (hl : off + inf.size ≤ cs.length) (h1 : agg = false → inf.size = 1) (w : World) :
  (part ty cs.toArray off).run P w = .ok (vpack agg ((cs.drop off).take inf.size)) w := by
 cases hu : P.underlying ty with
 | none => simp [hu] at hs
 | some d =>
  rw [hu] at ha
  have hag : (isAgg ty).run P w = .ok agg w := by
   unfold isAgg
   simp only [Sem.run_bind, run_underlying hu, Result.andThen_ok]
   cases d <;> simp_all
  unfold part
  simp only [Sem.run_bind, hag, Result.andThen_ok]
  cases agg
  ·have h1 := h1 rfl
   have hlt : off < cs.length := by omega
   rw [h1]
   have : (cs.drop off).take 1 = [cs[off]] := by rw [List.drop_eq_getElem_cons hlt]; rfl
   simp [this, vpack, hlt]
  ·simp [sizeOf, typeInfo, hi, vpack, List.extract_eq_take_drop]
theorem q_field {c : Core} {a : Act} {o : Oper} {t f : Nat} {x : Operand} {φ : SV × Core → Prop} (hC : CtxOK P C) (ho : o.op = .field t x f) (hd : DenL H E c.tm a.tmps.toList)
  (h : (execField C c t f (evL c.tm x)).All φ) : QP P H E c a o φ := by
 have dx := den_ev (H := H) (E := E) hd x
 unfold execField at h
 split at h
 ·rename_i i hi
  have ht := (hC.ty _ _ hi).desc
  split at h
  ·rename_i fs l hty hx
   rw [hty] at ht
   obtain ⟨fields, hu, hf⟩ := ht
   rw [hx] at dx
   obtain ⟨vs, he, hl⟩ := dx
   split at h
   ·rename_i off size agg hfs
    obtain ⟨sv, hs, hφ⟩ := retO_all h
    obtain ⟨fd, inf, h1, rfl, h2, h3, h4, h5⟩ := fields_at hf hfs
    subst h3
    cases hsg : seg l fd.offset inf.size with
    | none => simp [hsg] at hs
    | some r =>
     simp only [hsg, Option.bind_some] at hs
     obtain ⟨hle, rfl⟩ := seg_spec hsg
     have hlen := hl.length
     refine ⟨_, vpack agg ((vs.toList.drop fd.offset).take inf.size), hφ, rfl, den_pack hs ((hl.drop _).take _), fun w' => ?_⟩
     have hp := part_run (P := P) h2 h4 h5 (cs := vs.toList) (off := fd.offset) (by rw [hlen]; exact hle) (fun e => by
      subst e
      rcases pack_spec hs with ⟨e, _⟩ | ⟨_, e⟩
      ·cases e
      ·have := congrArg List.length e
       simp [List.length_take, List.length_drop] at this
       omega) w'
     simp [execOp, ho, Instr.field, run_underlying hu, h1, he, asAgg] at hp ⊢
     simp [hp]
   ·exact h.elim
  ·exact h.elim
 ·exact h.elim
end
end Go.Sx
