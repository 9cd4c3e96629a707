/-
  Tables of chapters 6 and 7: types, functions, masks. Written by program (gentab2.py, bt.py). Chapters 6 and 7: the context. Summaries out of the shelf's contracts: results without memory of their own. A summary's fresh slices, told as slices that will not change any more. Chapters 6 and 7 in plain terms: objects, events, lists of them as shapes. DERIVED: THE SHELF's CONTRACTS AT THIS DUMP, IN PLAIN WORDS (tools/lay-plain.mjs out of 'TryzSaShelf.lean', which tools/lay-shelf.mjs wrote): THE SAME DECLARATIONS UNDER THE SAME NAMES: 'import', 'namespace', 'open', 'def', 'theorem' AND NOTHING ELSE: no command of the shelf's: FOR A HAND-IN. Each laying: the table of numbers ('.._ren') and one theorem, a field a fact of the dump's own or the kernel's comparison; each contract: ONE APPLICATION. Summaries of Go's library: the numeral of an int; strings joined. Out of the shelf's contracts. Chapter 6: a string cut at a byte: the walk. Chapter 6: summaries of Go's library: a string cut, split; an int's numeral read. Summaries that say less than the run shows: own slices taken for good, an empty slice of any width, a slice by its elements. Chapters 6 and 7: copies of lists and their comparison; evaluated. Chapters 6 and 7: summaries of the functions that copy ints, and that compare them. Chapters 6 and 7: functions without loops; evaluated. Chapters 6 and 7: summaries of functions without loops: lists that never change, of ints, strings, states; words of objects; whether an object may be.
-/
import Derived.Test.YtikaakiadiaeoaaGreatDoorB06
import Derived.Test.YtikaakiadiaeoaaGreatDoorProg
import Derived.Shelf.Strings.Builder1
import Derived.Shelf.Strings.Builder2
import Derived.Shelf.Strings.OnBuilder
import Derived.Shelf.Strconv.Itoa0
import Derived.Shelf.Strconv.Itoa1
import Derived.Shelf.LaysM
import Derived.Shelf.Strconv.Itoa2
import Derived.Shelf.Strconv.Itoa3
import Derived.WalkKit
import Derived.Lib.CutLaws
namespace Go.Proofs
open Go Go.Sx
def Tryz.tys : BT TyI := (.node (.node (.node (.node (.node (.node (.node (.node .nil 1 ⟨.fn, 1, 8, [.nilf]⟩ .nil) 2 ⟨.int .i64, 1, 8, [.int .i64 0]⟩ (.node .nil 3 ⟨.int .i64, 1, 8, [.int .i64 0]⟩ .nil)) 4 ⟨.bool, 1, 1, [.bool false]⟩ (.node (.node .nil 5 ⟨.int .u8, 1, 1, [.int .u8 0]⟩ .nil) 7 ⟨.struct [(0, 1, false), (1, 1, false), (2, 1, false), (3, 1, false)], 4, 24, [.int .i64 0, .int .i64 0, .bool false, .int .u8 0]⟩ (.node .nil 9 ⟨.str, 1, 16, [.str []]⟩ .nil))) 12 ⟨.int .u64, 1, 8, [.int .u64 0]⟩ (.node (.node (.node .nil 13 ⟨.struct [(0, 1, false), (1, 1, false)], 2, 24, [.str [], .int .u64 0]⟩ .nil) 15 ⟨.ptr 249, 1, 8, [.nilp]⟩ (.node .nil 16 ⟨.ptr 252, 1, 8, [.nilp]⟩ .nil)) 17 ⟨.ptr 259, 1, 8, [.nilp]⟩ (.node (.node .nil 18 ⟨.struct [(0, 1, false)], 1, 8, [.nilp]⟩ .nil) 20 ⟨.iface, 1, 16, [.nili]⟩ .nil))) 21 ⟨.int .i32, 1, 4, [.int .i32 0]⟩ (.node (.node (.node (.node .nil 22 ⟨.slice 3, 1, 24, [.nils]⟩ .nil) 23 ⟨.fn, 1, 8, [.nilf]⟩ (.node .nil 24 ⟨.fn, 1, 8, [.nilf]⟩ .nil)) 25 ⟨.struct [(0, 1, false)], 1, 24, [.nils]⟩ (.node (.node .nil 26 ⟨.struct [(0, 1, false)], 1, 24, [.nils]⟩ .nil) 27 ⟨.fn, 1, 8, [.nilf]⟩ .nil)) 28 ⟨.fn, 1, 8, [.nilf]⟩ (.node (.node (.node .nil 29 ⟨.fn, 1, 8, [.nilf]⟩ .nil) 31 ⟨.fn, 1, 8, [.nilf]⟩ (.node .nil 32 ⟨.fn, 1, 8, [.nilf]⟩ .nil)) 33 ⟨.fn, 1, 8, [.nilf]⟩ (.node (.node .nil 34 ⟨.slice 9, 1, 24, [.nils]⟩ .nil) 35 ⟨.struct [(0, 1, false)], 1, 24, [.nils]⟩ .nil)))) 36 ⟨.struct [(0, 1, false)], 1, 24, [.nils]⟩ (.node (.node (.node (.node (.node .nil 37 ⟨.fn, 1, 8, [.nilf]⟩ .nil) 38 ⟨.fn, 1, 8, [.nilf]⟩ (.node .nil 39 ⟨.fn, 1, 8, [.nilf]⟩ .nil)) 40 ⟨.fn, 1, 8, [.nilf]⟩ (.node (.node .nil 41 ⟨.slice 87, 1, 24, [.nils]⟩ .nil) 42 ⟨.slice 63, 1, 24, [.nils]⟩ .nil)) 43 ⟨.slice 72, 1, 24, [.nils]⟩ (.node (.node (.node .nil 44 ⟨.struct [(0, 1, false)], 1, 24, [.nils]⟩ .nil) 45 ⟨.struct [(0, 1, false)], 1, 24, [.nils]⟩ (.node .nil 46 ⟨.struct [(0, 1, true)], 1, 24, [.nils]⟩ .nil)) 47 ⟨.struct [(0, 1, true)], 1, 24, [.nils]⟩ (.node (.node .nil 48 ⟨.slice 76, 1, 24, [.nils]⟩ .nil) 50 ⟨.fn, 1, 8, [.nilf]⟩ .nil))) 51 ⟨.iface, 1, 16, [.nili]⟩ (.node (.node (.node (.node .nil 52 ⟨.iface, 1, 16, [.nili]⟩ .nil) 54 ⟨.fn, 1, 8, [.nilf]⟩ (.node .nil 55 ⟨.struct [(0, 1, false), (1, 1, false)], 2, 32, [.int .i64 0, .nils]⟩ .nil)) 56 ⟨.struct [(0, 1, false), (1, 1, false)], 2, 32, [.int .i64 0, .nils]⟩ (.node (.node .nil 58 ⟨.fn, 1, 8, [.nilf]⟩ .nil) 59 ⟨.fn, 1, 8, [.nilf]⟩ .nil)) 60 ⟨.fn, 1, 8, [.nilf]⟩ (.node (.node (.node .nil 61 ⟨.fn, 1, 8, [.nilf]⟩ .nil) 62 ⟨.struct [(0, 1, false), (1, 1, false), (2, 1, false), (3, 1, false)], 4, 32, [.int .i64 0, .int .i64 0, .int .i64 0, .int .i64 0]⟩ (.node .nil 63 ⟨.struct [(0, 1, false), (1, 1, false), (2, 1, false), (3, 1, false)], 4, 32, [.int .i64 0, .int .i64 0, .int .i64 0, .int .i64 0]⟩ .nil)) 65 ⟨.fn, 1, 8, [.nilf]⟩ (.node (.node .nil 66 ⟨.fn, 1, 8, [.nilf]⟩ .nil) 67 ⟨.fn, 1, 8, [.nilf]⟩ .nil))))) 68 ⟨.fn, 1, 8, [.nilf]⟩ (.node (.node (.node (.node (.node (.node .nil 69 ⟨.fn, 1, 8, [.nilf]⟩ .nil) 70 ⟨.slice 116, 1, 24, [.nils]⟩ (.node .nil 71 ⟨.struct [(0, 1, false), (1, 1, false), (2, 1, false), (3, 1, false)], 4, 64, [.int .i64 0, .int .i64 0, .nils, .nils]⟩ .nil)) 72 ⟨.struct [(0, 1, false), (1, 1, false), (2, 1, false), (3, 1, false)], 4, 64, [.int .i64 0, .int .i64 0, .nils, .nils]⟩ (.node (.node .nil 74 ⟨.fn, 1, 8, [.nilf]⟩ .nil) 75 ⟨.struct [(0, 1, false), (1, 1, false), (2, 1, false), (3, 1, false)], 4, 64, [.int .i64 0, .int .i64 0, .nils, .nils]⟩ .nil)) 76 ⟨.struct [(0, 1, false), (1, 1, false), (2, 1, false), (3, 1, false)], 4, 64, [.int .i64 0, .int .i64 0, .nils, .nils]⟩ (.node (.node (.node .nil 77 ⟨.fn, 1, 8, [.nilf]⟩ .nil) 78 ⟨.fn, 1, 8, [.nilf]⟩ (.node .nil 79 ⟨.fn, 1, 8, [.nilf]⟩ .nil)) 80 ⟨.fn, 1, 8, [.nilf]⟩ (.node (.node .nil 81 ⟨.fn, 1, 8, [.nilf]⟩ .nil) 82 ⟨.fn, 1, 8, [.nilf]⟩ .nil))) 83 ⟨.slice 91, 1, 24, [.nils]⟩ (.node (.node (.node (.node .nil 85 ⟨.fn, 1, 8, [.nilf]⟩ .nil) 86 ⟨.struct [(0, 1, false), (1, 1, false)], 2, 16, [.int .i64 0, .int .i64 0]⟩ (.node .nil 87 ⟨.struct [(0, 1, false), (1, 1, false)], 2, 16, [.int .i64 0, .int .i64 0]⟩ .nil)) 89 ⟨.fn, 1, 8, [.nilf]⟩ (.node (.node .nil 90 ⟨.struct [(0, 1, false), (1, 1, false), (2, 1, false)], 3, 24, [.int .i64 0, .int .i64 0, .int .i64 0]⟩ .nil) 91 ⟨.struct [(0, 1, false), (1, 1, false), (2, 1, false)], 3, 24, [.int .i64 0, .int .i64 0, .int .i64 0]⟩ .nil)) 92 ⟨.fn, 1, 8, [.nilf]⟩ (.node (.node (.node .nil 93 ⟨.fn, 1, 8, [.nilf]⟩ .nil) 94 ⟨.fn, 1, 8, [.nilf]⟩ (.node .nil 95 ⟨.fn, 1, 8, [.nilf]⟩ .nil)) 96 ⟨.fn, 1, 8, [.nilf]⟩ (.node (.node .nil 97 ⟨.fn, 1, 8, [.nilf]⟩ .nil) 98 ⟨.fn, 1, 8, [.nilf]⟩ .nil)))) 100 ⟨.fn, 1, 8, [.nilf]⟩ (.node (.node (.node (.node (.node .nil 101 ⟨.fn, 1, 8, [.nilf]⟩ .nil) 102 ⟨.fn, 1, 8, [.nilf]⟩ (.node .nil 103 ⟨.slice 142, 1, 24, [.nils]⟩ .nil)) 104 ⟨.struct [(0, 1, false), (1, 1, false)], 2, 48, [.nils, .nils]⟩ (.node (.node .nil 105 ⟨.struct [(0, 1, false), (1, 1, false)], 2, 48, [.nils, .nils]⟩ .nil) 106 ⟨.fn, 1, 8, [.nilf]⟩ .nil)) 107 ⟨.fn, 1, 8, [.nilf]⟩ (.node (.node (.node .nil 109 ⟨.fn, 1, 8, [.nilf]⟩ .nil) 110 ⟨.fn, 1, 8, [.nilf]⟩ (.node .nil 111 ⟨.fn, 1, 8, [.nilf]⟩ .nil)) 112 ⟨.fn, 1, 8, [.nilf]⟩ (.node (.node .nil 113 ⟨.fn, 1, 8, [.nilf]⟩ .nil) 114 ⟨.fn, 1, 8, [.nilf]⟩ .nil))) 115 ⟨.struct [(0, 1, false), (1, 1, false)], 2, 16, [.int .i64 0, .int .i64 0]⟩ (.node (.node (.node (.node .nil 116 ⟨.struct [(0, 1, false), (1, 1, false)], 2, 16, [.int .i64 0, .int .i64 0]⟩ .nil) 117 ⟨.fn, 1, 8, [.nilf]⟩ (.node .nil 118 ⟨.slice 5, 1, 24, [.nils]⟩ .nil)) 119 ⟨.fn, 1, 8, [.nilf]⟩ (.node (.node .nil 120 ⟨.fn, 1, 8, [.nilf]⟩ .nil) 121 ⟨.fn, 1, 8, [.nilf]⟩ .nil)) 122 ⟨.fn, 1, 8, [.nilf]⟩ (.node (.node (.node .nil 123 ⟨.fn, 1, 8, [.nilf]⟩ .nil) 124 ⟨.fn, 1, 8, [.nilf]⟩ (.node .nil 126 ⟨.fn, 1, 8, [.nilf]⟩ .nil)) 127 ⟨.fn, 1, 8, [.nilf]⟩ (.node (.node .nil 128 ⟨.map 3 127, 1, 8, [.nilm]⟩ .nil) 129 ⟨.fn, 1, 8, [.nilf]⟩ .nil)))))) 130 ⟨.fn, 1, 8, [.nilf]⟩ (.node (.node (.node (.node (.node (.node (.node .nil 131 ⟨.fn, 1, 8, [.nilf]⟩ .nil) 132 ⟨.fn, 1, 8, [.nilf]⟩ (.node .nil 134 ⟨.fn, 1, 8, [.nilf]⟩ .nil)) 135 ⟨.fn, 1, 8, [.nilf]⟩ (.node (.node .nil 137 ⟨.fn, 1, 8, [.nilf]⟩ .nil) 138 ⟨.fn, 1, 8, [.nilf]⟩ (.node .nil 139 ⟨.fn, 1, 8, [.nilf]⟩ .nil))) 140 ⟨.fn, 1, 8, [.nilf]⟩ (.node (.node (.node .nil 141 ⟨.struct [(0, 1, false), (1, 1, false), (2, 1, false), (3, 1, false), (4, 1, false), (5, 1, false), (6, 1, false), (7, 1, false)], 8, 64, [.int .i64 0, .int .i64 0, .int .i64 0, .int .i64 0, .int .i64 0, .int .i64 0, .int .i64 0, .int .i64 0]⟩ .nil) 142 ⟨.struct [(0, 1, false), (1, 1, false), (2, 1, false), (3, 1, false), (4, 1, false), (5, 1, false), (6, 1, false), (7, 1, false)], 8, 64, [.int .i64 0, .int .i64 0, .int .i64 0, .int .i64 0, .int .i64 0, .int .i64 0, .int .i64 0, .int .i64 0]⟩ (.node .nil 143 ⟨.fn, 1, 8, [.nilf]⟩ .nil)) 144 ⟨.fn, 1, 8, [.nilf]⟩ (.node (.node .nil 145 ⟨.fn, 1, 8, [.nilf]⟩ .nil) 146 ⟨.fn, 1, 8, [.nilf]⟩ .nil))) 147 ⟨.fn, 1, 8, [.nilf]⟩ (.node (.node (.node (.node .nil 148 ⟨.fn, 1, 8, [.nilf]⟩ .nil) 149 ⟨.fn, 1, 8, [.nilf]⟩ (.node .nil 150 ⟨.ptr 152, 1, 8, [.nilp]⟩ .nil)) 151 ⟨.struct [(0, 1, false), (1, 1, false)], 2, 32, [.nilp, .nils]⟩ (.node (.node .nil 152 ⟨.struct [(0, 1, false), (1, 1, false)], 2, 32, [.nilp, .nils]⟩ .nil) 153 ⟨.fn, 1, 8, [.nilf]⟩ .nil)) 155 ⟨.fn, 1, 8, [.nilf]⟩ (.node (.node (.node .nil 157 ⟨.fn, 1, 8, [.nilf]⟩ .nil) 158 ⟨.fn, 1, 8, [.nilf]⟩ (.node .nil 159 ⟨.fn, 1, 8, [.nilf]⟩ .nil)) 160 ⟨.fn, 1, 8, [.nilf]⟩ (.node (.node .nil 162 ⟨.fn, 1, 8, [.nilf]⟩ .nil) 163 ⟨.fn, 1, 8, [.nilf]⟩ .nil)))) 164 ⟨.fn, 1, 8, [.nilf]⟩ (.node (.node (.node (.node (.node .nil 165 ⟨.fn, 1, 8, [.nilf]⟩ .nil) 166 ⟨.fn, 1, 8, [.nilf]⟩ (.node .nil 167 ⟨.ptr 169, 1, 8, [.nilp]⟩ .nil)) 168 ⟨.struct [(0, 1, false), (1, 1, false)], 2, 24, [.int .i64 0, .nili]⟩ (.node (.node .nil 169 ⟨.struct [(0, 1, false), (1, 1, false)], 2, 24, [.int .i64 0, .nili]⟩ .nil) 170 ⟨.fn, 1, 8, [.nilf]⟩ .nil)) 171 ⟨.map 3 170, 1, 8, [.nilm]⟩ (.node (.node (.node .nil 172 ⟨.fn, 1, 8, [.nilf]⟩ .nil) 173 ⟨.fn, 1, 8, [.nilf]⟩ (.node .nil 174 ⟨.struct [(0, 1, false), (1, 1, false), (2, 1, false), (3, 1, false)], 4, 32, [.nilf, .int .i64 0, .int .i64 0, .int .i64 0]⟩ .nil)) 175 ⟨.struct [(0, 1, false), (1, 1, false), (2, 1, false), (3, 1, false)], 4, 32, [.nilf, .int .i64 0, .int .i64 0, .int .i64 0]⟩ (.node (.node .nil 177 ⟨.ptr 3, 1, 8, [.nilp]⟩ .nil) 178 ⟨.ptr 142, 1, 8, [.nilp]⟩ .nil))) 179 ⟨.fn, 1, 8, [.nilf]⟩ (.node (.node (.node (.node .nil 180 ⟨.ptr 5, 1, 8, [.nilp]⟩ .nil) 181 ⟨.fn, 1, 8, [.nilf]⟩ (.node .nil 182 ⟨.arr 4 9, 4, 64, [.str [], .str [], .str [], .str []]⟩ .nil)) 183 ⟨.arr 7 9, 7, 112, [.str [], .str [], .str [], .str [], .str [], .str [], .str []]⟩ (.node (.node .nil 184 ⟨.arr 9 9, 9, 144, [.str [], .str [], .str [], .str [], .str [], .str [], .str [], .str [], .str []]⟩ .nil) 185 ⟨.arr 3 9, 3, 48, [.str [], .str [], .str []]⟩ .nil)) 186 ⟨.fn, 1, 8, [.nilf]⟩ (.node (.node (.node .nil 187 ⟨.fn, 1, 8, [.nilf]⟩ .nil) 188 ⟨.fn, 1, 8, [.nilf]⟩ (.node .nil 189 ⟨.slice 70, 1, 24, [.nils]⟩ .nil)) 190 ⟨.fn, 1, 8, [.nilf]⟩ (.node (.node .nil 191 ⟨.fn, 1, 8, [.nilf]⟩ .nil) 192 ⟨.fn, 1, 8, [.nilf]⟩ .nil))))) 193 ⟨.fn, 1, 8, [.nilf]⟩ (.node (.node (.node (.node (.node (.node .nil 194 ⟨.slice 175, 1, 24, [.nils]⟩ .nil) 195 ⟨.fn, 1, 8, [.nilf]⟩ (.node .nil 196 ⟨.fn, 1, 8, [.nilf]⟩ .nil)) 197 ⟨.fn, 1, 8, [.nilf]⟩ (.node (.node .nil 198 ⟨.fn, 1, 8, [.nilf]⟩ .nil) 199 ⟨.fn, 1, 8, [.nilf]⟩ .nil)) 200 ⟨.fn, 1, 8, [.nilf]⟩ (.node (.node (.node .nil 202 ⟨.fn, 1, 8, [.nilf]⟩ .nil) 203 ⟨.fn, 1, 8, [.nilf]⟩ (.node .nil 204 ⟨.fn, 1, 8, [.nilf]⟩ .nil)) 205 ⟨.int .u64, 1, 8, [.int .u64 0]⟩ (.node (.node .nil 206 ⟨.fn, 1, 8, [.nilf]⟩ .nil) 208 ⟨.fn, 1, 8, [.nilf]⟩ .nil))) 209 ⟨.fn, 1, 8, [.nilf]⟩ (.node (.node (.node (.node .nil 210 ⟨.int .i64, 1, 8, [.int .i64 0]⟩ .nil) 212 ⟨.fn, 1, 8, [.nilf]⟩ (.node .nil 213 ⟨.ptr 230, 1, 8, [.nilp]⟩ .nil)) 214 ⟨.fn, 1, 8, [.nilf]⟩ (.node (.node .nil 215 ⟨.fn, 1, 8, [.nilf]⟩ .nil) 216 ⟨.arr 24 5, 24, 24, [.int .u8 0, .int .u8 0, .int .u8 0, .int .u8 0, .int .u8 0, .int .u8 0, .int .u8 0, .int .u8 0, .int .u8 0, .int .u8 0, .int .u8 0, .int .u8 0, .int .u8 0, .int .u8 0, .int .u8 0, .int .u8 0, .int .u8 0, .int .u8 0, .int .u8 0, .int .u8 0, .int .u8 0, .int .u8 0, .int .u8 0, .int .u8 0]⟩ .nil)) 217 ⟨.int .u64, 1, 8, [.int .u64 0]⟩ (.node (.node (.node .nil 218 ⟨.fn, 1, 8, [.nilf]⟩ .nil) 219 ⟨.fn, 1, 8, [.nilf]⟩ (.node .nil 221 ⟨.fn, 1, 8, [.nilf]⟩ .nil)) 222 ⟨.fn, 1, 8, [.nilf]⟩ (.node (.node .nil 223 ⟨.int .u32, 1, 4, [.int .u32 0]⟩ .nil) 225 ⟨.fn, 1, 8, [.nilf]⟩ .nil)))) 227 ⟨.fn, 1, 8, [.nilf]⟩ (.node (.node (.node (.node (.node .nil 228 ⟨.fn, 1, 8, [.nilf]⟩ .nil) 229 ⟨.struct [(0, 1, false), (1, 1, false), (2, 1, false)], 3, 48, [.str [], .str [], .nili]⟩ (.node .nil 230 ⟨.struct [(0, 1, false), (1, 1, false), (2, 1, false)], 3, 48, [.str [], .str [], .nili]⟩ .nil)) 231 ⟨.fn, 1, 8, [.nilf]⟩ (.node (.node .nil 232 ⟨.fn, 1, 8, [.nilf]⟩ .nil) 233 ⟨.arr 20 217, 20, 160, [.int .u64 0, .int .u64 0, .int .u64 0, .int .u64 0, .int .u64 0, .int .u64 0, .int .u64 0, .int .u64 0, .int .u64 0, .int .u64 0, .int .u64 0, .int .u64 0, .int .u64 0, .int .u64 0, .int .u64 0, .int .u64 0, .int .u64 0, .int .u64 0, .int .u64 0, .int .u64 0]⟩ .nil)) 234 ⟨.arr 65 5, 65, 65, [.int .u8 0, .int .u8 0, .int .u8 0, .int .u8 0, .int .u8 0, .int .u8 0, .int .u8 0, .int .u8 0, .int .u8 0, .int .u8 0, .int .u8 0, .int .u8 0, .int .u8 0, .int .u8 0, .int .u8 0, .int .u8 0, .int .u8 0, .int .u8 0, .int .u8 0, .int .u8 0, .int .u8 0, .int .u8 0, .int .u8 0, .int .u8 0, .int .u8 0, .int .u8 0, .int .u8 0, .int .u8 0, .int .u8 0, .int .u8 0, .int .u8 0, .int .u8 0, .int .u8 0, .int .u8 0, .int .u8 0, .int .u8 0, .int .u8 0, .int .u8 0, .int .u8 0, .int .u8 0, .int .u8 0, .int .u8 0, .int .u8 0, .int .u8 0, .int .u8 0, .int .u8 0, .int .u8 0, .int .u8 0, .int .u8 0, .int .u8 0, .int .u8 0, .int .u8 0, .int .u8 0, .int .u8 0, .int .u8 0, .int .u8 0, .int .u8 0, .int .u8 0, .int .u8 0, .int .u8 0, .int .u8 0, .int .u8 0, .int .u8 0, .int .u8 0, .int .u8 0]⟩ (.node (.node (.node .nil 235 ⟨.fn, 1, 8, [.nilf]⟩ .nil) 236 ⟨.arr 256 5, 256, 256, [.int .u8 0, .int .u8 0, .int .u8 0, .int .u8 0, .int .u8 0, .int .u8 0, .int .u8 0, .int .u8 0, .int .u8 0, .int .u8 0, .int .u8 0, .int .u8 0, .int .u8 0, .int .u8 0, .int .u8 0, .int .u8 0, .int .u8 0, .int .u8 0, .int .u8 0, .int .u8 0, .int .u8 0, .int .u8 0, .int .u8 0, .int .u8 0, .int .u8 0, .int .u8 0, .int .u8 0, .int .u8 0, .int .u8 0, .int .u8 0, .int .u8 0, .int .u8 0, .int .u8 0, .int .u8 0, .int .u8 0, .int .u8 0, .int .u8 0, .int .u8 0, .int .u8 0, .int .u8 0, .int .u8 0, .int .u8 0, .int .u8 0, .int .u8 0, .int .u8 0, .int .u8 0, .int .u8 0, .int .u8 0, .int .u8 0, .int .u8 0, .int .u8 0, .int .u8 0, .int .u8 0, .int .u8 0, .int .u8 0, .int .u8 0, .int .u8 0, .int .u8 0, .int .u8 0, .int .u8 0, .int .u8 0, .int .u8 0, .int .u8 0, .int .u8 0, .int .u8 0, .int .u8 0, .int .u8 0, .int .u8 0, .int .u8 0, .int .u8 0, .int .u8 0, .int .u8 0, .int .u8 0, .int .u8 0, .int .u8 0, .int .u8 0, .int .u8 0, .int .u8 0, .int .u8 0, .int .u8 0, .int .u8 0, .int .u8 0, .int .u8 0, .int .u8 0, .int .u8 0, .int .u8 0, .int .u8 0, .int .u8 0, .int .u8 0, .int .u8 0, .int .u8 0, .int .u8 0, .int .u8 0, .int .u8 0, .int .u8 0, .int .u8 0, .int .u8 0, .int .u8 0, .int .u8 0, .int .u8 0, .int .u8 0, .int .u8 0, .int .u8 0, .int .u8 0, .int .u8 0, .int .u8 0, .int .u8 0, .int .u8 0, .int .u8 0, .int .u8 0, .int .u8 0, .int .u8 0, .int .u8 0, .int .u8 0, .int .u8 0, .int .u8 0, .int .u8 0, .int .u8 0, .int .u8 0, .int .u8 0, .int .u8 0, .int .u8 0, .int .u8 0, .int .u8 0, .int .u8 0, .int .u8 0, .int .u8 0, .int .u8 0, .int .u8 0, .int .u8 0, .int .u8 0, .int .u8 0, .int .u8 0, .int .u8 0, .int .u8 0, .int .u8 0, .int .u8 0, .int .u8 0, .int .u8 0, .int .u8 0, .int .u8 0, .int .u8 0, .int .u8 0, .int .u8 0, .int .u8 0, .int .u8 0, .int .u8 0, .int .u8 0, .int .u8 0, .int .u8 0, .int .u8 0, .int .u8 0, .int .u8 0, .int .u8 0, .int .u8 0, .int .u8 0, .int .u8 0, .int .u8 0, .int .u8 0, .int .u8 0, .int .u8 0, .int .u8 0, .int .u8 0, .int .u8 0, .int .u8 0, .int .u8 0, .int .u8 0, .int .u8 0, .int .u8 0, .int .u8 0, .int .u8 0, .int .u8 0, .int .u8 0, .int .u8 0, .int .u8 0, .int .u8 0, .int .u8 0, .int .u8 0, .int .u8 0, .int .u8 0, .int .u8 0, .int .u8 0, .int .u8 0, .int .u8 0, .int .u8 0, .int .u8 0, .int .u8 0, .int .u8 0, .int .u8 0, .int .u8 0, .int .u8 0, .int .u8 0, .int .u8 0, .int .u8 0, .int .u8 0, .int .u8 0, .int .u8 0, .int .u8 0, .int .u8 0, .int .u8 0, .int .u8 0, .int .u8 0, .int .u8 0, .int .u8 0, .int .u8 0, .int .u8 0, .int .u8 0, .int .u8 0, .int .u8 0, .int .u8 0, .int .u8 0, .int .u8 0, .int .u8 0, .int .u8 0, .int .u8 0, .int .u8 0, .int .u8 0, .int .u8 0, .int .u8 0, .int .u8 0, .int .u8 0, .int .u8 0, .int .u8 0, .int .u8 0, .int .u8 0, .int .u8 0, .int .u8 0, .int .u8 0, .int .u8 0, .int .u8 0, .int .u8 0, .int .u8 0, .int .u8 0, .int .u8 0, .int .u8 0, .int .u8 0, .int .u8 0, .int .u8 0, .int .u8 0, .int .u8 0, .int .u8 0, .int .u8 0, .int .u8 0, .int .u8 0, .int .u8 0, .int .u8 0, .int .u8 0, .int .u8 0, .int .u8 0, .int .u8 0, .int .u8 0, .int .u8 0, .int .u8 0, .int .u8 0, .int .u8 0, .int .u8 0]⟩ (.node .nil 237 ⟨.struct [(0, 1, false), (1, 1, false)], 2, 2, [.int .u8 0, .int .u8 0]⟩ .nil)) 238 ⟨.struct [(0, 1, false), (1, 1, false)], 2, 2, [.int .u8 0, .int .u8 0]⟩ (.node (.node .nil 239 ⟨.arr 16 238, 32, 32, [.int .u8 0, .int .u8 0, .int .u8 0, .int .u8 0, .int .u8 0, .int .u8 0, .int .u8 0, .int .u8 0, .int .u8 0, .int .u8 0, .int .u8 0, .int .u8 0, .int .u8 0, .int .u8 0, .int .u8 0, .int .u8 0, .int .u8 0, .int .u8 0, .int .u8 0, .int .u8 0, .int .u8 0, .int .u8 0, .int .u8 0, .int .u8 0, .int .u8 0, .int .u8 0, .int .u8 0, .int .u8 0, .int .u8 0, .int .u8 0, .int .u8 0, .int .u8 0]⟩ .nil) 240 ⟨.fn, 1, 8, [.nilf]⟩ .nil))) 241 ⟨.fn, 1, 8, [.nilf]⟩ (.node (.node (.node (.node .nil 242 ⟨.ptr 244, 1, 8, [.nilp]⟩ .nil) 243 ⟨.struct [(0, 1, false)], 1, 16, [.str []]⟩ (.node .nil 244 ⟨.struct [(0, 1, false)], 1, 16, [.str []]⟩ .nil)) 245 ⟨.fn, 1, 8, [.nilf]⟩ (.node (.node .nil 246 ⟨.arr 32 5, 32, 32, [.int .u8 0, .int .u8 0, .int .u8 0, .int .u8 0, .int .u8 0, .int .u8 0, .int .u8 0, .int .u8 0, .int .u8 0, .int .u8 0, .int .u8 0, .int .u8 0, .int .u8 0, .int .u8 0, .int .u8 0, .int .u8 0, .int .u8 0, .int .u8 0, .int .u8 0, .int .u8 0, .int .u8 0, .int .u8 0, .int .u8 0, .int .u8 0, .int .u8 0, .int .u8 0, .int .u8 0, .int .u8 0, .int .u8 0, .int .u8 0, .int .u8 0, .int .u8 0]⟩ .nil) 247 ⟨.arr 64 5, 64, 64, [.int .u8 0, .int .u8 0, .int .u8 0, .int .u8 0, .int .u8 0, .int .u8 0, .int .u8 0, .int .u8 0, .int .u8 0, .int .u8 0, .int .u8 0, .int .u8 0, .int .u8 0, .int .u8 0, .int .u8 0, .int .u8 0, .int .u8 0, .int .u8 0, .int .u8 0, .int .u8 0, .int .u8 0, .int .u8 0, .int .u8 0, .int .u8 0, .int .u8 0, .int .u8 0, .int .u8 0, .int .u8 0, .int .u8 0, .int .u8 0, .int .u8 0, .int .u8 0, .int .u8 0, .int .u8 0, .int .u8 0, .int .u8 0, .int .u8 0, .int .u8 0, .int .u8 0, .int .u8 0, .int .u8 0, .int .u8 0, .int .u8 0, .int .u8 0, .int .u8 0, .int .u8 0, .int .u8 0, .int .u8 0, .int .u8 0, .int .u8 0, .int .u8 0, .int .u8 0, .int .u8 0, .int .u8 0, .int .u8 0, .int .u8 0, .int .u8 0, .int .u8 0, .int .u8 0, .int .u8 0, .int .u8 0, .int .u8 0, .int .u8 0, .int .u8 0]⟩ .nil)) 248 ⟨.struct [(0, 1, false), (1, 1, false), (2, 1, false), (3, 1, false)], 4, 40, [.nilp, .nilp, .nilp, .str []]⟩ (.node (.node (.node .nil 250 ⟨.arr 0 16, 0, 0, []⟩ .nil) 251 ⟨.struct [(0, 0, true)], 0, 0, []⟩ (.node .nil 255 ⟨.fn, 1, 8, [.nilf]⟩ .nil)) 258 ⟨.struct [(0, 1, false), (1, 1, false), (2, 1, false), (3, 1, false), (4, 1, false), (5, 1, false), (6, 1, false), (7, 1, false), (8, 1, false), (9, 1, false), (10, 1, false)], 11, 48, [.int .u64 0, .int .u64 0, .int .u32 0, .int .u8 0, .int .u8 0, .int .u8 0, .int .u8 0, .nilf, .nilp, .int .i32 0, .int .i32 0]⟩ (.node (.node .nil 260 ⟨.fn, 1, 8, [.nilf]⟩ .nil) 261 ⟨.fn, 1, 8, [.nilf]⟩ .nil)))))))
noncomputable def Tryz.fns : BT Func := (.node (.node (.node (.node (.node (.node (.node (.node .nil 3 Tryz.f3 .nil) 4 Tryz.f4 .nil) 5 Tryz.f5 (.node (.node .nil 6 Tryz.f6 .nil) 7 Tryz.f7 .nil)) 8 Tryz.f8 (.node (.node (.node .nil 9 Tryz.f9 .nil) 10 Tryz.f10 .nil) 11 Tryz.f11 (.node (.node .nil 12 Tryz.f12 .nil) 13 Tryz.f13 .nil))) 14 Tryz.f14 (.node (.node (.node (.node .nil 15 Tryz.f15 .nil) 16 Tryz.f16 .nil) 17 Tryz.f17 (.node (.node .nil 18 Tryz.f18 .nil) 19 Tryz.f19 .nil)) 20 Tryz.f20 (.node (.node (.node .nil 21 Tryz.f21 .nil) 22 Tryz.f22 .nil) 23 Tryz.f23 (.node (.node .nil 24 Tryz.f24 .nil) 25 Tryz.f25 .nil)))) 26 Tryz.f26 (.node (.node (.node (.node (.node .nil 27 Tryz.f27 .nil) 28 Tryz.f28 .nil) 29 Tryz.f29 (.node (.node .nil 30 Tryz.f30 .nil) 31 Tryz.f31 .nil)) 32 Tryz.f32 (.node (.node (.node .nil 33 Tryz.f33 .nil) 34 Tryz.f34 .nil) 35 Tryz.f35 (.node (.node .nil 36 Tryz.f36 .nil) 37 Tryz.f37 .nil))) 38 Tryz.f38 (.node (.node (.node (.node .nil 39 Tryz.f39 .nil) 40 Tryz.f40 .nil) 41 Tryz.f41 (.node (.node .nil 42 Tryz.f42 .nil) 43 Tryz.f43 .nil)) 44 Tryz.f44 (.node (.node (.node .nil 45 Tryz.f45 .nil) 46 Tryz.f46 .nil) 47 Tryz.f47 (.node (.node .nil 48 Tryz.f48 .nil) 49 Tryz.f49 .nil))))) 50 Tryz.f50 (.node (.node (.node (.node (.node (.node .nil 51 Tryz.f51 .nil) 52 Tryz.f52 .nil) 53 Tryz.f53 (.node (.node .nil 54 Tryz.f54 .nil) 55 Tryz.f55 .nil)) 56 Tryz.f56 (.node (.node (.node .nil 57 Tryz.f57 .nil) 58 Tryz.f58 .nil) 59 Tryz.f59 (.node (.node .nil 60 Tryz.f60 .nil) 61 Tryz.f61 .nil))) 62 Tryz.f62 (.node (.node (.node (.node .nil 63 Tryz.f63 .nil) 64 Tryz.f64 .nil) 65 Tryz.f65 (.node (.node .nil 66 Tryz.f66 .nil) 67 Tryz.f67 .nil)) 68 Tryz.f68 (.node (.node (.node .nil 69 Tryz.f69 .nil) 70 Tryz.f70 .nil) 71 Tryz.f71 (.node (.node .nil 72 Tryz.f72 .nil) 73 Tryz.f73 .nil)))) 74 Tryz.f74 (.node (.node (.node (.node (.node .nil 75 Tryz.f75 .nil) 76 Tryz.f76 .nil) 77 Tryz.f77 (.node (.node .nil 78 Tryz.f78 .nil) 79 Tryz.f79 .nil)) 80 Tryz.f80 (.node (.node (.node .nil 81 Tryz.f81 .nil) 82 Tryz.f82 .nil) 83 Tryz.f83 (.node (.node .nil 84 Tryz.f84 .nil) 85 Tryz.f85 .nil))) 86 Tryz.f86 (.node (.node (.node (.node .nil 87 Tryz.f87 .nil) 88 Tryz.f88 .nil) 89 Tryz.f89 (.node (.node .nil 90 Tryz.f90 .nil) 91 Tryz.f91 .nil)) 92 Tryz.f92 (.node (.node (.node .nil 93 Tryz.f93 .nil) 94 Tryz.f94 .nil) 95 Tryz.f95 (.node (.node .nil 96 Tryz.f96 .nil) 97 Tryz.f97 .nil)))))) 98 Tryz.f98 (.node (.node (.node (.node (.node (.node (.node .nil 99 Tryz.f99 .nil) 100 Tryz.f100 .nil) 101 Tryz.f101 (.node (.node .nil 102 Tryz.f102 .nil) 103 Tryz.f103 .nil)) 104 Tryz.f104 (.node (.node (.node .nil 105 Tryz.f105 .nil) 106 Tryz.f106 .nil) 107 Tryz.f107 (.node (.node .nil 108 Tryz.f108 .nil) 109 Tryz.f109 .nil))) 110 Tryz.f110 (.node (.node (.node (.node .nil 111 Tryz.f111 .nil) 112 Tryz.f112 .nil) 113 Tryz.f113 (.node (.node .nil 114 Tryz.f114 .nil) 115 Tryz.f115 .nil)) 116 Tryz.f116 (.node (.node (.node .nil 117 Tryz.f117 .nil) 118 Tryz.f118 .nil) 119 Tryz.f119 (.node (.node .nil 120 Tryz.f120 .nil) 121 Tryz.f121 .nil)))) 122 Tryz.f122 (.node (.node (.node (.node (.node .nil 123 Tryz.f123 .nil) 124 Tryz.f124 .nil) 125 Tryz.f125 (.node (.node .nil 126 Tryz.f126 .nil) 127 Tryz.f127 .nil)) 129 Tryz.f129 (.node (.node (.node .nil 130 Tryz.f130 .nil) 131 Tryz.f131 .nil) 132 Tryz.f132 (.node (.node .nil 133 Tryz.f133 .nil) 134 Tryz.f134 .nil))) 135 Tryz.f135 (.node (.node (.node (.node .nil 136 Tryz.f136 .nil) 137 Tryz.f137 .nil) 138 Tryz.f138 (.node (.node .nil 139 Tryz.f139 .nil) 140 Tryz.f140 .nil)) 141 Tryz.f141 (.node (.node (.node .nil 142 Tryz.f142 .nil) 143 Tryz.f143 .nil) 144 Tryz.f144 (.node (.node .nil 145 Tryz.f145 .nil) 146 Tryz.f146 .nil))))) 147 Tryz.f147 (.node (.node (.node (.node (.node (.node .nil 148 Tryz.f148 .nil) 149 Tryz.f149 .nil) 150 Tryz.f150 (.node (.node .nil 151 Tryz.f151 .nil) 152 Tryz.f152 .nil)) 153 Tryz.f153 (.node (.node (.node .nil 154 Tryz.f154 .nil) 155 Tryz.f155 .nil) 158 Tryz.f158 (.node (.node .nil 159 Tryz.f159 .nil) 160 Tryz.f160 .nil))) 161 Tryz.f161 (.node (.node (.node (.node .nil 163 Tryz.f163 .nil) 165 Tryz.f165 .nil) 166 Tryz.f166 (.node (.node .nil 167 Tryz.f167 .nil) 168 Tryz.f168 .nil)) 169 Tryz.f169 (.node (.node (.node .nil 170 Tryz.f170 .nil) 171 Tryz.f171 .nil) 172 Tryz.f172 (.node (.node .nil 173 Tryz.f173 .nil) 174 Tryz.f174 .nil)))) 175 Tryz.f175 (.node (.node (.node (.node (.node .nil 176 Tryz.f176 .nil) 177 Tryz.f177 .nil) 178 Tryz.f178 (.node (.node .nil 179 Tryz.f179 .nil) 180 Tryz.f180 .nil)) 181 Tryz.f181 (.node (.node (.node .nil 182 Tryz.f182 .nil) 183 Tryz.f183 .nil) 184 Tryz.f184 (.node (.node .nil 186 Tryz.f186 .nil) 187 Tryz.f187 .nil))) 188 Tryz.f188 (.node (.node (.node (.node .nil 189 Tryz.f189 .nil) 190 Tryz.f190 .nil) 191 Tryz.f191 (.node (.node .nil 192 Tryz.f192 .nil) 193 Tryz.f193 .nil)) 194 Tryz.f194 (.node (.node (.node .nil 195 Tryz.f195 .nil) 196 Tryz.f196 .nil) 197 Tryz.f197 (.node .nil 198 Tryz.f198 .nil)))))))
def Tryz.live : BT Nat := (.node (.node (.node (.node (.node (.node (.node (.node .nil 3 324518558494130005276859255750599 .nil) 4 20769187589184195606572821016182727 .nil) 5 5455151694701314085210342517456077060047 (.node (.node .nil 6 4503601774865863 .nil) 7 274037143074916838804610648354976019426605792799 .nil)) 8 1339653790627265691011339844226949107 (.node (.node (.node .nil 9 41538374868434459122460161099300349 .nil) 10 2741695000583237090693706870421442039 .nil) 11 4835703350516662640562127 (.node (.node .nil 12 31839 .nil) 13 2077 .nil))) 14 5 (.node (.node (.node (.node .nil 15 65743 .nil) 16 23 .nil) 17 32887 (.node (.node .nil 18 268470387 .nil) 19 7 .nil)) 20 7 (.node (.node (.node .nil 21 7 .nil) 22 23 .nil) 23 7 (.node (.node .nil 24 91270843216432516912298117930995 .nil) 25 538854333 .nil)))) 26 540925 (.node (.node (.node (.node (.node .nil 27 549756045311 .nil) 28 1099511693427 .nil) 29 2199158520895 (.node (.node .nil 30 7 .nil) 31 31 .nil)) 32 943 (.node (.node (.node .nil 33 55 .nil) 34 1 .nil) 35 33261241786543 (.node (.node .nil 36 68987928735 .nil) 37 7 .nil))) 38 7 (.node (.node (.node (.node .nil 39 19 .nil) 40 83807 .nil) 41 287 (.node (.node .nil 42 2361471471810991128351 .nil) 43 70411693911103 .nil)) 44 4279 (.node (.node (.node .nil 45 31 .nil) 46 43566776871332606481846899291479127621117 .nil) 47 2199090887711 (.node (.node .nil 48 23 .nil) 49 9445318576492100452863 .nil))))) 50 31 (.node (.node (.node (.node (.node (.node .nil 51 4504703438225535 .nil) 52 287 .nil) 53 127 (.node (.node .nil 54 65775 .nil) 55 7 .nil)) 56 138351151749653378483 (.node (.node (.node .nil 57 32887 .nil) 58 51 .nil) 59 5 (.node (.node .nil 60 5 .nil) 61 32819 .nil))) 62 5 (.node (.node (.node (.node .nil 63 264091 .nil) 64 7 .nil) 65 17179869199 (.node (.node .nil 66 9373 .nil) 67 5 .nil)) 68 5 (.node (.node (.node .nil 69 711 .nil) 70 3 .nil) 71 16806963 (.node (.node .nil 72 16806963 .nil) 73 19 .nil)))) 74 268895155 (.node (.node (.node (.node (.node .nil 75 115 .nil) 76 61 .nil) 77 77928346935781219122975 (.node (.node .nil 78 2077 .nil) 79 8765 .nil)) 80 19 (.node (.node (.node .nil 81 9481627579855335850495 .nil) 82 5 .nil) 83 1073741831 (.node (.node .nil 84 83 .nil) 85 571 .nil))) 86 1 (.node (.node (.node (.node .nil 87 5 .nil) 88 2097283 .nil) 89 51 (.node (.node .nil 90 5 .nil) 91 4432676798715 .nil)) 92 5 (.node (.node (.node .nil 93 599197 .nil) 94 457 .nil) 95 461 (.node (.node .nil 96 461 .nil) 97 461 .nil)))))) 98 21 (.node (.node (.node (.node (.node (.node (.node .nil 99 9161 .nil) 100 2099151 .nil) 101 21 (.node (.node .nil 102 55 .nil) 103 295147905181504570311 .nil)) 104 1995 (.node (.node (.node .nil 105 16631 .nil) 106 33562571 .nil) 107 504373101 (.node (.node .nil 108 2267743825679 .nil) 109 4339 .nil))) 110 4157 (.node (.node (.node (.node .nil 111 73788102194745311519 .nil) 112 83010348331718212735 .nil) 113 61463 (.node (.node .nil 114 92522022212955275391 .nil) 115 4198555 .nil)) 116 524353 (.node (.node (.node .nil 117 19 .nil) 118 16583 .nil) 119 3 (.node (.node .nil 120 3 .nil) 121 3 .nil)))) 122 3 (.node (.node (.node (.node (.node .nil 123 3 .nil) 124 3 .nil) 125 5 (.node (.node .nil 126 2147618759 .nil) 127 23 .nil)) 129 3 (.node (.node (.node .nil 130 65619 .nil) 131 8796126839539 .nil) 132 16810611 (.node (.node .nil 133 19 .nil) 134 702342826256273603086707106465568295829491 .nil))) 135 73861163094217066365 (.node (.node (.node (.node .nil 136 17247509535 .nil) 137 1037 .nil) 138 5 (.node (.node .nil 139 5 .nil) 140 1048695 .nil)) 141 7 (.node (.node (.node .nil 142 1127 .nil) 143 1 .nil) 144 1 (.node (.node .nil 145 2113775 .nil) 146 1 .nil))))) 147 1 (.node (.node (.node (.node (.node (.node .nil 148 1 .nil) 149 1 .nil) 150 8431 (.node (.node .nil 151 1 .nil) 152 35787119 .nil)) 153 71582839 (.node (.node (.node .nil 154 66099 .nil) 155 275955859571 .nil) 158 17188391667 (.node (.node .nil 159 3 .nil) 160 85 .nil))) 161 1037 (.node (.node (.node (.node .nil 163 19 .nil) 165 5 .nil) 166 151115727469970589747187 (.node (.node .nil 167 594912002450663878599 .nil) 168 19 .nil)) 169 19 (.node (.node (.node .nil 170 71 .nil) 171 71 .nil) 172 5 (.node (.node .nil 173 5 .nil) 174 5 .nil)))) 175 5 (.node (.node (.node (.node (.node .nil 176 5 .nil) 177 5 .nil) 178 5 (.node (.node .nil 179 21 .nil) 180 13 .nil)) 181 2923003971560093291123168138537876760321514930163 (.node (.node (.node .nil 182 20426010943356750102455122975 .nil) 183 525 .nil) 184 316912838952437276284744179709 (.node (.node .nil 186 1107300861 .nil) 187 749019592093908130998168547243562859198691857383367 .nil))) 188 77 (.node (.node (.node (.node .nil 189 5 .nil) 190 5 .nil) 191 16661 (.node (.node .nil 192 13 .nil) 193 5 .nil)) 194 5 (.node (.node (.node .nil 195 5 .nil) 196 3259264009699125022261772349 .nil) 197 21 (.node .nil 198 21 .nil)))))))
theorem Tryz.tysB_ : tysB Tryz.prog Tryz.tys = true := by kernel_rfl
theorem Tryz.fnsAre_ : FnsAre Tryz.prog Tryz.fns := ⟨Tryz.func98, ⟨Tryz.func50, ⟨Tryz.func26, ⟨Tryz.func14, ⟨Tryz.func8, ⟨Tryz.func5, ⟨Tryz.func4, ⟨Tryz.func3, trivial, trivial⟩, trivial⟩, ⟨Tryz.func7, ⟨Tryz.func6, trivial, trivial⟩, trivial⟩⟩, ⟨Tryz.func11, ⟨Tryz.func10, ⟨Tryz.func9, trivial, trivial⟩, trivial⟩, ⟨Tryz.func13, ⟨Tryz.func12, trivial, trivial⟩, trivial⟩⟩⟩, ⟨Tryz.func20, ⟨Tryz.func17, ⟨Tryz.func16, ⟨Tryz.func15, trivial, trivial⟩, trivial⟩, ⟨Tryz.func19, ⟨Tryz.func18, trivial, trivial⟩, trivial⟩⟩, ⟨Tryz.func23, ⟨Tryz.func22, ⟨Tryz.func21, trivial, trivial⟩, trivial⟩, ⟨Tryz.func25, ⟨Tryz.func24, trivial, trivial⟩, trivial⟩⟩⟩⟩, ⟨Tryz.func38, ⟨Tryz.func32, ⟨Tryz.func29, ⟨Tryz.func28, ⟨Tryz.func27, trivial, trivial⟩, trivial⟩, ⟨Tryz.func31, ⟨Tryz.func30, trivial, trivial⟩, trivial⟩⟩, ⟨Tryz.func35, ⟨Tryz.func34, ⟨Tryz.func33, trivial, trivial⟩, trivial⟩, ⟨Tryz.func37, ⟨Tryz.func36, trivial, trivial⟩, trivial⟩⟩⟩, ⟨Tryz.func44, ⟨Tryz.func41, ⟨Tryz.func40, ⟨Tryz.func39, trivial, trivial⟩, trivial⟩, ⟨Tryz.func43, ⟨Tryz.func42, trivial, trivial⟩, trivial⟩⟩, ⟨Tryz.func47, ⟨Tryz.func46, ⟨Tryz.func45, trivial, trivial⟩, trivial⟩, ⟨Tryz.func49, ⟨Tryz.func48, trivial, trivial⟩, trivial⟩⟩⟩⟩⟩, ⟨Tryz.func74, ⟨Tryz.func62, ⟨Tryz.func56, ⟨Tryz.func53, ⟨Tryz.func52, ⟨Tryz.func51, trivial, trivial⟩, trivial⟩, ⟨Tryz.func55, ⟨Tryz.func54, trivial, trivial⟩, trivial⟩⟩, ⟨Tryz.func59, ⟨Tryz.func58, ⟨Tryz.func57, trivial, trivial⟩, trivial⟩, ⟨Tryz.func61, ⟨Tryz.func60, trivial, trivial⟩, trivial⟩⟩⟩, ⟨Tryz.func68, ⟨Tryz.func65, ⟨Tryz.func64, ⟨Tryz.func63, trivial, trivial⟩, trivial⟩, ⟨Tryz.func67, ⟨Tryz.func66, trivial, trivial⟩, trivial⟩⟩, ⟨Tryz.func71, ⟨Tryz.func70, ⟨Tryz.func69, trivial, trivial⟩, trivial⟩, ⟨Tryz.func73, ⟨Tryz.func72, trivial, trivial⟩, trivial⟩⟩⟩⟩, ⟨Tryz.func86, ⟨Tryz.func80, ⟨Tryz.func77, ⟨Tryz.func76, ⟨Tryz.func75, trivial, trivial⟩, trivial⟩, ⟨Tryz.func79, ⟨Tryz.func78, trivial, trivial⟩, trivial⟩⟩, ⟨Tryz.func83, ⟨Tryz.func82, ⟨Tryz.func81, trivial, trivial⟩, trivial⟩, ⟨Tryz.func85, ⟨Tryz.func84, trivial, trivial⟩, trivial⟩⟩⟩, ⟨Tryz.func92, ⟨Tryz.func89, ⟨Tryz.func88, ⟨Tryz.func87, trivial, trivial⟩, trivial⟩, ⟨Tryz.func91, ⟨Tryz.func90, trivial, trivial⟩, trivial⟩⟩, ⟨Tryz.func95, ⟨Tryz.func94, ⟨Tryz.func93, trivial, trivial⟩, trivial⟩, ⟨Tryz.func97, ⟨Tryz.func96, trivial, trivial⟩, trivial⟩⟩⟩⟩⟩⟩, ⟨Tryz.func147, ⟨Tryz.func122, ⟨Tryz.func110, ⟨Tryz.func104, ⟨Tryz.func101, ⟨Tryz.func100, ⟨Tryz.func99, trivial, trivial⟩, trivial⟩, ⟨Tryz.func103, ⟨Tryz.func102, trivial, trivial⟩, trivial⟩⟩, ⟨Tryz.func107, ⟨Tryz.func106, ⟨Tryz.func105, trivial, trivial⟩, trivial⟩, ⟨Tryz.func109, ⟨Tryz.func108, trivial, trivial⟩, trivial⟩⟩⟩, ⟨Tryz.func116, ⟨Tryz.func113, ⟨Tryz.func112, ⟨Tryz.func111, trivial, trivial⟩, trivial⟩, ⟨Tryz.func115, ⟨Tryz.func114, trivial, trivial⟩, trivial⟩⟩, ⟨Tryz.func119, ⟨Tryz.func118, ⟨Tryz.func117, trivial, trivial⟩, trivial⟩, ⟨Tryz.func121, ⟨Tryz.func120, trivial, trivial⟩, trivial⟩⟩⟩⟩, ⟨Tryz.func135, ⟨Tryz.func129, ⟨Tryz.func125, ⟨Tryz.func124, ⟨Tryz.func123, trivial, trivial⟩, trivial⟩, ⟨Tryz.func127, ⟨Tryz.func126, trivial, trivial⟩, trivial⟩⟩, ⟨Tryz.func132, ⟨Tryz.func131, ⟨Tryz.func130, trivial, trivial⟩, trivial⟩, ⟨Tryz.func134, ⟨Tryz.func133, trivial, trivial⟩, trivial⟩⟩⟩, ⟨Tryz.func141, ⟨Tryz.func138, ⟨Tryz.func137, ⟨Tryz.func136, trivial, trivial⟩, trivial⟩, ⟨Tryz.func140, ⟨Tryz.func139, trivial, trivial⟩, trivial⟩⟩, ⟨Tryz.func144, ⟨Tryz.func143, ⟨Tryz.func142, trivial, trivial⟩, trivial⟩, ⟨Tryz.func146, ⟨Tryz.func145, trivial, trivial⟩, trivial⟩⟩⟩⟩⟩, ⟨Tryz.func175, ⟨Tryz.func161, ⟨Tryz.func153, ⟨Tryz.func150, ⟨Tryz.func149, ⟨Tryz.func148, trivial, trivial⟩, trivial⟩, ⟨Tryz.func152, ⟨Tryz.func151, trivial, trivial⟩, trivial⟩⟩, ⟨Tryz.func158, ⟨Tryz.func155, ⟨Tryz.func154, trivial, trivial⟩, trivial⟩, ⟨Tryz.func160, ⟨Tryz.func159, trivial, trivial⟩, trivial⟩⟩⟩, ⟨Tryz.func169, ⟨Tryz.func166, ⟨Tryz.func165, ⟨Tryz.func163, trivial, trivial⟩, trivial⟩, ⟨Tryz.func168, ⟨Tryz.func167, trivial, trivial⟩, trivial⟩⟩, ⟨Tryz.func172, ⟨Tryz.func171, ⟨Tryz.func170, trivial, trivial⟩, trivial⟩, ⟨Tryz.func174, ⟨Tryz.func173, trivial, trivial⟩, trivial⟩⟩⟩⟩, ⟨Tryz.func188, ⟨Tryz.func181, ⟨Tryz.func178, ⟨Tryz.func177, ⟨Tryz.func176, trivial, trivial⟩, trivial⟩, ⟨Tryz.func180, ⟨Tryz.func179, trivial, trivial⟩, trivial⟩⟩, ⟨Tryz.func184, ⟨Tryz.func183, ⟨Tryz.func182, trivial, trivial⟩, trivial⟩, ⟨Tryz.func187, ⟨Tryz.func186, trivial, trivial⟩, trivial⟩⟩⟩, ⟨Tryz.func194, ⟨Tryz.func191, ⟨Tryz.func190, ⟨Tryz.func189, trivial, trivial⟩, trivial⟩, ⟨Tryz.func193, ⟨Tryz.func192, trivial, trivial⟩, trivial⟩⟩, ⟨Tryz.func197, ⟨Tryz.func196, ⟨Tryz.func195, trivial, trivial⟩, trivial⟩, ⟨Tryz.func198, trivial, trivial⟩⟩⟩⟩⟩⟩⟩
theorem Tryz.entersB_ : entersB Tryz.fns = true := by kernel_rfl
theorem Tryz.mixed_ : Tryz.prog.follows .mixedOrders = true := by kernel_rfl
end Go.Proofs
namespace Go.Proofs
open Go Go.Sx
abbrev Wd := Nat → Nat → List UInt8
def wds (W : Wd) (g : Nat) (n : Nat) : List Sh := match n with
 | 3 => [.str (W g 0), .str (W g 1), .str (W g 2)]
 | 4 => [.str (W g 0), .str (W g 1), .str (W g 2), .str (W g 3)]
 | 7 => [.str (W g 0), .str (W g 1), .str (W g 2), .str (W g 3), .str (W g 4), .str (W g 5), .str (W g 6)]
 | 9 => [.str (W g 0), .str (W g 1), .str (W g 2), .str (W g 3), .str (W g 4), .str (W g 5), .str (W g 6), .str (W g 7), .str (W g 8)]
 | _ => []
def pow10 : List Int := [1, 10, 100, 1000, 10000, 100000, 1000000, 10000000, 100000000, 1000000000, 10000000000, 100000000000, 1000000000000, 10000000000000, 100000000000000, 1000000000000000, 10000000000000000, 100000000000000000, 1000000000000000000, 10000000000000000000]
def gls7 (W : Wd) : List (Nat × Sh) := [(0, .er 0 242), (1, .er 1 242), (3, .er 3 242), (2, .er 2 242), (4, .er 4 242), (14, .er 14 242), (15, .er 15 242),
 (7, .tup (wds W 7 4)), (8, .tup (wds W 8 7)), (9, .tup (wds W 9 9)), (10, .tup (wds W 10 3)), (11, .tup (wds W 11 4)), (12, .tup (wds W 12 4)), (16, .tup (pow10.map (Sh.i .u64)))]
def W7 : Wd := fun g i => (match g, i with
 | 7, 0 => [114, 101, 103, 105, 115, 116, 101, 114]
 | 7, 1 => [99, 111, 117, 110, 116, 101, 114]
 | 7, 2 => [113, 117, 101, 117, 101]
 | 7, 3 => [109, 97, 112]
 | 8, 0 => [98, 101, 103, 105, 110]
 | 8, 1 => [99, 97, 108, 108]
 | 8, 2 => [114, 101, 116, 117, 114, 110]
 | 8, 3 => [116, 114, 121]
 | 8, 4 => [99, 111, 109, 109, 105, 116]
 | 8, 5 => [97, 98, 111, 114, 116]
 | 8, 6 => [99, 97, 110, 99, 101, 108]
 | 9, 0 => [114, 101, 97, 100]
 | 9, 1 => [119, 114, 105, 116, 101]
 | 9, 2 => [97, 100, 100]
 | 9, 3 => [103, 101, 116]
 | 9, 4 => [101, 110, 113]
 | 9, 5 => [100, 101, 113]
 | 9, 6 => [112, 117, 116]
 | 9, 7 => [108, 111, 111, 107]
 | 9, 8 => [100, 101, 108]
 | 10, 0 => [111, 107]
 | 10, 1 => [110, 111, 110, 101]
 | 10, 2 => [118, 97, 108]
 | 11, 0 => [108, 105, 118, 101]
 | 11, 1 => [112, 101, 110, 100, 105, 110, 103]
 | 11, 2 => [99, 111, 109, 109, 105, 116, 116, 101, 100]
 | 11, 3 => [97, 98, 111, 114, 116, 101, 100]
 | 12, 0 => [115, 101, 114, 105, 97, 108]
 | 12, 1 => [115, 116, 114, 105, 99, 116]
 | 12, 2 => [102, 105, 110, 97, 108]
 | 12, 3 => [111, 112, 97, 113, 117, 101]
 | _, _ => [])
def noSpec : Nat → Option (List Sh → Tree Sh) := fun _ => none
noncomputable def C7 (A : Prim) (W : Wd) (spec : Nat → Option (List Sh → Tree Sh)) (stop : Nat → List Nat → Bool) : Ctx :=
 { A, tys := Tryz.tys, fns := Tryz.fns, spec, eqs := [116], ers := [242], stopLoop := stop, gls := gls7 W, live := Tryz.live }
theorem eqs7 : eqTysB Tryz.prog Tryz.tys [116] = true := by kernel_rfl
theorem ers7 : ersB Tryz.prog [242] = true := by kernel_rfl
def ins7 : Nat → Option Nat
 | 103 => some 116
 | _ => none
def grow7 : Nat → Option Nat
 | 130 => some 116
 | _ => none
noncomputable def C7i (A : Prim) (W : Wd) (spec : Nat → Option (List Sh → Tree Sh)) (stop : Nat → List Nat → Bool) : Ctx :=
 { A, tys := Tryz.tys, fns := Tryz.fns, spec, eqs := [116], ers := [242], stopLoop := stop, gls := gls7 W, live := Tryz.live, ins := ins7, lend := fun g => g == 102 || g == 105, grow := grow7 }
theorem C7.ok (spec : Nat → Option (List Sh → Tree Sh)) (stop : Nat → List Nat → Bool) : CtxOK Tryz.prog (C7 prim W7 spec stop) :=
 ⟨tysB_ok Tryz.tysB_, fnsAre_ok Tryz.fnsAre_, rfl, Tryz.mixed_, fun t i h hi xs ys w h1 h2 x y => eqTyB_ok (eqTysB_ok eqs7 t i h hi) xs ys w h1 h2 x y, ersB_ok ers7⟩
theorem C7i.ok (spec : Nat → Option (List Sh → Tree Sh)) (stop : Nat → List Nat → Bool) : CtxOK Tryz.prog (C7i prim W7 spec stop) :=
 ⟨tysB_ok Tryz.tysB_, fnsAre_ok Tryz.fnsAre_, rfl, Tryz.mixed_, fun t i h hi xs ys w h1 h2 x y => eqTyB_ok (eqTysB_ok eqs7 t i h hi) xs ys w h1 h2 x y, ersB_ok ers7⟩
theorem C7.fok {spec : Nat → Option (List Sh → Tree Sh)} {stop : Nat → List Nat → Bool} (hs : ∀ g F, spec g = some F → FnOK Tryz.prog (gls7 W7) g F) (he : ∀ g, (spec g).isSome = true → (Tryz.fns.get g).isSome = true) : FnsOK Tryz.prog (C7 prim W7 spec stop) :=
 ⟨hs, fun g h => by
  rcases h with h | h
  ·exact entersB_ok Tryz.fnsAre_ Tryz.entersB_ g (he g h)
  ·exact entersB_ok Tryz.fnsAre_ Tryz.entersB_ g h, fun _ _ _ h => (by cases h), fun _ _ _ h => (by cases h)⟩
theorem fok0 (stop : Nat → List Nat → Bool) : FnsOK Tryz.prog (C7 prim W7 noSpec stop) := C7.fok (fun _ _ h => by cases h) (fun _ h => by cases h)
def noHold : Nat → Bool := fun _ => false
def sAl : Nat → List Nat → Bool := fun _ _ => true
abbrev L0 : Nat := 1000000000000000000000000000000
def unroll : Nat → List Nat → Bool := fun _ _ => false
end Go.Proofs
namespace Go.Sx
open Go.RowKit (Below)
theorem specRes_plain {H : Mem} {w w' : World} {s : Sh} {v : Value} (hs : ∀ b0, (ofSh s b0).2 = ([], b0)) (hd : ∀ b0, Den H (fun _ => none) (ofSh s b0).1 v) (on : H.on w) (h : Below w.heap.size w w') : SpecRes H w s v H w' := by
 have hb (b : Nat) (o : Obj) (e : H b = some o) : b < w.heap.size := (Array.getElem?_eq_some_iff.1 (on b o e)).1
 refine ⟨fun _ _ e => e, fun b o e => ?_, h.os, h.tape, h.output, h.size, h.block, fun b hb => .inl hb, fun b0 => ⟨fun _ => none, fun i hi => (hi rfl).elim, fun i b hb => by simp [bk] at hb, hd b0, ?_⟩⟩
 ·rw [h.block b (hb b o e)]; exact on b o e
 ·rw [hs b0]
  exact ⟨fun _ _ h => by simp [insAll, look?] at h, fun _ _ _ _ _ h => by simp [insAll, look?] at h⟩
theorem fnOK_plain {P : Program} {gls : List (Nat × Sh)} {f : Nat} {F : List Sh → Tree Sh}
  (h : ∀ (H : Mem) (w : World) (shs : List Sh) (args : List Value) (φ : Sh → Prop), H.on w → GlobOK gls H → RepL H shs args → (F shs).All φ →
   ∃ s v, φ s ∧ (∀ b0, (ofSh s b0).2 = ([], b0)) ∧ (∀ b0, Den H (fun _ => none) (ofSh s b0).1 v) ∧ Calls P f args.toArray w fun e w' => e = .returned v ∧ Below w.heap.size w w') : FnOK P gls f F := by
 intro H w shs args φ on hg hr hφ
 obtain ⟨s, v, hs, h1, h2, hc⟩ := h H w shs args φ on hg hr hφ
 exact hc.mono fun e w' ⟨he, hw⟩ => ⟨v, s, H, he, hs, specRes_plain h1 h2 on hw⟩
end Go.Sx
namespace Go.Sx
mutual
def frz : Sh → Sh
 | .os _ st n g => .sl st n g
 | .agg l => .agg (frzL l)
 | .tup l => .tup (frzL l)
 | s => s
def frzL : List Sh → List Sh
 | [] => []
 | x :: r => frz x :: frzL r
end
def FzIn (H : Mem) (E : Env) (l : List (Nat × SB)) : Prop := ∀ i e st n g, (i, SB.own e st n g) ∈ l → ∃ v, E i = some v ∧ Rep H (.sl st n g) v
theorem noId_lit (x : Value) : noId (SV.lit x) = true := by cases x <;> rfl
mutual
theorem noId_arg : ∀ s : Sh, noId (argSV s) = true
 | .agg l => by simpa [argSV, noId] using noIdL_arg l
 | .tup l => by simpa [argSV, noId] using noIdL_arg l
 | .fn f l => by simpa [argSV, noId] using noIdL_arg l
 | .i _ _ => rfl
 | .b _ => rfl
 | .v x => noId_lit x
 | .pt _ => rfl
 | .str _ => rfl
 | .sl _ _ _ => rfl
 | .os _ _ _ _ => rfl
 | .ifc _ _ => rfl
 | .er _ _ => rfl
theorem noIdL_arg : ∀ l : List Sh, noIdL (argL l) = true
 | [] => rfl
 | x :: r => by simp [argL, noIdL, noId_arg x, noIdL_arg r]
end
theorem noId_fn (f : Nat) (l : List Sh) : noId (.fn f (argL l)) = true := by simpa [noId] using noIdL_arg l
mutual
theorem frz_den {H : Mem} {E : Env} : ∀ (s : Sh) (b : Nat) (v : Value), FzIn H E (ofSh s b).2.1 → Den H E (ofSh s b).1 v → ∀ b', Den H Env0 (ofSh (frz s) b').1 v ∧ (ofSh (frz s) b').2 = ([], b')
 | .os e st n g, b, v, hf, h, b' => by
  obtain ⟨h1, _⟩ := h
  obtain ⟨u, h2, h3⟩ := hf b e st n g (by simp [ofSh])
  rw [h1] at h2
  cases h2
  exact ⟨h3, rfl⟩
 | .agg l, b, v, hf, h, b' => by
  obtain ⟨vs, rfl, h⟩ := h
  obtain ⟨h1, h2⟩ := frz_denL l b vs.toList hf h b'
  exact ⟨⟨vs, rfl, h1⟩, h2⟩
 | .tup l, b, v, hf, h, b' => by
  obtain ⟨vs, rfl, h⟩ := h
  obtain ⟨h1, h2⟩ := frz_denL l b vs.toList hf h b'
  exact ⟨⟨vs, rfl, h1⟩, h2⟩
 | .i k n, b, v, _, h, b' => ⟨h, rfl⟩
 | .b x, b, v, _, h, b' => ⟨h, rfl⟩
 | .v x, b, v, _, h, b' => ⟨noId_den (E := E) (noId_lit x) h, rfl⟩
 | .str l, b, v, _, h, b' => ⟨h, rfl⟩
 | .sl st n g, b, v, _, h, b' => ⟨h, rfl⟩
 | .ifc t x, b, v, _, h, b' => ⟨h, rfl⟩
 | .fn f l, b, v, _, h, b' => ⟨noId_den (E := E) (x := .fn f (argL l)) (noId_fn f l) h, rfl⟩
 | .er g T, b, v, _, h, b' => ⟨h, rfl⟩
 | .pt l, b, v, _, h, b' => ⟨h, rfl⟩
theorem frz_denL {H : Mem} {E : Env} : ∀ (l : List Sh) (b : Nat) (vs : List Value), FzIn H E (ofShL l b).2.1 → DenL H E (ofShL l b).1 vs → ∀ b', DenL H Env0 (ofShL (frzL l) b').1 vs ∧ (ofShL (frzL l) b').2 = ([], b')
 | [], _, [], _, _, _ => ⟨trivial, rfl⟩
 | [], _, _ :: _, _, h, _ => h.elim
 | _ :: _, _, [], _, h, _ => h.elim
 | x :: r, b, v :: vs, hf, h, b' => by
  obtain ⟨h1, h2⟩ := h
  obtain ⟨q1, q2⟩ := frz_den x b v (fun i e st n g hm => hf i e st n g (by simp [ofShL, hm])) h1 b'
  obtain ⟨q3, q4⟩ := frz_denL r _ vs (fun i e st n g hm => hf i e st n g (by simp [ofShL, hm])) h2 b'
  simp only [frzL, ofShL]
  rw [q2]
  simp only [List.nil_append]
  exact ⟨⟨q1, q3⟩, q4⟩
end
theorem insAll_append (hp : List (Nat × SB)) : ∀ l l' : List (Nat × SB), insAll hp (l ++ l') = insAll (insAll hp l) l'
 | [], _ => rfl
 |(i, b) :: l, l' => insAll_append (hins hp i b) l l'
theorem look_memA : ∀ (l : List (Nat × SB)) (i : Nat) (x : SB), look? (insAll [] l) i = some x → (i, x) ∈ l
 | [], _, _, h => by simp [insAll, look?] at h
 |(j, b) :: l, i, x, h => by
  rw [insAll, look_insAll] at h
  cases hq : look? (insAll [] l) i with
  | some y =>
   rw [hq] at h
   cases h
   exact List.mem_cons_of_mem _ (look_memA l i _ hq)
  | none =>
   rw [hq] at h
   simp only [look_hins] at h
   cases hj : (j == i) <;> simp only [hj, cond_true, cond_false] at h
   ·simp [look?] at h
   ·obtain rfl : j = i := by simpa using hj
    cases h
    simp
structure IdsOK (l : List (Nat × SB)) (b c : Nat) : Prop where
 le : b ≤ c
 rng : ∀ i x, (i, x) ∈ l → b ≤ i ∧ i < c
 own : ∀ i x, (i, x) ∈ l → ∃ e st n g, x = .own e st n g
 at_ : ∀ i x, (i, x) ∈ l → look? (insAll [] l) i = some x
theorem IdsOK.nil (b : Nat) : IdsOK [] b b := ⟨Nat.le_refl _, fun _ _ h => by simp at h, fun _ _ h => by simp at h, fun _ _ h => by simp at h⟩
theorem IdsOK.append {l l' : List (Nat × SB)} {b c d : Nat} (h : IdsOK l b c) (h' : IdsOK l' c d) : IdsOK (l ++ l') b d := by
 refine ⟨Nat.le_trans h.le h'.le, fun i x hm => ?_, fun i x hm => ?_, fun i x hm => ?_⟩
 ·rcases List.mem_append.1 hm with hm | hm
  ·have := h.rng i x hm; have := h'.le; omega
  ·have := h'.rng i x hm; have := h.le; omega
 ·rcases List.mem_append.1 hm with hm | hm
  ·exact h.own i x hm
  ·exact h'.own i x hm
 ·rw [insAll_append, look_insAll]
  rcases List.mem_append.1 hm with hm | hm
  ·cases hq : look? (insAll [] l') i with
   | none => exact h.at_ i x hm
   | some y =>
    have h1 := h'.rng i y (look_memA l' i y hq)
    have h2 := h.rng i x hm
    omega
  ·rw [h'.at_ i x hm]
mutual
theorem ofSh_ids : ∀ (s : Sh) (b : Nat), IdsOK (ofSh s b).2.1 b (ofSh s b).2.2
 | .os e st n g, b => by
  simp only [ofSh]
  refine ⟨Nat.le_succ b, fun i x hm => ?_, fun i x hm => ?_, fun i x hm => ?_⟩ <;> simp at hm <;> obtain ⟨rfl, rfl⟩ := hm
  ·omega
  ·exact ⟨_, _, _, _, rfl⟩
  ·simp [insAll, hins, look?]
 | .agg l, b => ofShL_ids l b
 | .tup l, b => ofShL_ids l b
 | .i _ _, b => .nil b
 | .b _, b => .nil b
 | .v _, b => .nil b
 | .str _, b => .nil b
 | .sl _ _ _, b => .nil b
 | .ifc _ _, b => .nil b
 | .fn _ _, b => .nil b
 | .er _ _, b => .nil b
 | .pt _, b => .nil b
theorem ofShL_ids : ∀ (l : List Sh) (b : Nat), IdsOK (ofShL l b).2.1 b (ofShL l b).2.2
 | [], b => .nil b
 | x :: r, b => (ofSh_ids x b).append (ofShL_ids r _)
end
theorem freezeAll : ∀ (ids : List Nat) (hp : List (Nat × SB)), (∀ i x, look? hp i = some x → (∃ e st n g, x = .own e st n g) ∨ ∃ st n g, x = .fz st n g) → (∀ i, i ∈ ids → look? hp i ≠ none) →
  ∃ hp', freezeN ids.length hp ids = some hp' ∧ (∀ i st n g, look? hp i = some (.fz st n g) → look? hp' i = some (.fz st n g)) ∧ ∀ i e st n g, i ∈ ids → look? hp i = some (.own e st n g) → look? hp' i = some (.fz st n g)
 | [], hp, _, _ => ⟨hp, rfl, fun _ _ _ _ h => h, fun _ _ _ _ _ h => by simp at h⟩
 | id :: ids, hp, ho, hi => by
  cases hl : look? hp id with
  | none => exact (hi id (by simp) hl).elim
  | some x =>
   rcases ho id x hl with ⟨e, st, n, g, rfl⟩ | ⟨st, n, g, rfl⟩
   ·have look (i : Nat) : look? (hset hp id (.fz st n g)) i = bif id == i then some (.fz st n g) else look? hp i := by rw [look_hset, hl]; rfl
    obtain ⟨hp', h1, h2, h3⟩ := freezeAll ids (hset hp id (.fz st n g)) (fun i x h => by
     rw [look] at h
     cases hj : (id == i) <;> simp only [hj, cond_true, cond_false] at h
     ·exact ho i x h
     ·cases h; exact .inr ⟨_, _, _, rfl⟩) (fun i hm => by
     rw [look]
     cases hj : (id == i) <;> simp only [cond_true, cond_false]
     ·exact hi i (by simp [hm])
     ·simp)
    refine ⟨hp', by simp only [List.length_cons, freezeN, hl]; exact h1, fun i st' n' g' h => ?_, fun i e' st' n' g' hm h => ?_⟩
    ·refine h2 i st' n' g' ?_
     rw [look]
     cases hj : (id == i) <;> simp only [cond_true, cond_false]
     ·exact h
     ·obtain rfl : id = i := by simpa using hj
      rw [hl] at h; cases h
    ·cases hj : (id == i)
     ·have hne : ¬ i = id := fun e => by subst e; simp at hj
      refine h3 i e' st' n' g' (by simpa [hne] using hm) ?_
      rw [look, hj]; exact h
     ·obtain rfl : id = i := by simpa using hj
      rw [hl] at h; cases h
      refine h2 id _ _ _ ?_
      rw [look, hj]; rfl
   ·obtain ⟨hp', h1, h2, h3⟩ := freezeAll ids hp ho (fun i hm => hi i (by simp [hm]))
    refine ⟨hp', ?_, h2, fun i e' st' n' g' hm h => ?_⟩
    ·have : freezeN (ids.length + 1) hp (id :: ids) = freezeN ids.length hp ids := by simp only [freezeN, hl]
     rw [List.length_cons, this]; exact h1
    ·rcases List.mem_cons.1 hm with rfl | hm
     ·rw [hl] at h; cases h
     ·exact h3 i e' st' n' g' hm h
theorem SpecRes.frz {H : Mem} {w : World} {s : Sh} {v : Value} {H' : Mem} {w' : World} (r : SpecRes H w s v H' w') : ∃ H2, SpecRes H w (frz s) v H2 w' := by
 obtain ⟨E1, h1, h2, h3, h4⟩ := r.res 0
 have ids := ofSh_ids s 0
 have wok : WOK ⟨w, fun _ => False, H⟩ H' w' := ⟨r.os, r.tape, r.output, r.size, fun b hb _ => r.old b hb, r.on, r.Hle, fun b hb => (r.fresh b hb).imp id .inl⟩
 obtain ⟨hp', a1, a2, a3⟩ := freezeAll ((ofSh s 0).2.1.map (·.1)) (insAll [] (ofSh s 0).2.1) (fun i x h => .inl (ids.own i x (look_memA _ i x h))) (fun i hm => by
  obtain ⟨⟨j, x⟩, hm', rfl⟩ := List.mem_map.1 hm
  show look? _ j ≠ none
  rw [ids.at_ j x hm']; simp)
 obtain ⟨H2, b1, b2, b3, _⟩ := freezeN_ok a1 h4 wok
 have fz : FzIn H2 E1 (ofSh s 0).2.1 := fun i e st n g hm => b2.ent i _ (a3 i e st n g (List.mem_map.2 ⟨_, hm, rfl⟩) (ids.at_ i _ hm))
 have hd := frz_den s 0 v fz (Den.le b1 (fun _ _ e => e) h3)
 refine ⟨H2, b3.le, b3.on, r.os, r.tape, r.output, r.size, r.old, fun b hb => ?_, fun b0 => ⟨Env0, fun i hi => (hi rfl).elim, fun i b hb => by simp [bk, Env0] at hb, (hd b0).1, ?_⟩⟩
 ·rcases b3.fresh b hb with h | h | h
  ·exact .inl h
  ·exact .inr h
  ·exact h.elim
 ·rw [(hd b0).2]
  exact heap_nil
theorem FnOK.frz {P : Program} {gls : List (Nat × Sh)} {f : Nat} {F F' : List Sh → Tree Sh} (h : FnOK P gls f F) (hF : ∀ shs (φ : Sh → Prop), (F' shs).All φ → (F shs).All fun s => φ (Go.Sx.frz s)) : FnOK P gls f F' :=
 fun H w shs args φ on hg hr hφ => (h H w shs args _ on hg hr (hF shs φ hφ)).mono fun e w' ⟨v, s, H', he, hs, r⟩ => let ⟨H2, r2⟩ := r.frz; ⟨v, _, H2, he, hs, r2⟩
end Go.Sx
namespace Go.Pl
open Go Go.Sx
structure Oj where
 kind : Int
 init : Int
 deriving DecidableEq, Inhabited
structure Pr where
 key : Int
 val : Int
 deriving DecidableEq, Inhabited
structure Cl where
 obj : Int
 op : Int
 key : Int
 val : Int
 deriving DecidableEq, Inhabited
def obR (o : Oj) : List Sh := [.i .i64 o.kind, .i .i64 o.init]
def prR (e : Pr) : List Sh := [.i .i64 e.key, .i .i64 e.val]
def clR (e : Cl) : List Sh := [.i .i64 e.obj, .i .i64 e.op, .i .i64 e.key, .i .i64 e.val]
def stR (s : List UInt8) : List Sh := [.str s]
def inR (n : Int) : List Sh := [.i .i64 n]
class Row (α : Type) where
 put : α → List Sh
 get : List Sh → Option α
 put_get : ∀ l a, get l = some a → put a = l
 get_put : ∀ a, get (put a) = some a
 dft : α
instance : Row Oj where
 put := obR
 get l := match l with
  | [.i .i64 a, .i .i64 b] => some ⟨a, b⟩
  | _ => none
 put_get l a h := by
  split at h
  ·cases h; rfl
  ·cases h
 get_put a := rfl
 dft := ⟨0, 0⟩
instance : Row Pr where
 put := prR
 get l := match l with
  | [.i .i64 a, .i .i64 b] => some ⟨a, b⟩
  | _ => none
 put_get l a h := by
  split at h
  ·cases h; rfl
  ·cases h
 get_put a := rfl
 dft := ⟨0, 0⟩
instance : Row Cl where
 put := clR
 get l := match l with
  | [.i .i64 a, .i .i64 b, .i .i64 c, .i .i64 d] => some ⟨a, b, c, d⟩
  | _ => none
 put_get l a h := by
  split at h
  ·cases h; rfl
  ·cases h
 get_put a := rfl
 dft := ⟨0, 0, 0, 0⟩
instance : Row (List UInt8) where
 put := stR
 get l := match l with
  | [.str a] => some a
  | _ => none
 put_get l a h := by
  split at h
  ·cases h; rfl
  ·cases h
 get_put a := rfl
 dft := []
instance : Row Int where
 put := inR
 get l := match l with
  | [.i .i64 a] => some a
  | _ => none
 put_get l a h := by
  split at h
  ·cases h; rfl
  ·cases h
 get_put a := rfl
 dft := 0
def okB (α : Type) [Row α] (n : Nat) (g : Nat → List Sh) : Bool :=
 match n with
 | 0 => true
 | n + 1 => okB α n g && (Row.get (α := α) (g n)).isSome
def rwAt {α : Type} [Row α] (g : Nat → List Sh) (i : Nat) : α := (Row.get (g i)).getD Row.dft
def lst (α : Type) [Row α] (n : Nat) (g : Nat → List Sh) : List α := (List.range n).map (rwAt g)
def nth {α : Type} [Row α] (l : List α) (i : Nat) : α := l.getD i Row.dft
def fnR {α : Type} [Row α] (o : Nat → α) : Nat → List Sh := fun j => Row.put (o j)
section
variable {α : Type} [Row α]
theorem okB_at {n : Nat} {g : Nat → List Sh} (h : okB α n g = true) : ∀ i, i < n → g i = Row.put (rwAt (α := α) g i) := by
 induction n with
 | zero => intro i hi; omega
 | succ n ih =>
  simp only [okB, Bool.and_eq_true] at h
  intro i hi
  by_cases e : i = n
  ·subst e
   obtain ⟨a, ha⟩ := Option.isSome_iff_exists.1 h.2
   simp only [rwAt, ha, Option.getD_some]
   exact (Row.put_get _ _ ha).symm
  ·exact ih h.1 i (by omega)
theorem okB_put (o : Nat → α) : ∀ n, okB α n (fnR o) = true
 | 0 => rfl
 | n + 1 => by simp [okB, okB_put o n, fnR, Row.get_put]
theorem rowAt_put (o : Nat → α) (i : Nat) : rwAt (fnR o) i = o i := by simp [rwAt, fnR, Row.get_put]
@[simp] theorem lst_length (n : Nat) (g : Nat → List Sh) : (lst α n g).length = n := by simp [lst]
theorem nth_lst {n : Nat} {g : Nat → List Sh} {i : Nat} (h : i < n) : nth (lst α n g) i = rwAt g i := by simp [nth, lst, h]
theorem lst_put (o : Nat → α) (n : Nat) : lst α n (fnR o) = (List.range n).map o := by
 unfold lst
 refine List.map_congr_left fun i _ => rowAt_put o i
theorem range_nth (l : List α) : (List.range l.length).map (nth l) = l := by
 apply List.ext_getElem
 ·simp
 ·intro i h1 h2
  simp [nth, h2]
theorem lst_nth (l : List α) : lst α l.length (fnR (nth l)) = l := by rw [lst_put, range_nth]
end
theorem rep_sl_congr {H : Mem} {st n : Nat} {g g' : Nat → List Sh} {v : Value} (h : Rep H (.sl st n g) v) (hg : ∀ j, j < n → g j = g' j) : Rep H (.sl st n g') v := by
 cases h with
 | sl0 _ _ A cap hc => exact .sl0 _ _ _ _ hc
 | sl _ _ _ b off cap c h1 h2 h3 h4 h5 h6 => exact .sl _ _ _ b off cap c h1 h2 (fun i hi => by rw [← hg i hi]; exact h3 i hi) h4 h5 fun i j s hi e => h6 i j s hi (by rw [hg i hi]; exact e)
theorem rep_rows {α : Type} [Row α] {H : Mem} {st n : Nat} {g : Nat → List Sh} {v : Value} (h : Rep H (.sl st n g) v) (hg : okB α n g = true) : Rep H (.sl st n (fnR (rwAt (α := α) g))) v :=
 rep_sl_congr h fun j hj => okB_at hg j hj
def len {α : Type} (l : List α) : Nat := l.length
end Go.Pl
namespace Go.Pl
open Go Go.Sx
theorem prim_lt (a b : Int) : prim.lt a b = decide (a < b) := rfl
theorem prim_le (a b : Int) : prim.le a b = decide (a ≤ b) := rfl
theorem prim_eq (a b : Int) : prim.eq a b = (a == b) := rfl
theorem prim_inB (a : Int) (n : Nat) : prim.inB a n = decide (0 ≤ a ∧ a < n) := rfl
theorem prim_upTo (a : Int) (n : Nat) : prim.upTo a n = decide (0 ≤ a ∧ a ≤ n) := rfl
theorem prim_toN (a : Int) : prim.toN a = a.toNat := rfl
theorem prim_ofN (n : Nat) : prim.ofN n = (n : Int) := rfl
theorem prim_addN (n m : Nat) : prim.addN n m = n + m := rfl
theorem prim_subN (n m : Nat) : prim.subN n m = n - m := rfl
theorem prim_leN (n m : Nat) : prim.leN n m = decide (n ≤ m) := rfl
theorem prim_nt (b : Bool) : prim.nt b = !b := rfl
theorem prim_ite (a b c : Bool) : prim.ite a b c = bif a then b else c := rfl
theorem prim_seq (a b : List UInt8) : prim.seq a b = (a == b) := rfl
theorem prim_add (a b : Int) : prim.add .i64 a b = IntKind.i64.wrap (a + b) := rfl
theorem prim_sub (a b : Int) : prim.sub .i64 a b = IntKind.i64.wrap (a - b) := rfl
theorem prim_max (a b : Int) : prim.max a b = if b > a then b else a := rfl
theorem prim_snoc (g : Nat → List Sh) (n : Nat) (h : Nat → List Sh) (i : Nat) : prim.snoc g n h i = if i < n then g i else h (i - n) := rfl
theorem wrap_id {a : Int} (h1 : -9223372036854775808 ≤ a) (h2 : a ≤ 9223372036854775807) : IntKind.i64.wrap a = a := by
 rw [IntKind.wrap_i64]; omega
theorem one_eq : Int.ofNat 1 = 1 := rfl
theorem maxLen_eq : maxLen = 9223372036854775807 := rfl
end Go.Pl
namespace Go.Pl
open Go Go.Sx
def roomB (n b : Nat) : Bool := prim.room n b
structure Sta where
 kind : Int
 num : Int
 q : List Int
 ps : List Pr
 deriving DecidableEq, Inhabited
def staS (s : Sta) : List Sh := [.i .i64 s.kind, .i .i64 s.num, .sl 1 (len s.q) (fnR (nth s.q)), .sl 2 (len s.ps) (fnR (nth s.ps))]
end Go.Pl
namespace Go.Proofs
open Go.Shelf
def Tryz.lays156_ren : Go.Shelf.Ren := ⟨fun | 156 => 56 | 165 => 88 | 166 => 89 | 169 => 90 | 240 => 116 | 241 => 117 | 276 => 156 | 277 => 157 | n => n, fun | 31 => 34 | 9 => 9 | 3 => 3 | 4 => 4 | 0 => 0 | 20 => 20 | 72 => 152 | 76 => 154 | 70 => 150 | 37 => 118 | 75 => 52 | 127 => 180 | 164 => 201 | 5 => 5 | 80 => 67 | n => n, fun | n => n⟩
theorem Tryz.lays156 : Go.Proofs.Lays.n156 Tryz.prog Tryz.lays156_ren := {
 mixed := by kernel_rfl
 f156 := Tryz.func56.trans (congrArg some (by kernel_rfl))
 f165 := Tryz.func88.trans (congrArg some (by kernel_rfl))
 f166 := Tryz.func89.trans (congrArg some (by kernel_rfl))
 f169 := Tryz.func90.trans (congrArg some (by kernel_rfl))
 f240 := Tryz.func116.trans (congrArg some (by kernel_rfl))
 f241 := Tryz.func117.trans (congrArg some (by kernel_rfl))
 f276 := Tryz.func156.trans (congrArg some (by kernel_rfl))
 f277 := Tryz.func157.trans (congrArg some (by kernel_rfl))
 t0 := Tryz.underlying0
 a0 := Tryz.isAgg0
 z0 := Tryz.sizeOf0
 v0 := Tryz.zeroValue0
 t3 := Tryz.underlying3
 a3 := Tryz.isAgg3
 z3 := Tryz.sizeOf3
 v3 := Tryz.zeroValue3
 t4 := Tryz.underlying4
 a4 := Tryz.isAgg4
 z4 := Tryz.sizeOf4
 v4 := Tryz.zeroValue4
 t9 := Tryz.underlying9
 a9 := Tryz.isAgg9
 z9 := Tryz.sizeOf9
 v9 := Tryz.zeroValue9
 t20 := Tryz.underlying20
 a20 := Tryz.isAgg20
 z20 := Tryz.sizeOf20
 v20 := Tryz.zeroValue20
 t31 := Tryz.underlying34
 a31 := Tryz.isAgg34
 z31 := Tryz.sizeOf34
 v31 := Tryz.zeroValue34
 t37 := Tryz.underlying118
 a37 := Tryz.isAgg118
 z37 := Tryz.sizeOf118
 v37 := Tryz.zeroValue118
 t70 := Tryz.underlying150
 a70 := Tryz.isAgg150
 z70 := Tryz.sizeOf150
 v70 := Tryz.zeroValue150
 t72 := Tryz.underlying152
 a72 := Tryz.isAgg152
 z72 := Tryz.sizeOf152
 v72 := Tryz.zeroValue152
 t75 := Tryz.underlying52
 a75 := Tryz.isAgg52
 z75 := Tryz.sizeOf52
 v75 := Tryz.zeroValue52
 t76 := Tryz.underlying154
 a76 := Tryz.isAgg154
 z76 := Tryz.sizeOf154
 v76 := Tryz.zeroValue154
 t127 := Tryz.underlying180
 a127 := Tryz.isAgg180
 z127 := Tryz.sizeOf180
 v127 := Tryz.zeroValue180
 t164 := Tryz.underlying201
 a164 := Tryz.isAgg201
 z164 := Tryz.sizeOf201
 v164 := Tryz.zeroValue201 }
theorem Tryz.Builder_Extra_156 : Builder.Extra Tryz.prog Tryz.lays156_ren := {
 sizeBuilder := by kernel_rfl
 liesBuilder := by kernel_rfl
 t5 := Tryz.underlying5
 a5 := Tryz.isAgg5
 z5 := Tryz.sizeOf5
 v5 := Tryz.zeroValue5
 infoByte := by kernel_rfl
 cellsByte := by kernel_rfl
 sizeByte := by kernel_rfl
 neB5 := by decide }
open Go.RowKit in
theorem Tryz.strings_Join_none (a : Option Addr) (c : Nat) (sep : ByteArray) (w : World) :
  Calls Tryz.prog 56 #[.slice a 0 c, .string sep] w fun e w' => e = .returned (.string ⟨#[]⟩) ∧ w' = w := Any.strings_Join_none Tryz.lays156 Tryz.Builder_Extra_156 a c sep w
open Go.RowKit in
theorem Tryz.strings_Join (bk o c : Nat) (xs : List ByteArray) (sep : ByteArray) (w : World) (hcells : ∀ (j : Nat) x, xs[j]? = some x → w.cell? ⟨bk, o + j, none⟩ = some (.string x)) (hbk : bk < w.heap.size) (hN : xs.length ≤ 140737488355328) (hcap : xs.length ≤ c) (hlen : (Lib.join (xs.map (·.data.toList)) sep.data.toList).length ≤ 140737488355328) :
  Calls Tryz.prog 56 #[.slice (some ⟨bk, o, none⟩) xs.length c, .string sep] w fun e w' => e = .returned (.string ⟨(Lib.join (xs.map (·.data.toList)) sep.data.toList).toArray⟩) ∧ Below w.heap.size w w' := Any.strings_Join Tryz.lays156 Tryz.Builder_Extra_156 bk o c xs sep w hcells hbk hN hcap hlen
def Tryz.laysM171_ren : Go.Shelf.Ren := ⟨fun | 171 => 92 | 243 => 125 | 246 => 158 | 283 => 179 | 284 => 180 | 285 => 181 | 286 => 182 | 129 => 191 | 317 => 190 | 318 => 192 | 319 => 193 | 320 => 194 | 337 => 197 | 338 => 198 | n => n, fun | 3 => 3 | 9 => 9 | 2 => 2 | 4 => 4 | 171 => 216 | 0 => 0 | 53 => 217 | 37 => 118 | 5 => 5 | 173 => 220 | 212 => 233 | 51 => 223 | 20 => 20 | 213 => 234 | 46 => 205 | 232 => 246 | 233 => 247 | n => n, fun | 17 => 16 | 18 => 19 | 19 => 20 | n => n⟩
theorem Tryz.laysM171 : Go.Proofs.LaysM.n171 Tryz.prog Tryz.laysM171_ren := {
 mixed := by kernel_rfl
 f129 := Tryz.func191.trans (congrArg some (by kernel_rfl))
 f171 := Tryz.func92.trans (congrArg some (by kernel_rfl))
 f243 := Tryz.func125.trans (congrArg some (by kernel_rfl))
 f246 := Tryz.func158.trans (congrArg some (by kernel_rfl))
 f283 := Tryz.func179.trans (congrArg some (by kernel_rfl))
 f284 := Tryz.func180.trans (congrArg some (by kernel_rfl))
 f285 := Tryz.func181.trans (congrArg some (by kernel_rfl))
 f286 := Tryz.func182.trans (congrArg some (by kernel_rfl))
 f317 := Tryz.func190.trans (congrArg some (by kernel_rfl))
 f318 := Tryz.func192.trans (congrArg some (by kernel_rfl))
 f319 := Tryz.func193.trans (congrArg some (by kernel_rfl))
 f320 := Tryz.func194.trans (congrArg some (by kernel_rfl))
 f337 := Tryz.func197.trans (congrArg some (by kernel_rfl))
 f338 := Tryz.func198.trans (congrArg some (by kernel_rfl))
 t0 := Tryz.underlying0
 a0 := Tryz.isAgg0
 z0 := Tryz.sizeOf0
 v0 := Tryz.zeroValue0
 t2 := Tryz.underlying2
 a2 := Tryz.isAgg2
 z2 := Tryz.sizeOf2
 v2 := Tryz.zeroValue2
 t3 := Tryz.underlying3
 a3 := Tryz.isAgg3
 z3 := Tryz.sizeOf3
 v3 := Tryz.zeroValue3
 t4 := Tryz.underlying4
 a4 := Tryz.isAgg4
 z4 := Tryz.sizeOf4
 v4 := Tryz.zeroValue4
 t5 := Tryz.underlying5
 a5 := Tryz.isAgg5
 z5 := Tryz.sizeOf5
 v5 := Tryz.zeroValue5
 t9 := Tryz.underlying9
 a9 := Tryz.isAgg9
 z9 := Tryz.sizeOf9
 v9 := Tryz.zeroValue9
 t20 := Tryz.underlying20
 a20 := Tryz.isAgg20
 z20 := Tryz.sizeOf20
 v20 := Tryz.zeroValue20
 t37 := Tryz.underlying118
 a37 := Tryz.isAgg118
 z37 := Tryz.sizeOf118
 v37 := Tryz.zeroValue118
 t46 := Tryz.underlying205
 a46 := Tryz.isAgg205
 z46 := Tryz.sizeOf205
 v46 := Tryz.zeroValue205
 t51 := Tryz.underlying223
 a51 := Tryz.isAgg223
 z51 := Tryz.sizeOf223
 v51 := Tryz.zeroValue223
 t53 := Tryz.underlying217
 a53 := Tryz.isAgg217
 z53 := Tryz.sizeOf217
 v53 := Tryz.zeroValue217
 t171 := Tryz.underlying216
 a171 := Tryz.isAgg216
 z171 := Tryz.sizeOf216
 v171 := Tryz.zeroValue216
 t173 := Tryz.underlying220
 a173 := Tryz.isAgg220
 z173 := Tryz.sizeOf220
 v173 := Tryz.zeroValue220
 t212 := Tryz.underlying233
 a212 := Tryz.isAgg233
 z212 := Tryz.sizeOf233
 v212 := Tryz.zeroValue233
 t213 := Tryz.underlying234
 a213 := Tryz.isAgg234
 z213 := Tryz.sizeOf234
 t232 := Tryz.underlying246
 a232 := Tryz.isAgg246
 z232 := Tryz.sizeOf246
 v232 := Tryz.zeroValue246
 t233 := Tryz.underlying247
 a233 := Tryz.isAgg247
 z233 := Tryz.sizeOf247
 v233 := Tryz.zeroValue247
 g17 := by kernel_rfl
 g18 := by kernel_rfl
 g19 := by kernel_rfl
 i0 := by kernel_rfl
 i2 := by kernel_rfl
 i3 := by kernel_rfl
 i4 := by kernel_rfl
 i5 := by kernel_rfl
 i9 := by kernel_rfl
 i20 := by kernel_rfl
 i37 := by kernel_rfl
 i46 := by kernel_rfl
 i51 := by kernel_rfl
 i53 := by kernel_rfl
 i171 := by kernel_rfl
 i173 := by kernel_rfl
 i212 := by kernel_rfl
 i232 := by kernel_rfl
 i233 := by kernel_rfl
 m17 := by kernel_rfl
 m18 := by kernel_rfl
 m19 := by kernel_rfl }
open Go.RowKit Go.Sort Go.Lib in
theorem Tryz.strconv_Itoa (n : Int) (h0 : -9223372036854775808 ≤ n) (h1 : n ≤ 9223372036854775807) (w : World) (htab : Lib.TabIs Tryz.prog w "internal/strconv.uint64pow10" .u64 Lib.pow10Tab) :
  Calls Tryz.prog 92 #[.int .i64 n] w fun e w' => e = .returned (.string ⟨(Lib.itoa n).toArray⟩) ∧ ∃ k os, w' = grow (w.drewN k) os := Any.strconv_Itoa Tryz.laysM171 n h0 h1 w htab
end Go.Proofs
namespace Go.Pl
open Go Go.Sx
def itoaS (n : Int) : List UInt8 := Go.Lib.itoa n
def joinS (l : List (List UInt8)) (sep : List UInt8) : List UInt8 := Go.Lib.join l sep
def in64 (n : Int) : Bool := decide (-9223372036854775808 ≤ n ∧ n ≤ 9223372036854775807)
def shortB (l : List UInt8) : Bool := decide (l.length ≤ 140737488355328)
end Go.Pl
namespace Go.Proofs
open Go Go.Sx Go.Pl Go.RowKit Go.Sort Go.Lib
theorem rep_i_eq {H : Mem} {k : IntKind} {n : Int} {v : Value} (h : Rep H (.i k n) v) : v = .int k n := by cases h; rfl
theorem rep_str_eq {H : Mem} {l : List UInt8} {v : Value} (h : Rep H (.str l) v) : v = .string ⟨l.toArray⟩ := by cases h; rfl
theorem below_grown7 (w : World) (k : Nat) (os : Array Obj) : Below w.heap.size w (grow (w.drewN k) os) :=
 ⟨rfl, rfl, rfl, by show w.heap.size ≤ (w.heap ++ os).size; rw [Array.size_append]; omega, fun j hj => by
  show (w.heap ++ os)[j]? = w.heap[j]?
  rw [Array.getElem?_append_left hj]⟩
theorem tab7 {H : Mem} {w : World} (on : H.on w) (hg : GlobOK (gls7 W7) H) : Lib.TabIs Tryz.prog w "internal/strconv.uint64pow10" .u64 Lib.pow10Tab := by
 obtain ⟨⟨cs, e, f, h1, h2⟩, c, h3, h4⟩ : GlobAt H 16 (.tup (pow10.map (Sh.i .u64))) := hg 16 _ (by rfl)
 have hgl : Tryz.prog.globalNamed "internal/strconv.uint64pow10" = some 16 := by kernel_rfl
 unfold Lib.TabIs World.var?
 rw [hgl]
 simp only [Option.bind_some]
 rw [on _ _ h1]
 simp only [Option.some.injEq]
 apply Array.ext
 ·rw [h2]; rfl
 ·intro i hi hi2
  have hi' : i < (pow10.map (Sh.i .u64)).length := by rw [← h2]; exact hi
  obtain ⟨q1, _⟩ := h3 i hi'
  have q3 : cs[i]? = some (c i) := by simpa [hcell, h1] using q1
  have hip : i < pow10.length := by simpa using hi'
  have q4 := h4 i (.i .u64 pow10[i]) (by rw [List.getElem?_map, List.getElem?_eq_getElem hip]; rfl)
  have q5 : c i = .int .u64 pow10[i] := rep_i_eq q4
  rw [Array.getElem?_eq_getElem hi] at q3
  rw [Option.some.inj q3, q5]
  have e : Lib.pow10Tab = pow10 := by decide
  simp [e]
def F92 : List Sh → Tree Sh
 | [.i .i64 n] => .need (in64 n) (.leaf (.str (itoaS n)))
 | _ => .fail
theorem O92 : FnOK Tryz.prog (gls7 W7) 92 F92 := fnOK_plain fun H w shs args φ on hg hr h => by
 unfold F92 at h
 split at h
 ·obtain ⟨h1, h2⟩ := h
  match args, hr with
  | [v], ⟨hv, _⟩ =>
   cases hv
   have h1 := of_decide_eq_true h1
   exact ⟨_, _, h2, fun _ => rfl, fun _ => .str _, (Tryz.strconv_Itoa _ h1.1 h1.2 w (tab7 on hg)).mono fun e w' ⟨he, k, os, hw⟩ => ⟨he, by rw [hw]; exact below_grown7 w k os⟩⟩
 ·exact h.elim
def F56 : List Sh → Tree Sh
 | [.sl 1 n g, .str sep] => .need (okB (List UInt8) n g) (.need (roomB n 16) (.need (shortB (joinS (lst (List UInt8) n g) sep)) (.leaf (.str (joinS (lst (List UInt8) n g) sep)))))
 | _ => .fail
theorem O56 : FnOK Tryz.prog (gls7 W7) 56 F56 := fnOK_plain fun H w shs args φ on hg hr h => by
 unfold F56 at h
 split at h
 ·rename_i n g sep
  obtain ⟨h1, h2, h3, h4⟩ := h
  match args, hr with
  | [v, u], ⟨hv, hu, _⟩ =>
   cases hu
   have h3 := of_decide_eq_true h3
   refine ⟨_, _, h4, fun _ => rfl, fun _ => .str _, ?_⟩
   cases hv with
   | sl0 _ _ A cap hc =>
    refine (Tryz.strings_Join_none A cap ⟨sep.toArray⟩ w).mono fun e w' ⟨he, hw⟩ => ⟨?_, hw ▸ Below.refl _ _⟩
    rw [he]; rfl
   | sl _ _ _ b off cap c q1 q2 q3 q4 q5 q6 =>
    have hs : ∀ i, i < n → c i 0 = .string ⟨(rwAt (α := List UInt8) g i).toArray⟩ := fun i hi =>
     rep_str_eq (q6 i 0 (.str (rwAt (α := List UInt8) g i)) hi (by rw [okB_at h1 i hi]; rfl))
    have hcell : ∀ i, i < n → w.cell? ⟨b, off + i, none⟩ = some (.string ⟨(rwAt (α := List UInt8) g i).toArray⟩) := fun i hi => by
     have := hcell_on on (q4 i 0 hi (by decide))
     simpa [hs i hi] using this
    by_cases hn : n = 0
    ·subst hn
     refine (Tryz.strings_Join_none _ cap ⟨sep.toArray⟩ w).mono fun e w' ⟨he, hw⟩ => ⟨?_, hw ▸ Below.refl _ _⟩
     rw [he]; rfl
    have hb : b < w.heap.size := by
     have := hcell 0 (by omega)
     unfold World.cell? at this
     cases hq : w.heap[b]? with
     | none => simp [hq] at this
     | some o => exact (Array.getElem?_eq_some_iff.1 hq).1
    have hl : (((lst (List UInt8) n g).map fun l => (⟨l.toArray⟩ : ByteArray)).map (·.data.toList)) = lst (List UInt8) n g := by
     rw [List.map_map]; simp [Function.comp_def]
    have hlen : ((lst (List UInt8) n g).map fun l => (⟨l.toArray⟩ : ByteArray)).length = n := by simp
    have := Tryz.strings_Join b off cap ((lst (List UInt8) n g).map fun l => (⟨l.toArray⟩ : ByteArray)) ⟨sep.toArray⟩ w (fun j x hx => by
     have hj : j < n := by
      have := (List.getElem?_eq_some_iff.1 hx).1
      simpa using this
     rw [hcell j hj]
     simp [lst, hj] at hx
     rw [← hx]) hb (by rw [hlen]; have := of_decide_eq_true h2; omega) (by rw [hlen]; exact q1) (by rw [hl]; exact h3)
    rw [hl, hlen] at this
    exact this
 ·exact h.elim
end Go.Proofs
namespace Go.Proofs
open Go.Shelf Go.RowKit Go.Lib
theorem index_one (s : ByteArray) (c : UInt8) (w : World) : Calls Tryz.prog 134 #[.string s, .string ⟨#[c]⟩] w fun e w' => e = .returned (.int .i64 (Lib.indexByte s.data.toList c)) ∧ w' = w := Any.stringslite_Index_one Tryz.lays219 s c w
set_option maxHeartbeats 1000000 in
set_option maxRecDepth 100000 in
theorem cut_walk (s : ByteArray) (c : UInt8) (w : World) (hs : s.size < 4294967281) :
  Calls Tryz.prog 109 #[.string s, .string ⟨#[c]⟩] w fun e w' => e = .returned (.tuple #[.string ⟨(Lib.cut s.data.toList [c]).1.toArray⟩, .string ⟨(Lib.cut s.data.toList [c]).2.1.toArray⟩, .bool (Lib.cut s.data.toList [c]).2.2]) ∧ ∃ n, w' = w.drewN n := by
 have hI := index_one s c w
 have hx : Lib.indexByte s.data.toList c = Lib.indexB s ⟨#[c]⟩ := (Lib.index_one _ _).symm
 rw [hx] at hI
 rcases Lib.indexB_cases s ⟨#[c]⟩ with hix | ⟨i, hix, hroom⟩
 ·obtain ⟨e1, e2, e3⟩ := Lib.cutB_miss s ⟨#[c]⟩ hix
  rw [hix] at hI
  go_enter Tryz.func109, Tryz.ntmps109
  go_wp2_with (refine hI.mono ?_; rintro e w' ⟨rfl, rfl⟩)
  go_ret3
  refine ⟨?_, 0, rfl⟩
  rw [e1, e2, e3]; rfl
 ·obtain ⟨e1, e2, e3⟩ := Lib.cutB_hit s ⟨#[c]⟩ i hix
  rw [hix] at hI
  have c1 : (0 : Int) ≤ ↑i := by omega
  have c2 : (↑i : Int) ≤ ↑s.size := by omega
  have hone : (⟨#[c]⟩ : ByteArray).size = 1 := rfl
  rw [hone] at hroom e2
  have cw : IntKind.i64.wrap ((i : Int) + 1) = (i : Int) + 1 := by
   rw [Go.Pl.wrap_id (by omega) (by omega)]
  have c3 : (0 : Int) ≤ IntKind.i64.wrap ((i : Int) + 1) := by omega
  have c4 : IntKind.i64.wrap ((i : Int) + 1) ≤ (s.size : Int) := by omega
  go_enter Tryz.func109, Tryz.ntmps109
  go_wp2_with (refine hI.mono ?_; rintro e w' ⟨rfl, rfl⟩)
  go_region
  go_wp2
  go_ret3
  refine ⟨?_, 1, rfl⟩
  rw [e1, e2, e3]; rfl
end Go.Proofs
namespace Go.Pl
open Go Go.Sx
def cutS (l : List UInt8) (c : UInt8) : List UInt8 × List UInt8 × Bool := Go.Lib.cut l [c]
def cutA (l : List UInt8) (c : UInt8) : List UInt8 := (cutS l c).1
def cutB (l : List UInt8) (c : UInt8) : List UInt8 := (cutS l c).2.1
def cutI (l : List UInt8) (c : UInt8) : Bool := (cutS l c).2.2
def splitS (l : List UInt8) (c : UInt8) : List (List UInt8) := Go.Lib.split l [c]
def splitN (l : List UInt8) (c : UInt8) : Nat := (splitS l c).length
noncomputable def splitG (l : List UInt8) (c : UInt8) : Nat → List Sh := fnR (nth (splitS l c))
def shortS (l : List UInt8) : Bool := decide (l.length ≤ 1000000000)
def okA (l : List UInt8) : Bool := match Go.Lib.atoiAll l with
 | .ok _ => true
 | _ => false
def valA (l : List UInt8) : Int := match Go.Lib.atoiAll l with
 | .ok v => v
 | .range => Go.Lib.atoiSat l
 | _ => 0
def errA (l : List UInt8) : Nat := match Go.Lib.atoiAll l with
 | .range => 15
 | _ => 14
end Go.Pl
namespace Go.Proofs
open Go Go.Sx Go.Pl Go.RowKit
theorem specRes_new {H H' : Mem} {w w' : World} {s : Sh} {v : Value} (hle : H.le H') (on : H.on w) (on' : H'.on w') (h : Below w.heap.size w w') (fr : ∀ b, H' b ≠ none → H b ≠ none ∨ w.heap.size ≤ b) (hs : ∀ b0, (ofSh s b0).2 = ([], b0)) (hd : ∀ b0, Den H' (fun _ => none) (ofSh s b0).1 v) : SpecRes H w s v H' w' := by
 refine ⟨hle, on', h.os, h.tape, h.output, h.size, h.block, fr, fun b0 => ⟨fun _ => none, fun i hi => (hi rfl).elim, fun i b hb => by simp [bk] at hb, hd b0, ?_⟩⟩
 rw [hs b0]
 exact ⟨fun _ _ h => by simp [insAll, look?] at h, fun _ _ _ _ _ h => by simp [insAll, look?] at h⟩
def memWith (H : Mem) (N : Nat) (o : Obj) : Mem := fun b => if b = N then some o else H b
theorem memWith_ok {H : Mem} {w w' : World} {N : Nat} {o : Obj} (on : H.on w) (hb : Below w.heap.size w w') (hN : w.heap.size ≤ N) (ho : w'.heap[N]? = some o) :
  H.le (memWith H N o) ∧ (memWith H N o).on w' ∧ ∀ b, memWith H N o b ≠ none → H b ≠ none ∨ w.heap.size ≤ b := by
 have lt (b : Nat) (x : Obj) (e : H b = some x) : b < w.heap.size := (Array.getElem?_eq_some_iff.1 (on b x e)).1
 refine ⟨fun b x e => ?_, fun b x e => ?_, fun b e => ?_⟩
 ·have := lt b x e
  unfold memWith
  rw [if_neg (by omega)]; exact e
 ·unfold memWith at e
  split at e
  ·rename_i q; subst q; rw [ho]; exact e
  ·rw [hb.block b (lt b x e)]; exact on b x e
 ·unfold memWith at e
  split at e
  ·rename_i q; subst q; exact .inr hN
  ·exact .inl e
def F109 : List Sh → Tree Sh
 | [.str l, .str [c]] => .need (shortS l) (.leaf (.tup [.str (cutA l c), .str (cutB l c), .b (cutI l c)]))
 | _ => .fail
theorem O109 : FnOK Tryz.prog (gls7 W7) 109 F109 := fnOK_plain fun H w shs args φ on hg hr h => by
 unfold F109 at h
 split at h
 ·rename_i l c
  obtain ⟨h1, h2⟩ := h
  match args, hr with
  | [v, u], ⟨hv, hu, _⟩ =>
   cases hv
   cases hu
   have h1 : l.length ≤ 1000000000 := of_decide_eq_true h1
   refine ⟨_, _, h2, fun _ => rfl, fun _ => ?_, (cut_walk ⟨l.toArray⟩ c w (by show l.toArray.size < _; simp; omega)).mono fun e w' ⟨he, k, hw⟩ => ⟨he, by rw [hw]; exact ⟨rfl, rfl, rfl, Nat.le_refl _, fun _ _ => rfl⟩⟩⟩
   exact ⟨_, rfl, .str _, .str _, rfl, trivial⟩
 ·exact h.elim
theorem split_walk (s : ByteArray) (c : UInt8) (w : World) (hs : s.size < 4294967281) :
  Calls Tryz.prog 108 #[.string s, .string ⟨#[c]⟩, .int .i64 0, .int .i64 (-1)] w fun e w' =>
   e = .returned (.slice (some ⟨w.heap.size, 0, none⟩) (Lib.splitB ⟨#[c]⟩ 0 (Lib.countB s ⟨#[c]⟩) s).length (Lib.splitB ⟨#[c]⟩ 0 (Lib.countB s ⟨#[c]⟩) s).length) ∧ w' = w.alloc (.cells ((Lib.splitB ⟨#[c]⟩ 0 (Lib.countB s ⟨#[c]⟩) s).map Value.string).toArray 9) := by
 have hcnt : ((Lib.countByte s.data.toList c : Nat) : Int) = (Lib.countB s ⟨#[c]⟩ : Nat) := by
  show _ = ((Lib.count s.data.toList [c] : Nat) : Int)
  rw [Lib.count_one]
  rfl
 have hlen := Lib.splitB_all ⟨#[c]⟩ (Nat.le_refl 1) 0 _ s rfl
 have hle := Lib.countB_le ⟨#[c]⟩ (Nat.le_refl 1) s.size s (Nat.le_refl _)
 have q := Any.strings_genSplit_core Tryz.lays221 (by kernel_rfl) s ⟨#[c]⟩ 0 (-1) (Lib.countB s ⟨#[c]⟩ + 1) w hs (Nat.le_refl 1) (Nat.zero_le _)
  (fun x cs hx => by
   have := Any.strings_Index_one Tryz.lays143 x c (w.alloc (.cells cs 9))
   rw [show Lib.indexByte x.data.toList c = Lib.indexB x ⟨#[c]⟩ from (Lib.index_one _ _).symm] at this
   exact this)
  (by
   have := Any.strings_Count_one Tryz.lays138 s c w
   rw [hcnt] at this
   exact this) (by decide) (by decide) (by rw [if_pos (by decide)]; omega)
 rw [Nat.add_sub_cancel, hlen] at q
 rw [hlen]
 have e2 : Lib.cellsOf (Lib.splitB ⟨#[c]⟩ 0 (Lib.countB s ⟨#[c]⟩) s) (Lib.countB s ⟨#[c]⟩ + 1) = ((Lib.splitB ⟨#[c]⟩ 0 (Lib.countB s ⟨#[c]⟩) s).map Value.string).toArray := by rw [← hlen]; exact Lib.cellsOf_full _
 rw [e2] at q
 exact q
noncomputable def F108 : List Sh → Tree Sh
 | [.str l, .str [c], .v (.int .i64 0), .v (.int .i64 (Int.negSucc 0))] => .need (shortS l) (.leaf (.sl 1 (splitN l c) (splitG l c)))
 | _ => .fail
theorem splitB_eq (l : List UInt8) (c : UInt8) : (Lib.splitB ⟨#[c]⟩ 0 (Lib.countB ⟨l.toArray⟩ ⟨#[c]⟩) ⟨l.toArray⟩).map (·.data.toList) = splitS l c := by
 rw [Lib.splitB_data]
 rfl
theorem O108 : FnOK Tryz.prog (gls7 W7) 108 F108 := by
 intro H w shs args φ on hg hr h
 unfold F108 at h
 split at h
 ·rename_i l c
  obtain ⟨h1, h2⟩ := h
  match args, hr with
  | [v0, v1, v2, v3], ⟨r0, r1, r2, r3, _⟩ =>
   cases r0
   cases r1
   cases r2
   cases r3
   have h1 : l.length ≤ 1000000000 := of_decide_eq_true h1
   have hle := Lib.countB_le ⟨#[c]⟩ (Nat.le_refl 1) (⟨l.toArray⟩ : ByteArray).size ⟨l.toArray⟩ (Nat.le_refl _)
   have hsz : (⟨l.toArray⟩ : ByteArray).size = l.length := by show l.toArray.size = _; simp
   have hlen := Lib.splitB_all ⟨#[c]⟩ (Nat.le_refl 1) 0 _ ⟨l.toArray⟩ rfl
   have e := splitB_eq l c
   refine (split_walk ⟨l.toArray⟩ c w (by omega)).mono fun en w' ⟨he, hw⟩ => ?_
   generalize Lib.splitB ⟨#[c]⟩ 0 (Lib.countB ⟨l.toArray⟩ ⟨#[c]⟩) ⟨l.toArray⟩ = B at *
   have hn : B.length = splitN l c := by unfold splitN; rw [← e, List.length_map]
   have hb : Below w.heap.size w w' := by rw [hw]; exact (Below.refl _ _).alloc (Nat.le_refl _) _
   have ho : w'.heap[w.heap.size]? = some (.cells (B.map Value.string).toArray 9 (0, 0)) := by rw [hw]; exact Array.getElem?_push_size
   obtain ⟨m1, m2, m3⟩ := memWith_ok on hb (Nat.le_refl _) ho
   refine ⟨_, _, memWith H w.heap.size (.cells (B.map Value.string).toArray 9 (0, 0)), he, h2, specRes_new m1 on m2 hb m3 (fun _ => rfl) fun _ => ?_⟩
   have cell (j : Nat) (hj : j < B.length) : hcell (memWith H w.heap.size (.cells (B.map Value.string).toArray 9 (0, 0))) w.heap.size j = some (.string B[j]) := by
    unfold hcell memWith
    rw [if_pos rfl]
    simp [hj]
   rw [← hn]
   refine .sl _ _ _ w.heap.size 0 B.length (fun i _ => .string (B.getD i ⟨#[]⟩)) (Nat.le_refl _) ?_ (fun i hi => rfl) (fun i j hi hj => ?_) (fun i j hi hj => rfl) (fun i j s hi hs => ?_)
   ·rw [Go.Pl.maxLen_eq]; omega
   ·have : j = 0 := by omega
    subst this
    rw [show 0 + i * 1 + 0 = i by omega, cell i hi]
    simp [List.getD, hi]
   ·have : j = 0 := by
     match j, hs with
     | 0, _ => rfl
     | j + 1, hs => cases hs
    subst this
    cases hs
    have : nth (splitS l c) i = (B[i]).data.toList := by
     rw [← e]
     simp [nth, hi]
    rw [this]
    have e2 : B.getD i ⟨#[]⟩ = ⟨(B[i]).data.toList.toArray⟩ := by simp [List.getD, hi]
    show Rep _ (.str _) (.string (B.getD i ⟨#[]⟩))
    rw [e2]
    exact .str _
 ·exact h.elim
noncomputable def F110 : List Sh → Tree Sh
 | [.str l] => .need (shortS l) (.node (okA l) (.leaf (.tup [.i .i64 (valA l), .v .nilIface])) (.leaf (.tup [.i .i64 (valA l), .ifc 213 (.pt [.str [65, 116, 111, 105], .str l, .er (errA l) 242])])))
 | _ => .fail
theorem atoi_er {H : Mem} {w w' : World} {l : List UInt8} {n : Int} {g N : Nat} {ev : Value} (on : H.on w) (hb : Below w.heap.size w w') (hN : w.heap.size ≤ N)
  (hev : Rep H (.er g 242) ev) (ho : w'.heap[N]? = some (.cells #[.string ⟨#[65, 116, 111, 105]⟩, .string ⟨l.toArray⟩, ev] 230 (0, 0))) :
  ∃ H', SpecRes H w (.tup [.i .i64 n, .ifc 213 (.pt [.str [65, 116, 111, 105], .str l, .er g 242])]) (.tuple #[.int .i64 n, .iface 213 (.pointer (some ⟨N, 0, none⟩))]) H' w' := by
 obtain ⟨m1, m2, m3⟩ := memWith_ok on hb hN ho
 refine ⟨memWith H N _, specRes_new m1 on m2 hb m3 (fun _ => rfl) fun _ => ?_⟩
 have cell (j : Nat) (v : Value) (h : (#[.string ⟨#[65, 116, 111, 105]⟩, .string ⟨l.toArray⟩, ev] : Array Value)[j]? = some v) : hcell (memWith H N (.cells #[.string ⟨#[65, 116, 111, 105]⟩, .string ⟨l.toArray⟩, ev] 230 (0, 0))) N j = some v := by
  unfold hcell memWith
  rw [if_pos rfl]
  exact h
 refine ⟨_, rfl, rfl, .ifc _ _ _ (.pt _ N 0 (fun j => match j with | 0 => .string ⟨#[65, 116, 111, 105]⟩ | 1 => .string ⟨l.toArray⟩ | _ => ev) (fun j hj => ?_) (fun j hj => ?_) (fun j s hs => ?_)), trivial⟩
 ·match j, hj with
  | 0, _ => exact cell 0 _ rfl
  | 1, _ => exact cell 1 _ rfl
  | 2, _ => exact cell 2 _ rfl
  | j + 3, hj => simp at hj; omega
 ·match j, hj with
  | 0, _ => rfl
  | 1, _ => rfl
  | 2, _ =>
   cases hev
   rfl
  | j + 3, hj => simp at hj; omega
 ·match j, hs with
  | 0, hs => cases hs; exact .str _
  | 1, hs => cases hs; exact .str _
  | 2, hs => cases hs; exact hev.le m1
theorem O110 : FnOK Tryz.prog (gls7 W7) 110 F110 := by
 intro H w shs args φ on hg hr h
 unfold F110 at h
 split at h
 ·rename_i l
  obtain ⟨h1, hy, hn⟩ := h
  match args, hr with
  | [v0], ⟨r0, _⟩ =>
   cases r0
   have h1 : l.length ≤ 1000000000 := of_decide_eq_true h1
   have hsz : (⟨l.toArray⟩ : ByteArray).size = l.length := by show l.toArray.size = _; simp
   have ev (g : Nat) (hgl : look? (gls7 W7) g = some (.er g 242)) : ∃ v, w.cell? ⟨g, 0, none⟩ = some v ∧ Rep H (.er g 242) v := by
    obtain ⟨v, q1, q2, _⟩ : GlobAt H g (.er g 242) := hg g _ hgl
    refine ⟨v, ?_, q2⟩
    unfold hcell at q1
    split at q1
    ·rename_i cs e f hh
     have := on _ _ hh
     unfold World.cell?
     simp only [this]
     simpa using q1
    ·cases q1
   have isif (g : Nat) (v : Value) (r : Rep H (.er g 242) v) : v = .nilIface ∨ ∃ te pe, v = .iface te pe := by
    cases r
    exact .inr ⟨_, _, rfl⟩
   rcases ha : Lib.atoiAll l with v | _ | _
   ·have hok : okA l = true := by unfold okA; rw [ha]
    have hv : valA l = v := by unfold valA; rw [ha]
    have hy := hy hok
    rw [hv] at hy
    refine (Any.strconv_Atoi_ok Tryz.laysC172 ⟨l.toArray⟩ (by omega) v ha w).mono fun e w' ⟨he, hw⟩ => ?_
    have hb : Below w.heap.size w w' := by
     rcases hw with rfl | ⟨t, rfl⟩
     ·exact Below.refl _ _
     ·exact Lib.bytesWorld_below _ _ _
    exact ⟨_, _, H, he, hy, specRes_plain (fun _ => rfl) (fun _ => ⟨_, rfl, rfl, rfl, trivial⟩) on hb⟩
   ·have hok : okA l = false := by unfold okA; rw [ha]
    have hv : valA l = 0 := by unfold valA; rw [ha]
    have he : errA l = 14 := by unfold errA; rw [ha]
    have hn := hn hok
    rw [hv, he] at hn
    obtain ⟨v, q1, q2⟩ := ev 14 (by rfl)
    refine (Any.strconv_Atoi_syntax Tryz.laysC172 ⟨l.toArray⟩ (by omega) ha v w q1 (isif 14 v q2)).mono fun e w' ⟨N, he, hN, ho, hb⟩ => ?_
    obtain ⟨H', r⟩ := atoi_er (n := 0) on hb hN q2 ho
    exact ⟨_, _, H', he, hn, r⟩
   ·have hok : okA l = false := by unfold okA; rw [ha]
    have hv : valA l = Lib.atoiSat l := by unfold valA; rw [ha]
    have he : errA l = 15 := by unfold errA; rw [ha]
    have hn := hn hok
    rw [hv, he] at hn
    obtain ⟨v, q1, q2⟩ := ev 15 (by rfl)
    refine (Any.strconv_Atoi_range Tryz.laysC172 ⟨l.toArray⟩ (by omega) ha v w q1 (isif 15 v q2)).mono fun e w' ⟨N, he, hN, ho, hb⟩ => ?_
    obtain ⟨H', r⟩ := atoi_er (n := Lib.atoiSat l) on hb hN q2 ho
    exact ⟨_, _, H', he, hn, r⟩
 ·exact h.elim
end Go.Proofs
namespace Go.Sx
mutual
def Wk : Sh → Sh → Prop
 | .os _ st n g, s' => match s' with
  | .sl st' n' g' => (n = 0 ∧ n' = 0) ∨ (st = st' ∧ n = n' ∧ ∀ i, i < n → g i = g' i)
  | _ => False
 | .sl st n g, s' => match s' with
  | .sl st' n' g' => (n = 0 ∧ n' = 0) ∨ (st = st' ∧ n = n' ∧ ∀ i, i < n → g i = g' i)
  | _ => False
 | .agg l, s' => match s' with
  | .agg l' => WkL l l'
  | _ => False
 | .tup l, s' => match s' with
  | .tup l' => WkL l l'
  | _ => False
 | .b x, s' => s' = .b x ∨ s' = .v (.bool x)
 | s, s' => s = s'
def WkL : List Sh → List Sh → Prop
 | [], [] => True
 | x :: l, y :: r => Wk x y ∧ WkL l r
 | _, _ => False
end
theorem rep_sl_wk {H : Mem} {st n : Nat} {g : Nat → List Sh} {v : Value} (h : Rep H (.sl st n g) v) {st' n' : Nat} {g' : Nat → List Sh} (hw : (n = 0 ∧ n' = 0) ∨ (st = st' ∧ n = n' ∧ ∀ i, i < n → g i = g' i)) : Rep H (.sl st' n' g') v := by
 rcases hw with ⟨rfl, rfl⟩ | ⟨rfl, rfl, hg⟩
 ·cases h with
  | sl0 _ _ A cap hc => exact .sl0 _ _ _ _ hc
  | sl _ _ _ b off cap c h1 h2 h3 h4 h5 h6 => exact .sl0 _ _ _ _ h2
 ·cases h with
  | sl0 _ _ A cap hc => exact .sl0 _ _ _ _ hc
  | sl _ _ _ b off cap c h1 h2 h3 h4 h5 h6 => exact .sl _ _ _ b off cap c h1 h2 (fun i hi => by rw [← hg i hi]; exact h3 i hi) h4 h5 fun i j s hi e => h6 i j s hi (by rw [hg i hi]; exact e)
mutual
theorem wk_den {H : Mem} : ∀ (s s' : Sh) (b b' : Nat) (v : Value), Wk s s' → Den H Env0 (ofSh (frz s) b).1 v → Den H Env0 (ofSh s' b').1 v ∧ (ofSh s' b').2 = ([], b')
 | .os e st n g, s', b, b', v, hw, h => by
  cases s' <;> simp only [Wk] at hw
  rename_i st' n' g'
  exact ⟨rep_sl_wk (show Rep H (.sl st n g) v from h) hw, rfl⟩
 | .sl st n g, s', b, b', v, hw, h => by
  cases s' <;> simp only [Wk] at hw
  rename_i st' n' g'
  exact ⟨rep_sl_wk (show Rep H (.sl st n g) v from h) hw, rfl⟩
 | .agg l, s', b, b', v, hw, h => by
  cases s' <;> simp only [Wk] at hw
  rename_i l'
  obtain ⟨vs, rfl, h⟩ := h
  obtain ⟨q1, q2⟩ := wk_denL l l' b b' vs.toList hw h
  exact ⟨⟨vs, rfl, q1⟩, q2⟩
 | .tup l, s', b, b', v, hw, h => by
  cases s' <;> simp only [Wk] at hw
  rename_i l'
  obtain ⟨vs, rfl, h⟩ := h
  obtain ⟨q1, q2⟩ := wk_denL l l' b b' vs.toList hw h
  exact ⟨⟨vs, rfl, q1⟩, q2⟩
 | .b x, s', b, b', v, hw, h => by
  simp only [Wk] at hw
  rcases hw with rfl | rfl
  ·exact ⟨h, rfl⟩
  ·exact ⟨h, rfl⟩
 | .i k n, s', b, b', v, hw, h => by simp only [Wk] at hw; subst hw; exact ⟨h, rfl⟩
 | .v x, s', b, b', v, hw, h => by simp only [Wk] at hw; subst hw; exact ⟨h, rfl⟩
 | .str l, s', b, b', v, hw, h => by simp only [Wk] at hw; subst hw; exact ⟨h, rfl⟩
 | .ifc t x, s', b, b', v, hw, h => by simp only [Wk] at hw; subst hw; exact ⟨h, rfl⟩
 | .fn f l, s', b, b', v, hw, h => by simp only [Wk] at hw; subst hw; exact ⟨h, rfl⟩
 | .er g T, s', b, b', v, hw, h => by simp only [Wk] at hw; subst hw; exact ⟨h, rfl⟩
 | .pt l, s', b, b', v, hw, h => by simp only [Wk] at hw; subst hw; exact ⟨h, rfl⟩
theorem wk_denL {H : Mem} : ∀ (l l' : List Sh) (b b' : Nat) (vs : List Value), WkL l l' → DenL H Env0 (ofShL (frzL l) b).1 vs → DenL H Env0 (ofShL l' b').1 vs ∧ (ofShL l' b').2 = ([], b')
 | [], [], _, _, [], _, _ => ⟨trivial, rfl⟩
 | [], _ :: _, _, _, _, hw, _ => by simp [WkL] at hw
 | _ :: _, [], _, _, _, hw, _ => by simp [WkL] at hw
 | [], [], _, _, _ :: _, _, h => h.elim
 | _ :: _, _ :: _, _, _, [], _, h => h.elim
 | x :: l, y :: r, b, b', v :: vs, hw, h => by
  simp only [WkL] at hw
  obtain ⟨h1, h2⟩ := h
  obtain ⟨q1, q2⟩ := wk_den x y b b' v hw.1 h1
  obtain ⟨q3, q4⟩ := wk_denL l r _ b' vs hw.2 h2
  simp only [ofShL]
  rw [q2]
  simp only [List.nil_append]
  exact ⟨⟨q1, q3⟩, q4⟩
end
mutual
theorem frz_noId : ∀ (s : Sh) (b : Nat), noId (ofSh (frz s) b).1 = true
 | .os _ _ _ _, _ => rfl
 | .agg l, b => by simpa [frz, ofSh, noId] using frz_noIdL l b
 | .tup l, b => by simpa [frz, ofSh, noId] using frz_noIdL l b
 | .i _ _, _ => rfl
 | .b _, _ => rfl
 | .v x, _ => noId_lit x
 | .str _, _ => rfl
 | .sl _ _ _, _ => rfl
 | .ifc _ _, _ => rfl
 | .fn f l, _ => noId_fn f l
 | .er _ _, _ => rfl
 | .pt _, _ => rfl
theorem frz_noIdL : ∀ (l : List Sh) (b : Nat), noIdL (ofShL (frzL l) b).1 = true
 | [], _ => rfl
 | x :: r, b => by simp [frzL, ofShL, noIdL, frz_noId x b, frz_noIdL r]
end
theorem SpecRes.wk {H : Mem} {w : World} {s s' : Sh} {v : Value} {H' : Mem} {w' : World} (r : SpecRes H w s v H' w') (hw : Wk s s') : ∃ H2, SpecRes H w s' v H2 w' := by
 obtain ⟨H2, r⟩ := r.frz
 obtain ⟨E1, h1, h2, h3, h4⟩ := r.res 0
 have hd0 : Den H2 Env0 (ofSh (Go.Sx.frz s) 0).1 v := noId_den (E := E1) (frz_noId s 0) h3
 refine ⟨H2, r.Hle, r.on, r.os, r.tape, r.output, r.size, r.old, r.fresh, fun b0 => ⟨Env0, fun i hi => (hi rfl).elim, fun i b hb => by simp [bk, Env0] at hb, (wk_den s s' 0 b0 v hw hd0).1, ?_⟩⟩
 rw [(wk_den s s' 0 b0 v hw hd0).2]
 exact heap_nil
def up (φ : Sh → Prop) (s : Sh) : Prop := ∃ s', Wk s s' ∧ φ s'
def nH0 : Nat → Bool := fun _ => false
section
variable {P : Program} {C : Ctx}
theorem calls_S (hC : CtxOK P C) {g : Nat} {fn : Func} (hfn : C.fns.get g = some fn) (hb : fn.body.isSome = true) {H : Mem} {w : World} {shs' : List Sh} {args : List Value} {φ : Sh → Prop} {L : Nat} (hon : H.on w) (hg : GlobOK C.gls H) (hr : RepL H shs' args)
  (hgo : GoesS P C (K0 H w) g [.code []] (start0 fn.ntmps shs' L) [] emp φ) : Calls P g args.toArray w fun e w' => ∃ v s H', e = .returned v ∧ φ s ∧ SpecRes H w s v H' w' := by
 obtain ⟨body, hbody⟩ := Option.isSome_iff_exists.1 hb
 have hP := hC.fn g fn hfn
 intro cs
 let a : Act := { tmps := args.toArray ++ Array.replicate (fn.ntmps - args.toArray.size) undef, defers := [] }
 have hlen := hr.length
 have st : St C (K0 H w) H E0 w (start0 fn.ntmps shs' L) a := by
  refine ⟨?_, ⟨fun _ _ h => by simp [start0, look?] at h, fun _ _ _ _ _ h => by simp [start0, look?] at h⟩, ⟨rfl, rfl, rfl, Nat.le_refl _, fun _ _ _ => rfl, hon, fun _ _ h => h, fun _ h => .inl h⟩, fun _ _ _ => rfl, hg, rfl⟩
  have : a.tmps.toList = args ++ List.replicate (fn.ntmps - shs'.length) undef := by simp [a, hlen]
  rw [this]
  exact (argL_den hr).append (DenL.any _ _ (by simp))
 have hit : ItOK (bodyOf fn) [.code []] [.code body] := by
  have := ItOK.code (body := bodyOf fn) [] ItOK.nil
  have he : codeAt (bodyOf fn) [] = body := by simp [codeAt, bodyOf, hbody]
  rwa [he] at this
 obtain ⟨a', w', v, s, H', todo, fn0, q0, q1, q2, q3, q4, q5⟩ := hgo H E0 w a [.code body] [] cs fn hfn st hit trivial ext_emp
 exact ⟨.returned v, w', _, ⟨v, s, H', rfl, q3, q4⟩, by rw [enter_base hP hbody]; exact q1, rfl, rfl, q2, rfl, fn, hP, by cases hfn.symm.trans q0; exact q5⟩
theorem fnOK_Su (hC : CtxOK P C) {g : Nat} {fn : Func} {F : List Sh → Tree Sh} (hfn : C.fns.get g = some fn) (hb : fn.body.isSome = true)
  (h : ∀ (H : Mem) (w : World) (shs : List Sh) (args : List Value) (φ : Sh → Prop), RepL H shs args → (F shs).All φ → ∃ shs' : List Sh, RepL H shs' args ∧ ∃ L, GoesS P C (K0 H w) g [.code []] (start0 fn.ntmps shs' L) [] emp (up φ)) : FnOK P C.gls g F := by
 intro H w shs args φ hon hg hr hφ
 obtain ⟨shs', hr', L, hgo⟩ := h H w shs args φ hr hφ
 refine (calls_S hC hfn hb hon hg hr' hgo).mono fun e w' ⟨v, s, H', he, ⟨s', hw, hs⟩, r⟩ => ?_
 obtain ⟨H2, r2⟩ := r.wk hw
 exact ⟨v, s', H2, he, hs, r2⟩
theorem fnOK_Ru (hC : CtxOK P C) (hF : FnsOK P C) {m n g L : Nat} {fn : Func} {F : List Sh → Tree Sh} (hfn : C.fns.get g = some fn) (hb : fn.body.isSome = true)
  (h : ∀ (H : Mem) (w : World) (shs : List Sh) (args : List Value) (φ : Sh → Prop), RepL H shs args → (F shs).All φ → ∃ shs' : List Sh, RepL H shs' args ∧ (runTo C nH0 m n g [.code []] (start0 fn.ntmps shs' L) [] []).All (Fe2OK P C (K0 H w) [] emp (up φ))) : FnOK P C.gls g F :=
 fnOK_Su hC hfn hb fun H w shs args φ hr hφ => let ⟨shs', hr', ha⟩ := h H w shs args φ hr hφ; ⟨shs', hr', L, gSr hC hF ha⟩
end
end Go.Sx
namespace Go.Proofs
open Go Go.Sx Go.Pl
end Go.Proofs
namespace Go.Pl
open Go Go.Sx
def sameL {α : Type} [DecidableEq α] (a b : List α) : Bool := decide (a = b)
theorem sameL_true {α : Type} [DecidableEq α] {a b : List α} (h : a = b) : sameL a b = true := decide_eq_true h
theorem sameL_false {α : Type} [DecidableEq α] {a b : List α} (h : a ≠ b) : sameL a b = false := decide_eq_false h
theorem lst_ext {α : Type} [Row α] {n : Nat} {g h : Nat → List Sh} (e : ∀ j, j < n → (rwAt g j : α) = rwAt h j) : lst α n g = lst α n h := by
 unfold lst
 exact List.map_congr_left fun i hi => e i (List.mem_range.1 hi)
theorem lst_ext' {α : Type} [Row α] {n : Nat} {g h : Nat → List Sh} (e : lst α n g = lst α n h) : ∀ j, j < n → (rwAt g j : α) = rwAt h j := fun j hj => by
 rw [← nth_lst hj, ← nth_lst hj, e]
theorem rep_len {H : Mem} {st n : Nat} {g : Nat → List Sh} {v : Value} (h : Rep H (.sl st n g) v) : n ≤ maxLen := by
 cases h with
 | sl0 => exact Nat.zero_le _
 | sl _ _ _ _ _ _ _ h1 h2 => exact Nat.le_trans h1 h2
end Go.Pl
namespace Go.Proofs
open Go Go.Sx Go.Pl
end Go.Proofs
namespace Go.Pl
open Go Go.Sx
def icode : Sh → Option Int
 | .i .i64 c => some c
 | .v (.int .i64 c) => some c
 | _ => none
def wordO (c : Int) : List UInt8 := if c = 1 then Go.Proofs.W7 7 0 else if c = 2 then Go.Proofs.W7 7 1 else if c = 3 then Go.Proofs.W7 7 2 else if c = 4 then Go.Proofs.W7 7 3 else []
end Go.Pl
namespace Go.Proofs
open Go.Sx.Tree
open Go Go.Sx Go.Pl
def F58 : List Sh → Tree Sh
 | [t, s] => match icode t, icode s with
  | some b, some c => .need (b == 1) (.need (in64 c) (.leaf (.str (wordO c))))
  | _, _ => .fail
 | _ => .fail
def specA : Nat → Option (List Sh → Tree Sh)
 | 92 => some F92
 | 56 => some F56
 | 58 => some F58
 | _ => none
theorem a65 (A : Prim) (W : Wd) (k i : Int) : runTo (C7 A W specA sAl) nH0 300 400 65 [.code []] (start0 36 [.agg [.i .i64 k, .i .i64 i]] L0) [] [] = node (A.eq k (Int.ofNat 1)) (need true (need (in64 k) (node (A.seq (wordO k) []) (leaf (Fe2.ret (Sh.er 0 242))) (node (A.lt i (Int.negSucc 999999999)) (leaf (Fe2.ret (Sh.er 0 242))) (node (A.lt (Int.ofNat 1000000000) i) (leaf (Fe2.ret (Sh.er 0 242))) (leaf (Fe2.ret (Sh.v Value.nilIface)))))))) (need true (need (in64 k) (node (A.seq (wordO k) []) (leaf (Fe2.ret (Sh.er 0 242))) (node (A.lt i (Int.negSucc 999999999)) (leaf (Fe2.ret (Sh.er 0 242))) (node (A.lt (Int.ofNat 1000000000) i) (leaf (Fe2.ret (Sh.er 0 242))) (node (A.nt (A.eq k (Int.ofNat 2))) (node (A.nt (A.eq i (Int.ofNat 0))) (leaf (Fe2.ret (Sh.er 0 242))) (leaf (Fe2.ret (Sh.v Value.nilIface)))) (leaf (Fe2.ret (Sh.v Value.nilIface))))))))) := by kernel_rfl
theorem a59 (A : Prim) (W : Wd) (x : Int) : runTo (C7 A W specA sAl) nH0 300 400 59 [.code []] (start0 5 [.i .i64 x] L0) [] [] = need (in64 x) (leaf (Fe2.ret (Sh.str (itoaS x)))) := by kernel_rfl
theorem a60 (A : Prim) (W : Wd) (n : Nat) (g : Nat → List Sh) : runTo (C7 A W specA sAl) nH0 300 400 60 [.code []] (start0 5 [.sl 1 n g] L0) [] [] = need (okB (List UInt8) n g) (need (roomB n 16) (need (shortB (joinS (lst (List UInt8) n g) [32])) (leaf (Fe2.ret (Sh.str (joinS (lst (List UInt8) n g) [32])))))) := by kernel_rfl
theorem a66 (A : Prim) (W : Wd) (x : Int) : runTo (C7 A W specA sAl) nH0 300 400 66 [.code []] (start0 17 [.i .i64 x] L0) [] [] = node (A.eq x (Int.ofNat 1)) (leaf (Fe2.ret (Sh.i .i64 (Int.ofNat 1)))) (node (A.eq x (Int.ofNat 2)) (leaf (Fe2.ret (Sh.i .i64 (Int.ofNat 1)))) (node (A.eq x (Int.ofNat 3)) (leaf (Fe2.ret (Sh.i .i64 (Int.ofNat 2)))) (node (A.eq x (Int.ofNat 4)) (leaf (Fe2.ret (Sh.i .i64 (Int.ofNat 2)))) (node (A.eq x (Int.ofNat 5)) (leaf (Fe2.ret (Sh.i .i64 (Int.ofNat 3)))) (node (A.eq x (Int.ofNat 6)) (leaf (Fe2.ret (Sh.i .i64 (Int.ofNat 3)))) (node (A.eq x (Int.ofNat 7)) (leaf (Fe2.ret (Sh.i .i64 (Int.ofNat 4)))) (node (A.eq x (Int.ofNat 8)) (leaf (Fe2.ret (Sh.i .i64 (Int.ofNat 4)))) (node (A.eq x (Int.ofNat 9)) (leaf (Fe2.ret (Sh.i .i64 (Int.ofNat 4)))) (leaf (Fe2.ret (Sh.i .i64 (Int.ofNat 0)))))))))))) := by kernel_rfl
theorem a67 (A : Prim) (W : Wd) (x : Int) : runTo (C7 A W specA sAl) nH0 300 400 67 [.code []] (start0 13 [.i .i64 x] L0) [] [] = node (A.eq x (Int.ofNat 7)) (leaf (Fe2.ret (Sh.b true))) (node (A.eq x (Int.ofNat 8)) (leaf (Fe2.ret (Sh.b true))) (leaf (Fe2.ret (Sh.b (A.eq x (Int.ofNat 9)))))) := by kernel_rfl
theorem a68 (A : Prim) (W : Wd) (x : Int) : runTo (C7 A W specA sAl) nH0 300 400 68 [.code []] (start0 17 [.i .i64 x] L0) [] [] = node (A.eq x (Int.ofNat 2)) (leaf (Fe2.ret (Sh.b true))) (node (A.eq x (Int.ofNat 3)) (leaf (Fe2.ret (Sh.b true))) (node (A.eq x (Int.ofNat 5)) (leaf (Fe2.ret (Sh.b true))) (leaf (Fe2.ret (Sh.b (A.eq x (Int.ofNat 7))))))) := by kernel_rfl
theorem a69 (A : Prim) (W : Wd) (k x y : Int) : runTo (C7 A W specA sAl) nH0 300 400 69 [.code []] (start0 27 [.i .i64 k, .i .i64 x, .i .i64 y] L0) [] [] = node (A.eq k (Int.ofNat 2)) (node (A.lt x (Int.ofNat 0)) (leaf (Fe2.ret (Sh.b true))) (node (A.lt (Int.ofNat 1000) x) (leaf (Fe2.ret (Sh.b true))) (node (A.lt y (Int.negSucc 999999999999999)) (leaf (Fe2.ret (Sh.b true))) (leaf (Fe2.ret (Sh.b (A.lt (Int.ofNat 1000000000000000) y))))))) (node (A.lt x (Int.ofNat 0)) (leaf (Fe2.ret (Sh.b true))) (node (A.lt (Int.ofNat 1000) x) (leaf (Fe2.ret (Sh.b true))) (node (A.lt y (Int.negSucc 999999999)) (leaf (Fe2.ret (Sh.b true))) (leaf (Fe2.ret (Sh.b (A.lt (Int.ofNat 1000000000) y))))))) := by kernel_rfl
theorem w58 (A : Prim) (W : Wd) (c : Int) : runTo (C7 A W noSpec sAl) nH0 300 400 58 [.code []] (start0 16 [.v (.int .i64 1), .i .i64 c] L0) [] [] = node (A.lt (A.sub .i64 (A.max c (Int.ofNat 0)) (Int.ofNat 1)) (Int.ofNat 0)) (leaf (Fe2.ret (Sh.str []))) (node (A.le (Int.ofNat 4) (A.sub .i64 (A.max c (Int.ofNat 0)) (Int.ofNat 1))) (leaf (Fe2.ret (Sh.str []))) (need (A.inB (A.sub .i64 (A.max c (Int.ofNat 0)) (Int.ofNat 1)) 4) (node (A.eq (A.sub .i64 (A.max c (Int.ofNat 0)) (Int.ofNat 1)) (Int.ofNat 0)) (leaf (Fe2.ret (Sh.str (W 7 0)))) (node (A.eq (A.sub .i64 (A.max c (Int.ofNat 0)) (Int.ofNat 1)) (Int.ofNat 1)) (leaf (Fe2.ret (Sh.str (W 7 1)))) (node (A.eq (A.sub .i64 (A.max c (Int.ofNat 0)) (Int.ofNat 1)) (Int.ofNat 2)) (leaf (Fe2.ret (Sh.str (W 7 2)))) (node (A.eq (A.sub .i64 (A.max c (Int.ofNat 0)) (Int.ofNat 1)) (Int.ofNat 3)) (leaf (Fe2.ret (Sh.str (W 7 3)))) Tree.fail)))))) := by kernel_rfl
end Go.Proofs
namespace Go.Pl
open Go Go.Sx
theorem addN0 (n : Nat) : prim.addN 0 n = n := Nat.zero_add n
theorem addN1 (n m : Nat) : prim.addN n m = n + m := rfl
theorem snoc0 (h g : Nat → List Sh) : prim.snoc h 0 g = g := by
 funext j
 rw [prim_snoc, if_neg (by omega), Nat.sub_zero]
theorem roomB_mono {n m b : Nat} (h : roomB n b = true) (hm : m ≤ n) : roomB m b = true := by
 have := of_decide_eq_true (show decide (n * b ≤ 140737488355328 ∧ n ≤ maxLen) = true from h)
 have h2 : m * b ≤ n * b := Nat.mul_le_mul_right b hm
 exact decide_eq_true (show m * b ≤ 140737488355328 ∧ m ≤ maxLen from ⟨by omega, by omega⟩)
theorem up_mk {φ : Sh → Prop} {s s' : Sh} (hw : Wk s s') (h : φ s') : up φ s := ⟨s', hw, h⟩
def snocG (n : Nat) (g : Nat → List Sh) (r : List Sh) : Nat → List Sh := fun j => if j < n then g j else r
theorem snocG_eq {n : Nat} {g : Nat → List Sh} {r : List Sh} : ∀ j, j < n + 1 → prim.snoc g n (nthL [r]) j = snocG n g r j := fun j hj => by
 rw [prim_snoc]
 unfold snocG
 split
 ·rfl
 ·have : j = n := by omega
  subst this
  rw [Nat.sub_self]; rfl
def zeroT : Sta := ⟨0, 0, [], []⟩
def badOb (k i : Int) : Bool := !(decide (1 ≤ k) && decide (k ≤ 4)) || decide (i < -1000000000) || decide (1000000000 < i) || (!(decide (k = 1) || decide (k = 2)) && !decide (i = 0))
def ofOp (op : Int) : Int := if op = 1 ∨ op = 2 then 1 else if op = 3 ∨ op = 4 then 2 else if op = 5 ∨ op = 6 then 3 else if op = 7 ∨ op = 8 ∨ op = 9 then 4 else 0
def keyed (op : Int) : Bool := decide (op = 7) || decide (op = 8) || decide (op = 9)
def valued (op : Int) : Bool := decide (op = 2) || decide (op = 3) || decide (op = 5) || decide (op = 7)
def beyondB (k x y : Int) : Bool := decide (x < 0) || decide (1000 < x) || decide (y < -(if k = 2 then 1000000000000000 else 1000000000)) || decide ((if k = 2 then 1000000000000000 else 1000000000) < y)
def slN (st : Nat) : Sh → Option (Nat × (Nat → List Sh))
 | .sl st' n g => bif Nat.beq st' st then some (n, g) else bif Nat.beq n 0 then some (0, fun _ => []) else none
 | _ => none
theorem rep_slN {H : Mem} {st n : Nat} {s : Sh} {g : Nat → List Sh} {v : Value} (hs : slN st s = some (n, g)) (h : Rep H s v) : Rep H (.sl st n g) v := by
 cases s <;> simp only [slN] at hs <;> try cases hs
 rename_i st' n' g'
 cases h1 : Nat.beq st' st <;> simp only [h1, cond_true, cond_false] at hs
 ·cases h2 : Nat.beq n' 0 <;> simp only [h2, cond_true, cond_false] at hs
  ·cases hs
  ·cases hs
   exact rep_sl_wk h (.inl ⟨Nat.eq_of_beq_eq_true h2, rfl⟩)
 ·cases hs
  have := Nat.eq_of_beq_eq_true h1
  subst this
  exact h
theorem rep_agg4 {H : Mem} {x y : Sh} {s2 s3 s2' s3' : Sh} {v : Value} (hv : Rep H (.agg [x, y, s2, s3]) v) (h0 : ∀ u, Rep H s2 u → Rep H s2' u) (h1 : ∀ u, Rep H s3 u → Rep H s3' u) : Rep H (.agg [x, y, s2', s3']) v := by
 cases hv with
 | agg _ vs h2 h3 =>
  refine .agg _ vs h2 fun j s v' e1 e2 => ?_
  match j, e1 with
  | 0, e1 => simp at e1; subst e1; exact h3 0 _ v' rfl e2
  | 1, e1 => simp at e1; subst e1; exact h3 1 _ v' rfl e2
  | 2, e1 => simp at e1; subst e1; exact h0 _ (h3 2 _ v' rfl e2)
  | 3, e1 => simp at e1; subst e1; exact h1 _ (h3 3 _ v' rfl e2)
  | j + 4, e1 => simp at e1
theorem prim_upd (g : Nat → List Sh) (i off : Nat) (l : List Sh) (j : Nat) : prim.upd g i off l j = if j = i then (g j).take off ++ l ++ (g j).drop (off + l.length) else g j := rfl
theorem icK {H : Mem} {s : Sh} {c : Int} {v : Value} (h : icode s = some c) (r : Rep H s v) : Rep H (.i .i64 c) v := by
 unfold icode at h
 split at h
 ·cases h; exact r
 ·cases h; cases r; exact .i _ _
 ·cases h
theorem icode_lit {H : Mem} {s : Sh} {c : Int} {v : Value} (h : icode s = some c) (r : Rep H s v) : Rep H (.v (.int .i64 c)) v := by
 have := icK h r
 cases this; exact .v _ rfl
end Go.Pl
namespace Go.Proofs
open Go Go.Sx Go.Pl
theorem O58 : FnOK Tryz.prog (gls7 W7) 58 F58 := by
 refine fnOK_S (C := C7 prim W7 noSpec sAl) (C7.ok _ _) (fn := Tryz.f58) (by kernel_rfl) (by kernel_rfl) fun H w shs args φ hrep h => ?_
 have hn : Tryz.f58.ntmps = 16 := by kernel_rfl
 unfold F58 at h
 split at h
 ·rename_i t s
  split at h
  ·rename_i b c ht hs
   obtain ⟨h1, h2, hφ⟩ := h
   have h1 : b = 1 := by simpa using h1
   subst h1
   have h2 := of_decide_eq_true h2
   match args, hrep with
   | [v, u], ⟨hv, hu, _⟩ =>
    refine ⟨[.v (.int .i64 1), .i .i64 c], ⟨icode_lit ht hv, icK hs hu, trivial⟩, L0, ?_⟩
    refine gSr (C7.ok _ _) (fok0 _) (hold := nH0) (m := 300) (n := 400) (ts := []) ?_
    rw [hn, w58 prim W7 c]
    obtain ⟨m, e, hm⟩ : ∃ m : Int, prim.sub .i64 (prim.max c (Int.ofNat 0)) (Int.ofNat 1) = m ∧ ((c ≤ 0 ∧ m = -1) ∨ (1 ≤ c ∧ m = c - 1)) := by
     refine ⟨_, rfl, ?_⟩
     rw [prim_sub, prim_max]
     show (_ ∧ IntKind.i64.wrap ((if (0 : Int) > c then 0 else c) - 1) = _) ∨ (_ ∧ IntKind.i64.wrap ((if (0 : Int) > c then 0 else c) - 1) = _)
     rw [wrap_id (by split <;> omega) (by split <;> omega)]
     split <;> omega
    rw [e]
    have key (X : List UInt8) (hX : wordO c = X) : φ (.str X) := hX ▸ hφ
    have q0 : Int.ofNat 0 = 0 := rfl
    have q1 : Int.ofNat 1 = 1 := rfl
    have q2 : Int.ofNat 2 = 2 := rfl
    have q3 : Int.ofNat 3 = 3 := rfl
    have q4 : Int.ofNat 4 = 4 := rfl
    simp only [prim_lt, prim_le, prim_eq, prim_inB, q0, q1, q2, q3, q4]
    refine ⟨fun h => key _ ?_, fun h => ⟨fun h2 => key _ ?_, fun h2 => ⟨?_, fun h3 => key _ ?_, fun h3 => ⟨fun h4 => key _ ?_, fun h4 => ⟨fun h5 => key _ ?_, fun h5 => ⟨fun h6 => key _ ?_, fun h6 => ?_⟩⟩⟩⟩⟩⟩
    all_goals simp only [decide_eq_true_eq, decide_eq_false_iff_not, beq_iff_eq, beq_eq_false_iff_ne, ne_eq] at *
    all_goals (try unfold wordO)
    all_goals first
     | omega
     |((repeat' split) <;> first | rfl | (exfalso; omega))
     |(show (decide _ = true); exact decide_eq_true (by omega))
     |(exfalso; omega)
  ·exact h.elim
 ·exact h.elim
theorem OAs : ∀ g F, specA g = some F → FnOK Tryz.prog (gls7 W7) g F := fun g F h => by
 unfold specA at h
 split at h
 ·cases h; exact O92
 ·cases h; exact O56
 ·cases h; exact O58
 ·cases h
theorem fokA (stop : Nat → List Nat → Bool) : FnsOK Tryz.prog (C7 prim W7 specA stop) := C7.fok OAs fun g h => by
 unfold specA at h
 split at h
 all_goals first | (cases h; done) | kernel_rfl
end Go.Proofs
