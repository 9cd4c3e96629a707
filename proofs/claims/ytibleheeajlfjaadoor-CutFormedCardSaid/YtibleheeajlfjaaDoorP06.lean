/-
  Tables of chapter 5: types, functions, masks. Written by program (gentab2.py, bt.py). Own work. Chapter 5: the context. Own work. Chapter 5 in plain terms: objects, events, lists of them as shapes. Own work. Chapter 5: copies of lists and their comparison, evaluated. The equations are written by program (gen2.py). Own work. Chapter 5: summaries of functions that copy lists, and that compare them. Own work. Chapter 5: comparison of lists, evaluated. The equations are written by program (gen2.py). Own work. Chapter 5: summaries of functions that compare lists. Own work (written by program, mk20.py). Chapter 5: summaries of functions that copy lists, and that compare them. Own work. Chapter 5: histories copied, cut, compared; evaluated. The equations are written by program (gen2.py). Own work. Chapter 5: histories copied; slices that are equal. Own work. Chapter 5: lists searched; events kept; evaluated. The equations are written by program (gen2.py). Own work. Chapter 5: summaries: a number among numbers; the events that a closure keeps. Own work (written by program, mk40.py). Chapter 5: the summary of the function that keeps events. Own work (written by program, mk41.py). Chapter 5: the reference's Keep; prefixes; histories compared; evaluated. The equations are written by program (gen2.py). Own work. Chapter 5: summaries: the reference's Keep, Without, Prefix; the program's; histories compared. Own work. Chapter 5: summaries: SameHistory, Prefix twice, Without. Own work. Chapter 5: the reference's Without; words of codes; objects; evaluated. The equations are written by program (gen2.py). Own work.
-/
import Derived.Test.YtibleheeajlfjaaDoorP05
import Derived.Test.YtibleheeajlfjaaDoorProg
namespace Go.Proofs
open Go Go.Sx
def Tryd.tys : BT TyI := (.node (.node (.node (.node (.node (.node (.node .nil 1 ⟨.fn, 1, 8, [.nilf]⟩ .nil) 2 ⟨.int .i64, 1, 8, [.int .i64 0]⟩ (.node .nil 3 ⟨.int .i64, 1, 8, [.int .i64 0]⟩ .nil)) 4 ⟨.bool, 1, 1, [.bool false]⟩ (.node (.node .nil 5 ⟨.int .u8, 1, 1, [.int .u8 0]⟩ .nil) 7 ⟨.struct [(0, 1, false), (1, 1, false), (2, 1, false), (3, 1, false)], 4, 24, [.int .i64 0, .int .i64 0, .bool false, .int .u8 0]⟩ (.node .nil 9 ⟨.str, 1, 16, [.str []]⟩ .nil))) 12 ⟨.int .u64, 1, 8, [.int .u64 0]⟩ (.node (.node (.node .nil 13 ⟨.struct [(0, 1, false), (1, 1, false)], 2, 24, [.str [], .int .u64 0]⟩ .nil) 15 ⟨.ptr 127, 1, 8, [.nilp]⟩ (.node .nil 16 ⟨.ptr 130, 1, 8, [.nilp]⟩ .nil)) 17 ⟨.ptr 140, 1, 8, [.nilp]⟩ (.node (.node .nil 18 ⟨.struct [(0, 1, false)], 1, 8, [.nilp]⟩ .nil) 20 ⟨.iface, 1, 16, [.nili]⟩ (.node .nil 21 ⟨.int .i32, 1, 4, [.int .i32 0]⟩ .nil)))) 22 ⟨.slice 31, 1, 24, [.nils]⟩ (.node (.node (.node (.node .nil 23 ⟨.slice 34, 1, 24, [.nils]⟩ .nil) 24 ⟨.struct [(0, 1, false), (1, 1, false)], 2, 48, [.nils, .nils]⟩ (.node .nil 25 ⟨.struct [(0, 1, false), (1, 1, false)], 2, 48, [.nils, .nils]⟩ .nil)) 26 ⟨.slice 3, 1, 24, [.nils]⟩ (.node (.node .nil 27 ⟨.fn, 1, 8, [.nilf]⟩ .nil) 28 ⟨.fn, 1, 8, [.nilf]⟩ (.node .nil 29 ⟨.fn, 1, 8, [.nilf]⟩ .nil))) 30 ⟨.struct [(0, 1, false), (1, 1, false)], 2, 16, [.int .i64 0, .int .i64 0]⟩ (.node (.node (.node .nil 31 ⟨.struct [(0, 1, false), (1, 1, false)], 2, 16, [.int .i64 0, .int .i64 0]⟩ .nil) 32 ⟨.fn, 1, 8, [.nilf]⟩ (.node .nil 33 ⟨.struct [(0, 1, false), (1, 1, false), (2, 1, false), (3, 1, false), (4, 1, false), (5, 1, false), (6, 1, false), (7, 1, false)], 8, 64, [.int .i64 0, .int .i64 0, .int .i64 0, .int .i64 0, .int .i64 0, .int .i64 0, .int .i64 0, .int .i64 0]⟩ .nil)) 34 ⟨.struct [(0, 1, false), (1, 1, false), (2, 1, false), (3, 1, false), (4, 1, false), (5, 1, false), (6, 1, false), (7, 1, false)], 8, 64, [.int .i64 0, .int .i64 0, .int .i64 0, .int .i64 0, .int .i64 0, .int .i64 0, .int .i64 0, .int .i64 0]⟩ (.node (.node .nil 35 ⟨.fn, 1, 8, [.nilf]⟩ .nil) 36 ⟨.fn, 1, 8, [.nilf]⟩ .nil)))) 37 ⟨.fn, 1, 8, [.nilf]⟩ (.node (.node (.node (.node (.node .nil 38 ⟨.fn, 1, 8, [.nilf]⟩ .nil) 39 ⟨.fn, 1, 8, [.nilf]⟩ (.node .nil 40 ⟨.fn, 1, 8, [.nilf]⟩ .nil)) 41 ⟨.fn, 1, 8, [.nilf]⟩ (.node (.node .nil 42 ⟨.iface, 1, 16, [.nili]⟩ .nil) 43 ⟨.iface, 1, 16, [.nili]⟩ (.node .nil 45 ⟨.fn, 1, 8, [.nilf]⟩ .nil))) 46 ⟨.fn, 1, 8, [.nilf]⟩ (.node (.node (.node .nil 47 ⟨.fn, 1, 8, [.nilf]⟩ .nil) 48 ⟨.fn, 1, 8, [.nilf]⟩ (.node .nil 49 ⟨.fn, 1, 8, [.nilf]⟩ .nil)) 50 ⟨.fn, 1, 8, [.nilf]⟩ (.node (.node .nil 51 ⟨.fn, 1, 8, [.nilf]⟩ .nil) 52 ⟨.fn, 1, 8, [.nilf]⟩ (.node .nil 53 ⟨.fn, 1, 8, [.nilf]⟩ .nil)))) 54 ⟨.fn, 1, 8, [.nilf]⟩ (.node (.node (.node (.node .nil 55 ⟨.slice 61, 1, 24, [.nils]⟩ .nil) 57 ⟨.fn, 1, 8, [.nilf]⟩ (.node .nil 58 ⟨.fn, 1, 8, [.nilf]⟩ .nil)) 59 ⟨.slice 72, 1, 24, [.nils]⟩ (.node (.node .nil 60 ⟨.struct [(0, 1, false), (1, 1, false), (2, 1, false), (3, 1, false), (4, 1, false), (5, 1, false), (6, 1, false)], 7, 72, [.int .i64 0, .int .i64 0, .int .i64 0, .int .i64 0, .int .i64 0, .int .i64 0, .nils]⟩ .nil) 61 ⟨.struct [(0, 1, false), (1, 1, false), (2, 1, false), (3, 1, false), (4, 1, false), (5, 1, false), (6, 1, false)], 7, 72, [.int .i64 0, .int .i64 0, .int .i64 0, .int .i64 0, .int .i64 0, .int .i64 0, .nils]⟩ (.node .nil 62 ⟨.fn, 1, 8, [.nilf]⟩ .nil))) 63 ⟨.fn, 1, 8, [.nilf]⟩ (.node (.node (.node .nil 64 ⟨.fn, 1, 8, [.nilf]⟩ .nil) 65 ⟨.fn, 1, 8, [.nilf]⟩ (.node .nil 66 ⟨.fn, 1, 8, [.nilf]⟩ .nil)) 67 ⟨.fn, 1, 8, [.nilf]⟩ (.node (.node .nil 68 ⟨.fn, 1, 8, [.nilf]⟩ .nil) 70 ⟨.fn, 1, 8, [.nilf]⟩ .nil))))) 71 ⟨.struct [(0, 1, false), (1, 1, false), (2, 1, false), (3, 1, false), (4, 1, false), (5, 1, false), (6, 1, false), (7, 1, false)], 8, 64, [.int .i64 0, .int .i64 0, .int .i64 0, .int .i64 0, .int .i64 0, .int .i64 0, .int .i64 0, .int .i64 0]⟩ (.node (.node (.node (.node (.node (.node .nil 72 ⟨.struct [(0, 1, false), (1, 1, false), (2, 1, false), (3, 1, false), (4, 1, false), (5, 1, false), (6, 1, false), (7, 1, false)], 8, 64, [.int .i64 0, .int .i64 0, .int .i64 0, .int .i64 0, .int .i64 0, .int .i64 0, .int .i64 0, .int .i64 0]⟩ .nil) 73 ⟨.fn, 1, 8, [.nilf]⟩ (.node .nil 74 ⟨.ptr 87, 1, 8, [.nilp]⟩ .nil)) 76 ⟨.fn, 1, 8, [.nilf]⟩ (.node (.node .nil 77 ⟨.fn, 1, 8, [.nilf]⟩ .nil) 78 ⟨.fn, 1, 8, [.nilf]⟩ (.node .nil 79 ⟨.fn, 1, 8, [.nilf]⟩ .nil))) 80 ⟨.fn, 1, 8, [.nilf]⟩ (.node (.node (.node .nil 81 ⟨.ptr 83, 1, 8, [.nilp]⟩ .nil) 82 ⟨.struct [(0, 1, false), (1, 1, false)], 2, 24, [.int .i64 0, .nili]⟩ (.node .nil 83 ⟨.struct [(0, 1, false), (1, 1, false)], 2, 24, [.int .i64 0, .nili]⟩ .nil)) 84 ⟨.slice 88, 1, 24, [.nils]⟩ (.node (.node .nil 85 ⟨.map 3 88, 1, 8, [.nilm]⟩ .nil) 86 ⟨.struct [(0, 1, false), (1, 1, false), (2, 1, false), (3, 1, false), (4, 1, false)], 5, 72, [.nils, .int .i64 0, .nils, .nilm, .nilm]⟩ (.node .nil 87 ⟨.struct [(0, 1, false), (1, 1, false), (2, 1, false), (3, 1, false), (4, 1, false)], 5, 72, [.nils, .int .i64 0, .nils, .nilm, .nilm]⟩ .nil)))) 88 ⟨.ptr 90, 1, 8, [.nilp]⟩ (.node (.node (.node (.node .nil 89 ⟨.struct [(0, 7, true), (7, 1, false)], 8, 80, [.int .i64 0, .int .i64 0, .int .i64 0, .int .i64 0, .int .i64 0, .int .i64 0, .nils, .int .i64 0]⟩ .nil) 90 ⟨.struct [(0, 7, true), (7, 1, false)], 8, 80, [.int .i64 0, .int .i64 0, .int .i64 0, .int .i64 0, .int .i64 0, .int .i64 0, .nils, .int .i64 0]⟩ (.node .nil 91 ⟨.fn, 1, 8, [.nilf]⟩ .nil)) 92 ⟨.fn, 1, 8, [.nilf]⟩ (.node (.node .nil 93 ⟨.fn, 1, 8, [.nilf]⟩ .nil) 95 ⟨.fn, 1, 8, [.nilf]⟩ (.node .nil 96 ⟨.struct [(0, 1, false), (1, 1, false)], 2, 32, [.nils, .nilf]⟩ .nil))) 97 ⟨.struct [(0, 1, false), (1, 1, false)], 2, 32, [.nils, .nilf]⟩ (.node (.node (.node .nil 98 ⟨.map 3 97, 1, 8, [.nilm]⟩ .nil) 99 ⟨.fn, 1, 8, [.nilf]⟩ (.node .nil 100 ⟨.fn, 1, 8, [.nilf]⟩ .nil)) 101 ⟨.fn, 1, 8, [.nilf]⟩ (.node (.node .nil 102 ⟨.map 3 101, 1, 8, [.nilm]⟩ .nil) 103 ⟨.fn, 1, 8, [.nilf]⟩ .nil)))) 104 ⟨.fn, 1, 8, [.nilf]⟩ (.node (.node (.node (.node (.node .nil 105 ⟨.struct [(0, 1, false), (1, 1, false), (2, 1, false), (3, 1, false)], 4, 32, [.nilf, .int .i64 0, .int .i64 0, .int .i64 0]⟩ .nil) 106 ⟨.struct [(0, 1, false), (1, 1, false), (2, 1, false), (3, 1, false)], 4, 32, [.nilf, .int .i64 0, .int .i64 0, .int .i64 0]⟩ (.node .nil 108 ⟨.ptr 3, 1, 8, [.nilp]⟩ .nil)) 109 ⟨.ptr 34, 1, 8, [.nilp]⟩ (.node (.node .nil 110 ⟨.fn, 1, 8, [.nilf]⟩ .nil) 111 ⟨.ptr 72, 1, 8, [.nilp]⟩ (.node .nil 112 ⟨.fn, 1, 8, [.nilf]⟩ .nil))) 113 ⟨.fn, 1, 8, [.nilf]⟩ (.node (.node (.node .nil 115 ⟨.fn, 1, 8, [.nilf]⟩ .nil) 116 ⟨.slice 106, 1, 24, [.nils]⟩ (.node .nil 117 ⟨.fn, 1, 8, [.nilf]⟩ .nil)) 118 ⟨.fn, 1, 8, [.nilf]⟩ (.node (.node .nil 119 ⟨.fn, 1, 8, [.nilf]⟩ .nil) 120 ⟨.arr 4 9, 4, 64, [.str [], .str [], .str [], .str []]⟩ (.node .nil 121 ⟨.fn, 1, 8, [.nilf]⟩ .nil)))) 122 ⟨.arr 7 9, 7, 112, [.str [], .str [], .str [], .str [], .str [], .str [], .str []]⟩ (.node (.node (.node (.node .nil 123 ⟨.arr 9 9, 9, 144, [.str [], .str [], .str [], .str [], .str [], .str [], .str [], .str [], .str []]⟩ .nil) 124 ⟨.arr 3 9, 3, 48, [.str [], .str [], .str []]⟩ (.node .nil 125 ⟨.ptr 142, 1, 8, [.nilp]⟩ .nil)) 126 ⟨.struct [(0, 1, false), (1, 1, false), (2, 1, false), (3, 1, false)], 4, 40, [.nilp, .nilp, .nilp, .str []]⟩ (.node (.node .nil 128 ⟨.arr 0 16, 0, 0, []⟩ .nil) 129 ⟨.struct [(0, 0, true)], 0, 0, []⟩ (.node .nil 131 ⟨.fn, 1, 8, [.nilf]⟩ .nil))) 132 ⟨.int .u32, 1, 4, [.int .u32 0]⟩ (.node (.node (.node .nil 135 ⟨.fn, 1, 8, [.nilf]⟩ .nil) 136 ⟨.ptr 5, 1, 8, [.nilp]⟩ (.node .nil 139 ⟨.struct [(0, 1, false), (1, 1, false), (2, 1, false), (3, 1, false), (4, 1, false), (5, 1, false), (6, 1, false), (7, 1, false), (8, 1, false), (9, 1, false), (10, 1, false)], 11, 48, [.int .u64 0, .int .u64 0, .int .u32 0, .int .u8 0, .int .u8 0, .int .u8 0, .int .u8 0, .nilf, .nilp, .int .i32 0, .int .i32 0]⟩ .nil)) 141 ⟨.struct [(0, 1, false)], 1, 16, [.str []]⟩ (.node (.node .nil 142 ⟨.struct [(0, 1, false)], 1, 16, [.str []]⟩ .nil) 144 ⟨.fn, 1, 8, [.nilf]⟩ .nil))))))
noncomputable def Tryd.fns : BT Func := (.node (.node (.node (.node (.node (.node (.node .nil 3 Tryd.f3 .nil) 4 Tryd.f4 (.node .nil 5 Tryd.f5 .nil)) 6 Tryd.f6 (.node (.node .nil 7 Tryd.f7 .nil) 8 Tryd.f8 .nil)) 9 Tryd.f9 (.node (.node (.node .nil 10 Tryd.f10 .nil) 11 Tryd.f11 .nil) 12 Tryd.f12 (.node (.node .nil 13 Tryd.f13 .nil) 14 Tryd.f14 .nil))) 15 Tryd.f15 (.node (.node (.node (.node .nil 16 Tryd.f16 .nil) 17 Tryd.f17 .nil) 18 Tryd.f18 (.node (.node .nil 19 Tryd.f19 .nil) 20 Tryd.f20 .nil)) 21 Tryd.f21 (.node (.node (.node .nil 22 Tryd.f22 .nil) 23 Tryd.f23 .nil) 24 Tryd.f24 (.node (.node .nil 25 Tryd.f25 .nil) 26 Tryd.f26 .nil)))) 27 Tryd.f27 (.node (.node (.node (.node (.node .nil 28 Tryd.f28 .nil) 29 Tryd.f29 .nil) 30 Tryd.f30 (.node (.node .nil 31 Tryd.f31 .nil) 32 Tryd.f32 .nil)) 33 Tryd.f33 (.node (.node (.node .nil 34 Tryd.f34 .nil) 35 Tryd.f35 .nil) 36 Tryd.f36 (.node (.node .nil 37 Tryd.f37 .nil) 38 Tryd.f38 .nil))) 39 Tryd.f39 (.node (.node (.node (.node .nil 40 Tryd.f40 .nil) 41 Tryd.f41 .nil) 42 Tryd.f42 (.node (.node .nil 43 Tryd.f43 .nil) 44 Tryd.f44 .nil)) 45 Tryd.f45 (.node (.node (.node .nil 46 Tryd.f46 .nil) 47 Tryd.f47 .nil) 48 Tryd.f48 (.node (.node .nil 49 Tryd.f49 .nil) 50 Tryd.f50 .nil))))) 51 Tryd.f51 (.node (.node (.node (.node (.node (.node .nil 52 Tryd.f52 .nil) 53 Tryd.f53 .nil) 54 Tryd.f54 (.node (.node .nil 55 Tryd.f55 .nil) 56 Tryd.f56 .nil)) 57 Tryd.f57 (.node (.node (.node .nil 58 Tryd.f58 .nil) 59 Tryd.f59 .nil) 60 Tryd.f60 (.node (.node .nil 61 Tryd.f61 .nil) 62 Tryd.f62 .nil))) 63 Tryd.f63 (.node (.node (.node (.node .nil 64 Tryd.f64 .nil) 65 Tryd.f65 .nil) 66 Tryd.f66 (.node (.node .nil 67 Tryd.f67 .nil) 68 Tryd.f68 .nil)) 69 Tryd.f69 (.node (.node (.node .nil 70 Tryd.f70 .nil) 71 Tryd.f71 .nil) 72 Tryd.f72 (.node (.node .nil 73 Tryd.f73 .nil) 74 Tryd.f74 .nil)))) 75 Tryd.f75 (.node (.node (.node (.node (.node .nil 76 Tryd.f76 .nil) 77 Tryd.f77 .nil) 78 Tryd.f78 (.node (.node .nil 79 Tryd.f79 .nil) 80 Tryd.f80 .nil)) 81 Tryd.f81 (.node (.node (.node .nil 82 Tryd.f82 .nil) 83 Tryd.f83 .nil) 84 Tryd.f84 (.node (.node .nil 85 Tryd.f85 .nil) 86 Tryd.f86 .nil))) 87 Tryd.f87 (.node (.node (.node (.node .nil 88 Tryd.f88 .nil) 89 Tryd.f89 .nil) 90 Tryd.f90 (.node (.node .nil 91 Tryd.f91 .nil) 92 Tryd.f92 .nil)) 93 Tryd.f93 (.node (.node (.node .nil 94 Tryd.f94 .nil) 95 Tryd.f95 .nil) 96 Tryd.f96 (.node (.node .nil 97 Tryd.f97 .nil) 98 Tryd.f98 .nil))))))
def Tryd.live : BT Nat := (.node (.node (.node (.node (.node (.node (.node .nil 3 2475880078570761649318264447 .nil) 4 697581510643915497302916208185514739629503 (.node .nil 5 9444732965739567300559 .nil)) 6 28334343293882845104127 (.node (.node .nil 7 2993155353253689186886062278157511683909362488704799 .nil) 8 959 .nil)) 9 7 (.node (.node (.node .nil 10 2077 .nil) 11 2077 .nil) 12 127 (.node (.node .nil 13 23 .nil) 14 23 .nil))) 15 31 (.node (.node (.node (.node .nil 16 23 .nil) 17 31 .nil) 18 2105399 (.node (.node .nil 19 537002447 .nil) 20 268470387 .nil)) 21 4296941759 (.node (.node (.node .nil 22 137455734911 .nil) 23 8796630425551 .nil) 24 23 (.node (.node .nil 25 11 .nil) 26 11 .nil)))) 27 7 (.node (.node (.node (.node (.node .nil 28 4 .nil) 29 8882367 .nil) 30 1048847 (.node (.node .nil 31 7 .nil) 32 4159 .nil)) 33 4159 (.node (.node (.node .nil 34 23 .nil) 35 268470387 .nil) 36 268470387 (.node (.node .nil 37 7 .nil) 38 8511735 .nil))) 39 54 (.node (.node (.node (.node .nil 40 54 .nil) 41 131635 .nil) 42 16806963 (.node (.node .nil 43 63 .nil) 44 266227 .nil)) 45 39 (.node (.node (.node .nil 46 131339 .nil) 47 69226996735 .nil) 48 983149 (.node (.node .nil 49 59 .nil) 50 31 .nil))))) 51 9445318576492100452863 (.node (.node (.node (.node (.node (.node .nil 52 541 .nil) 53 2899107766173950474215390087288321352934114299 .nil) 54 17179869199 (.node (.node .nil 55 19 .nil) 56 9481627579855335850495 .nil)) 57 9373 (.node (.node (.node .nil 58 21 .nil) 59 3 .nil) 60 19 (.node (.node .nil 61 51 .nil) 62 61463 .nil))) 63 7 (.node (.node (.node (.node .nil 64 143 .nil) 65 87 .nil) 66 268435671 (.node (.node .nil 67 525363 .nil) 68 71 .nil)) 69 67 (.node (.node (.node .nil 70 66483 .nil) 71 4432676798715 .nil) 72 7 (.node (.node .nil 73 1127 .nil) 74 1 .nil)))) 75 1 (.node (.node (.node (.node (.node .nil 76 2113775 .nil) 77 1 .nil) 78 1 (.node (.node .nil 79 5 .nil) 80 1 .nil)) 81 5 (.node (.node (.node .nil 82 1 .nil) 83 8431 .nil) 84 1 (.node (.node .nil 85 16583 .nil) 86 3 .nil))) 87 3 (.node (.node (.node (.node .nil 88 3 .nil) 89 3 .nil) 90 3 (.node (.node .nil 91 3 .nil) 92 5 .nil)) 93 5 (.node (.node (.node .nil 94 5 .nil) 95 5 .nil) 96 5 (.node (.node .nil 97 5 .nil) 98 5 .nil))))))
theorem Tryd.tysB_ : tysB Tryd.prog Tryd.tys = true := by kernel_rfl
theorem Tryd.fnsAre_ : FnsAre Tryd.prog Tryd.fns := ⟨Tryd.func51, ⟨Tryd.func27, ⟨Tryd.func15, ⟨Tryd.func9, ⟨Tryd.func6, ⟨Tryd.func4, ⟨Tryd.func3, trivial, trivial⟩, ⟨Tryd.func5, trivial, trivial⟩⟩, ⟨Tryd.func8, ⟨Tryd.func7, trivial, trivial⟩, trivial⟩⟩, ⟨Tryd.func12, ⟨Tryd.func11, ⟨Tryd.func10, trivial, trivial⟩, trivial⟩, ⟨Tryd.func14, ⟨Tryd.func13, trivial, trivial⟩, trivial⟩⟩⟩, ⟨Tryd.func21, ⟨Tryd.func18, ⟨Tryd.func17, ⟨Tryd.func16, trivial, trivial⟩, trivial⟩, ⟨Tryd.func20, ⟨Tryd.func19, trivial, trivial⟩, trivial⟩⟩, ⟨Tryd.func24, ⟨Tryd.func23, ⟨Tryd.func22, trivial, trivial⟩, trivial⟩, ⟨Tryd.func26, ⟨Tryd.func25, trivial, trivial⟩, trivial⟩⟩⟩⟩, ⟨Tryd.func39, ⟨Tryd.func33, ⟨Tryd.func30, ⟨Tryd.func29, ⟨Tryd.func28, trivial, trivial⟩, trivial⟩, ⟨Tryd.func32, ⟨Tryd.func31, trivial, trivial⟩, trivial⟩⟩, ⟨Tryd.func36, ⟨Tryd.func35, ⟨Tryd.func34, trivial, trivial⟩, trivial⟩, ⟨Tryd.func38, ⟨Tryd.func37, trivial, trivial⟩, trivial⟩⟩⟩, ⟨Tryd.func45, ⟨Tryd.func42, ⟨Tryd.func41, ⟨Tryd.func40, trivial, trivial⟩, trivial⟩, ⟨Tryd.func44, ⟨Tryd.func43, trivial, trivial⟩, trivial⟩⟩, ⟨Tryd.func48, ⟨Tryd.func47, ⟨Tryd.func46, trivial, trivial⟩, trivial⟩, ⟨Tryd.func50, ⟨Tryd.func49, trivial, trivial⟩, trivial⟩⟩⟩⟩⟩, ⟨Tryd.func75, ⟨Tryd.func63, ⟨Tryd.func57, ⟨Tryd.func54, ⟨Tryd.func53, ⟨Tryd.func52, trivial, trivial⟩, trivial⟩, ⟨Tryd.func56, ⟨Tryd.func55, trivial, trivial⟩, trivial⟩⟩, ⟨Tryd.func60, ⟨Tryd.func59, ⟨Tryd.func58, trivial, trivial⟩, trivial⟩, ⟨Tryd.func62, ⟨Tryd.func61, trivial, trivial⟩, trivial⟩⟩⟩, ⟨Tryd.func69, ⟨Tryd.func66, ⟨Tryd.func65, ⟨Tryd.func64, trivial, trivial⟩, trivial⟩, ⟨Tryd.func68, ⟨Tryd.func67, trivial, trivial⟩, trivial⟩⟩, ⟨Tryd.func72, ⟨Tryd.func71, ⟨Tryd.func70, trivial, trivial⟩, trivial⟩, ⟨Tryd.func74, ⟨Tryd.func73, trivial, trivial⟩, trivial⟩⟩⟩⟩, ⟨Tryd.func87, ⟨Tryd.func81, ⟨Tryd.func78, ⟨Tryd.func77, ⟨Tryd.func76, trivial, trivial⟩, trivial⟩, ⟨Tryd.func80, ⟨Tryd.func79, trivial, trivial⟩, trivial⟩⟩, ⟨Tryd.func84, ⟨Tryd.func83, ⟨Tryd.func82, trivial, trivial⟩, trivial⟩, ⟨Tryd.func86, ⟨Tryd.func85, trivial, trivial⟩, trivial⟩⟩⟩, ⟨Tryd.func93, ⟨Tryd.func90, ⟨Tryd.func89, ⟨Tryd.func88, trivial, trivial⟩, trivial⟩, ⟨Tryd.func92, ⟨Tryd.func91, trivial, trivial⟩, trivial⟩⟩, ⟨Tryd.func96, ⟨Tryd.func95, ⟨Tryd.func94, trivial, trivial⟩, trivial⟩, ⟨Tryd.func98, ⟨Tryd.func97, trivial, trivial⟩, trivial⟩⟩⟩⟩⟩⟩
theorem Tryd.entersB_ : entersB Tryd.fns = true := by kernel_rfl
theorem Tryd.mixed_ : Tryd.prog.follows .mixedOrders = true := by kernel_rfl
end Go.Proofs
namespace Go.Proofs
open Go Go.Sx
/-- The words that the globals hold. -/
abbrev Wd := Nat → Nat → List UInt8
def wds (W : Wd) (g : Nat) (n : Nat) : List Sh := match n with
  | 3 => [.str (W g 0), .str (W g 1), .str (W g 2)]
  | 4 => [.str (W g 0), .str (W g 1), .str (W g 2), .str (W g 3)]
  | 7 => [.str (W g 0), .str (W g 1), .str (W g 2), .str (W g 3), .str (W g 4), .str (W g 5), .str (W g 6)]
  | 9 => [.str (W g 0), .str (W g 1), .str (W g 2), .str (W g 3), .str (W g 4), .str (W g 5), .str (W g 6), .str (W g 7), .str (W g 8)]
  | _ => []
def gls5 (W : Wd) : List (Nat × Sh) := [(0, .er 0 125), (1, .er 1 125), (2, .er 2 125), (3, .er 3 125), (4, .er 4 125), (5, .er 5 125), (6, .er 6 125), (7, .er 7 125), (8, .er 8 125), (9, .er 9 125), (10, .er 10 125),
  (11, .tup (wds W 11 4)), (12, .tup (wds W 12 7)), (13, .tup (wds W 13 9)), (14, .tup (wds W 14 3)), (15, .tup (wds W 15 4)), (16, .tup (wds W 16 4))]
def W5 : Wd := fun g i => (match g, i with
  | 11, 0 => [114, 101, 103, 105, 115, 116, 101, 114]
  | 11, 1 => [99, 111, 117, 110, 116, 101, 114]
  | 11, 2 => [113, 117, 101, 117, 101]
  | 11, 3 => [109, 97, 112]
  | 12, 0 => [98, 101, 103, 105, 110]
  | 12, 1 => [99, 97, 108, 108]
  | 12, 2 => [114, 101, 116, 117, 114, 110]
  | 12, 3 => [116, 114, 121]
  | 12, 4 => [99, 111, 109, 109, 105, 116]
  | 12, 5 => [97, 98, 111, 114, 116]
  | 12, 6 => [99, 97, 110, 99, 101, 108]
  | 13, 0 => [114, 101, 97, 100]
  | 13, 1 => [119, 114, 105, 116, 101]
  | 13, 2 => [97, 100, 100]
  | 13, 3 => [103, 101, 116]
  | 13, 4 => [101, 110, 113]
  | 13, 5 => [100, 101, 113]
  | 13, 6 => [112, 117, 116]
  | 13, 7 => [108, 111, 111, 107]
  | 13, 8 => [100, 101, 108]
  | 14, 0 => [111, 107]
  | 14, 1 => [110, 111, 110, 101]
  | 14, 2 => [118, 97, 108]
  | 15, 0 => [108, 105, 118, 101]
  | 15, 1 => [112, 101, 110, 100, 105, 110, 103]
  | 15, 2 => [99, 111, 109, 109, 105, 116, 116, 101, 100]
  | 15, 3 => [97, 98, 111, 114, 116, 101, 100]
  | 16, 0 => [115, 101, 114, 105, 97, 108]
  | 16, 1 => [115, 116, 114, 105, 99, 116]
  | 16, 2 => [102, 105, 110, 97, 108]
  | 16, 3 => [111, 112, 97, 113, 117, 101]
  | _, _ => [])
def noSpec : Nat → Option (List Sh → Tree Sh) := fun _ => none
noncomputable def C5 (A : Prim) (W : Wd) (spec : Nat → Option (List Sh → Tree Sh)) (stop : Nat → List Nat → Bool) : Ctx :=
  { A, tys := Tryd.tys, fns := Tryd.fns, spec, eqs := [31, 34], ers := [125], stopLoop := stop, gls := gls5 W, live := Tryd.live }
theorem eqs5 : eqTysB Tryd.prog Tryd.tys [31, 34] = true := by kernel_rfl
theorem ers5 : ersB Tryd.prog [125] = true := by kernel_rfl
theorem C5.ok (spec : Nat → Option (List Sh → Tree Sh)) (stop : Nat → List Nat → Bool) : CtxOK Tryd.prog (C5 prim W5 spec stop) :=
  ⟨tysB_ok Tryd.tysB_, fnsAre_ok Tryd.fnsAre_, rfl, Tryd.mixed_, fun t i h hi xs ys w h1 h2 x y => eqTyB_ok (eqTysB_ok eqs5 t i h hi) xs ys w h1 h2 x y, ersB_ok ers5⟩
theorem C5.fok {spec : Nat → Option (List Sh → Tree Sh)} {stop : Nat → List Nat → Bool} (hs : ∀ g F, spec g = some F → FnOK Tryd.prog (gls5 W5) g F) (he : ∀ g, (spec g).isSome = true → (Tryd.fns.get g).isSome = true) : FnsOK Tryd.prog (C5 prim W5 spec stop) :=
  ⟨hs, fun g h => by
    rcases h with h | h
    · exact entersB_ok Tryd.fnsAre_ Tryd.entersB_ g (he g h)
    · exact entersB_ok Tryd.fnsAre_ Tryd.entersB_ g h⟩
theorem fok0 (stop : Nat → List Nat → Bool) : FnsOK Tryd.prog (C5 prim W5 noSpec stop) := C5.fok (fun _ _ h => by cases h) (fun _ h => by cases h)
def unroll : Nat → List Nat → Bool := fun _ _ => false
end Go.Proofs
namespace Go.Pl
open Go Go.Sx
structure Oj where
  kind : Int
  init : Int
  deriving DecidableEq, Inhabited
structure Ev where
  kind : Int
  tx : Int
  thread : Int
  obj : Int
  op : Int
  key : Int
  val : Int
  ret : Int
  deriving DecidableEq, Inhabited
def obR (o : Oj) : List Sh := [.i .i64 o.kind, .i .i64 o.init]
def evR (e : Ev) : List Sh := [.i .i64 e.kind, .i .i64 e.tx, .i .i64 e.thread, .i .i64 e.obj, .i .i64 e.op, .i .i64 e.key, .i .i64 e.val, .i .i64 e.ret]
def inR (n : Int) : List Sh := [.i .i64 n]
/-- Kinds of rows. -/
class Row (α : Type) where
  put : α → List Sh
  get : List Sh → Option α
  put_get : ∀ l a, get l = some a → put a = l
  get_put : ∀ a, get (put a) = some a
  dft : α
instance : Row Oj where
  put := obR
  get l := match l with
    | [.i .i64 a, .i .i64 b] => some ⟨a, b⟩
    | _ => none
  put_get l a h := by
    split at h
    · cases h; rfl
    · cases h
  get_put a := rfl
  dft := ⟨0, 0⟩
instance : Row Ev where
  put := evR
  get l := match l with
    | [.i .i64 a, .i .i64 b, .i .i64 c, .i .i64 d, .i .i64 e, .i .i64 f, .i .i64 g, .i .i64 h] => some ⟨a, b, c, d, e, f, g, h⟩
    | _ => none
  put_get l a h := by
    split at h
    · cases h; rfl
    · cases h
  get_put a := rfl
  dft := ⟨0, 0, 0, 0, 0, 0, 0, 0⟩
instance : Row Int where
  put := inR
  get l := match l with
    | [.i .i64 a] => some a
    | _ => none
  put_get l a h := by
    split at h
    · cases h; rfl
    · cases h
  get_put a := rfl
  dft := 0
/-- Are all rows of that kind? -/
def okB (α : Type) [Row α] (n : Nat) (g : Nat → List Sh) : Bool :=
  match n with
  | 0 => true
  | n + 1 => okB α n g && (Row.get (α := α) (g n)).isSome
def rwAt {α : Type} [Row α] (g : Nat → List Sh) (i : Nat) : α := (Row.get (g i)).getD Row.dft
def lst (α : Type) [Row α] (n : Nat) (g : Nat → List Sh) : List α := (List.range n).map (rwAt g)
def nth {α : Type} [Row α] (l : List α) (i : Nat) : α := l.getD i Row.dft
def fnR {α : Type} [Row α] (o : Nat → α) : Nat → List Sh := fun j => Row.put (o j)
section
variable {α : Type} [Row α]
theorem okB_at {n : Nat} {g : Nat → List Sh} (h : okB α n g = true) : ∀ i, i < n → g i = Row.put (rwAt (α := α) g i) := by
  induction n with
  | zero => intro i hi; omega
  | succ n ih =>
    simp only [okB, Bool.and_eq_true] at h
    intro i hi
    by_cases e : i = n
    · subst e
      obtain ⟨a, ha⟩ := Option.isSome_iff_exists.1 h.2
      simp only [rwAt, ha, Option.getD_some]
      exact (Row.put_get _ _ ha).symm
    · exact ih h.1 i (by omega)
theorem okB_put (o : Nat → α) : ∀ n, okB α n (fnR o) = true
  | 0 => rfl
  | n + 1 => by simp [okB, okB_put o n, fnR, Row.get_put]
theorem okB_of {g : Nat → List Sh} {o : Nat → α} : ∀ {n : Nat}, (∀ i, i < n → g i = Row.put (o i)) → okB α n g = true
  | 0, _ => rfl
  | n + 1, h => by simp [okB, okB_of (n := n) fun i hi => h i (by omega), h n (by omega), Row.get_put]
theorem rowAt_put (o : Nat → α) (i : Nat) : rwAt (fnR o) i = o i := by simp [rwAt, fnR, Row.get_put]
@[simp] theorem lst_length (n : Nat) (g : Nat → List Sh) : (lst α n g).length = n := by simp [lst]
theorem nth_lst {n : Nat} {g : Nat → List Sh} {i : Nat} (h : i < n) : nth (lst α n g) i = rwAt g i := by simp [nth, lst, h]
theorem lst_put (o : Nat → α) (n : Nat) : lst α n (fnR o) = (List.range n).map o := by
  unfold lst
  refine List.map_congr_left fun i _ => rowAt_put o i
theorem range_nth (l : List α) : (List.range l.length).map (nth l) = l := by
  apply List.ext_getElem
  · simp
  · intro i h1 h2
    simp [nth, h2]
theorem lst_nth (l : List α) : lst α l.length (fnR (nth l)) = l := by rw [lst_put, range_nth]
theorem lst_congr {n : Nat} {g g' : Nat → List Sh} (h : ∀ i, i < n → g i = g' i) : lst α n g = lst α n g' := by
  unfold lst
  refine List.map_congr_left fun i hi => ?_
  simp [rwAt, h i (List.mem_range.1 hi)]
end
theorem rep_sl_congr {H : Mem} {st n : Nat} {g g' : Nat → List Sh} {v : Value} (h : Rep H (.sl st n g) v) (hg : ∀ j, j < n → g j = g' j) : Rep H (.sl st n g') v := by
  cases h with
  | sl0 _ _ A cap hc => exact .sl0 _ _ _ _ hc
  | sl _ _ _ b off cap c h1 h2 h3 h4 h5 h6 => exact .sl _ _ _ b off cap c h1 h2 (fun i hi => by rw [← hg i hi]; exact h3 i hi) h4 h5 fun i j s hi e => h6 i j s hi (by rw [hg i hi]; exact e)
theorem rep_rows {α : Type} [Row α] {H : Mem} {st n : Nat} {g : Nat → List Sh} {v : Value} (h : Rep H (.sl st n g) v) (hg : okB α n g = true) : Rep H (.sl st n (fnR (rwAt (α := α) g))) v :=
  rep_sl_congr h fun j hj => okB_at hg j hj
def len {α : Type} (l : List α) : Nat := l.length
def fO (g : Nat → List Sh) : Nat → List Sh := fnR (rwAt (α := Oj) g)
def fE (g : Nat → List Sh) : Nat → List Sh := fnR (rwAt (α := Ev) g)
/-- A fresh copy. -/
def osR {α : Type} [Row α] (e st : Nat) (l : List α) : Sh := .os e st (len l) (fnR (nth l))
def slR {α : Type} [Row α] (st : Nat) (l : List α) : Sh := .sl st (len l) (fnR (nth l))
end Go.Pl
namespace Go.Pl
open Go Go.Sx
theorem prim_lt (a b : Int) : prim.lt a b = decide (a < b) := rfl
theorem prim_le (a b : Int) : prim.le a b = decide (a ≤ b) := rfl
theorem prim_eq (a b : Int) : prim.eq a b = (a == b) := rfl
theorem prim_inB (a : Int) (n : Nat) : prim.inB a n = decide (0 ≤ a ∧ a < n) := rfl
theorem prim_upTo (a : Int) (n : Nat) : prim.upTo a n = decide (0 ≤ a ∧ a ≤ n) := rfl
theorem prim_room (n b : Nat) : prim.room n b = decide (n * b ≤ 140737488355328 ∧ n ≤ maxLen) := rfl
theorem prim_toN (a : Int) : prim.toN a = a.toNat := rfl
theorem prim_ofN (n : Nat) : prim.ofN n = (n : Int) := rfl
theorem prim_addN (n m : Nat) : prim.addN n m = n + m := rfl
theorem prim_subN (n m : Nat) : prim.subN n m = n - m := rfl
theorem prim_leN (n m : Nat) : prim.leN n m = decide (n ≤ m) := rfl
theorem prim_nt (b : Bool) : prim.nt b = !b := rfl
theorem prim_ite (a b c : Bool) : prim.ite a b c = bif a then b else c := rfl
theorem prim_beq (a b : Bool) : prim.beq a b = (a == b) := rfl
theorem prim_seq (a b : List UInt8) : prim.seq a b = (a == b) := rfl
theorem prim_add (a b : Int) : prim.add .i64 a b = IntKind.i64.wrap (a + b) := rfl
theorem prim_sub (a b : Int) : prim.sub .i64 a b = IntKind.i64.wrap (a - b) := rfl
theorem prim_max (a b : Int) : prim.max a b = if b > a then b else a := rfl
theorem prim_min (a b : Int) : prim.min a b = if b < a then b else a := rfl
theorem prim_snoc (g : Nat → List Sh) (n : Nat) (h : Nat → List Sh) (i : Nat) : prim.snoc g n h i = if i < n then g i else h (i - n) := rfl
theorem wrap_id {a : Int} (h1 : -9223372036854775808 ≤ a) (h2 : a ≤ 9223372036854775807) : IntKind.i64.wrap a = a := by
  rw [IntKind.wrap_i64]; omega
theorem one_eq : Int.ofNat 1 = 1 := rfl
theorem maxLen_eq : maxLen = 9223372036854775807 := rfl
theorem snoc_row {α : Type} [Row α] {k : Nat} {o : Nat → α} {l : List (List Sh)} (h : nthL l 0 = Row.put (o k)) : ∀ i, i < k + 1 → prim.snoc (fnR o) k (nthL l) i = fnR o i := fun i hi => by
  rw [prim_snoc]
  split
  · rfl
  · have : i = k := by omega
    subst this
    rw [Nat.sub_self, h]; rfl
end Go.Pl
namespace Go.Pl
open Go Go.Sx
/-- Is there room for so many of that many bytes? -/
def roomB (n b : Nat) : Bool := prim.room n b
end Go.Pl
namespace Go.Proofs
open Go Go.Sx Go.Pl
def stopAll : Nat → List Nat → Bool := fun _ _ => true
def noHold : Nat → Bool := fun _ => false
abbrev L0 : Nat := 1000000000000000000000000000000
def LO10 (n : Nat) (o : Nat → Oj) (i : Int) (k : Nat) (gg : Nat → List Sh) : Core := { tm := [.sh (.sl 2 n (fnR o)), .any, .any, .gs 0, .sym .i64 i] ++ rep [.any] 17, hp := [(0, .own 31 2 k gg)], nx := 1, lim := L0, tc := [] }
def td10 : List It := [It.code [0, 1, 0, 1, 1], It.inBlock 0, It.code [1, 1, 1]]
def tb10 : List It := [It.code [0, 0, 1, 0, 1, 1], It.code [0, 1, 0, 1, 1], It.inBlock 0, It.code [1, 1, 1]]
def LO11 (n : Nat) (o : Nat → Ev) (i : Int) (k : Nat) (gg : Nat → List Sh) : Core := { tm := [.sh (.sl 8 n (fnR o)), .any, .any, .gs 0, .sym .i64 i] ++ rep [.any] 17, hp := [(0, .own 34 8 k gg)], nx := 1, lim := L0, tc := [] }
def LO35 (n m : Nat) (o p : Nat → Oj) (i : Int) : Core := { tm := [.sh (.sl 2 n (fnR o)), .sh (.sl 2 m (fnR p)), .any, .any, .any, .sym .i64 i] ++ rep [.any] 23, hp := [], nx := 0, lim := L0, tc := [] }
def td35 : List It := [It.code [0, 1, 0, 1, 1], It.inBlock 0, It.code [1, 1, 1]]
def tb35 : List It := [It.code [0, 0, 1, 0, 1, 1], It.code [0, 1, 0, 1, 1], It.inBlock 0, It.code [1, 1, 1]]

theorem a10 (A : Prim) (W : Wd) (n : Nat) (o : Nat → Oj) (i' : Int) (k' : Nat) (gg' : Nat → List Sh) : runTo (C5 A W noSpec stopAll) noHold 300 200 10 [.code []] (start0 22 [.sl 2 n (fnR o)] L0) [] [⟨10, td10, LO10 n o i' k' gg', []⟩] = Tree.need (A.le (Int.ofNat 0) (A.ofN n)) (Tree.need (A.room (A.toN (A.ofN n)) 16) (Tree.leaf (Fe2.at_ 0 [Eqn.sh (Sh.sl 2 n (fnR o)) (Sh.sl 2 n (fnR o)), Eqn.int (Int.ofNat 0) i', Eqn.nat 0 k', Eqn.get 0 (fun (_x : Nat) => []) gg']))) := by kernel_rfl
theorem b10 (A : Prim) (W : Wd) (n : Nat) (o : Nat → Oj) (i i' : Int) (k k' : Nat) (gg gg' : Nat → List Sh) : runTo (C5 A W noSpec stopAll) noHold 300 200 10 tb10 (LO10 n o i k gg) [] [⟨10, td10, LO10 n o i' k' gg', []⟩] = Tree.node (A.lt i (A.ofN n)) (Tree.need (A.inB i n) (Tree.need (A.room (A.addN k 1) 16) (Tree.leaf (Fe2.at_ 0 [Eqn.sh (Sh.sl 2 n (fnR o)) (Sh.sl 2 n (fnR o)), Eqn.int (A.add IntKind.i64 i (Int.ofNat 1)) i', Eqn.nat (A.addN k 1) k', Eqn.get (A.addN k 1) (A.snoc gg k (nthL [[Sh.i IntKind.i64 (o (A.toN i)).kind, Sh.i IntKind.i64 (o (A.toN i)).init]])) gg'])))) (Tree.leaf (Fe2.ret (Sh.os 31 2 k (k, gg).snd))) := by kernel_rfl
theorem a11 (A : Prim) (W : Wd) (n : Nat) (o : Nat → Ev) (i' : Int) (k' : Nat) (gg' : Nat → List Sh) : runTo (C5 A W noSpec stopAll) noHold 300 200 11 [.code []] (start0 22 [.sl 8 n (fnR o)] L0) [] [⟨11, td10, LO11 n o i' k' gg', []⟩] = Tree.need (A.le (Int.ofNat 0) (A.ofN n)) (Tree.need (A.room (A.toN (A.ofN n)) 64) (Tree.leaf (Fe2.at_ 0 [Eqn.sh (Sh.sl 8 n (fnR o)) (Sh.sl 8 n (fnR o)), Eqn.int (Int.ofNat 0) i', Eqn.nat 0 k', Eqn.get 0 (fun (_x : Nat) => []) gg']))) := by kernel_rfl
theorem b11 (A : Prim) (W : Wd) (n : Nat) (o : Nat → Ev) (i i' : Int) (k k' : Nat) (gg gg' : Nat → List Sh) : runTo (C5 A W noSpec stopAll) noHold 300 200 11 tb10 (LO11 n o i k gg) [] [⟨11, td10, LO11 n o i' k' gg', []⟩] = Tree.node (A.lt i (A.ofN n)) (Tree.need (A.inB i n) (Tree.need (A.room (A.addN k 1) 64) (Tree.leaf (Fe2.at_ 0 [Eqn.sh (Sh.sl 8 n (fnR o)) (Sh.sl 8 n (fnR o)), Eqn.int (A.add IntKind.i64 i (Int.ofNat 1)) i', Eqn.nat (A.addN k 1) k', Eqn.get (A.addN k 1) (A.snoc gg k (nthL [[Sh.i IntKind.i64 (o (A.toN i)).kind, Sh.i IntKind.i64 (o (A.toN i)).tx, Sh.i IntKind.i64 (o (A.toN i)).thread, Sh.i IntKind.i64 (o (A.toN i)).obj, Sh.i IntKind.i64 (o (A.toN i)).op, Sh.i IntKind.i64 (o (A.toN i)).key, Sh.i IntKind.i64 (o (A.toN i)).val, Sh.i IntKind.i64 (o (A.toN i)).ret]])) gg'])))) (Tree.leaf (Fe2.ret (Sh.os 34 8 k (k, gg).snd))) := by kernel_rfl
theorem a35 (A : Prim) (W : Wd) (n m : Nat) (o p : Nat → Oj) (i' : Int) : runTo (C5 A W noSpec stopAll) noHold 300 200 35 [.code []] (start0 29 [.sl 2 n (fnR o), .sl 2 m (fnR p)] L0) [] [⟨35, td35, LO35 n m o p i', []⟩] = Tree.node (A.nt (A.eq (A.ofN n) (A.ofN m))) (Tree.leaf (Fe2.ret (Sh.b false))) (Tree.leaf (Fe2.at_ 0 [Eqn.sh (Sh.sl 2 n (fnR o)) (Sh.sl 2 n (fnR o)), Eqn.sh (Sh.sl 2 m (fnR p)) (Sh.sl 2 m (fnR p)), Eqn.int (Int.ofNat 0) i'])) := by kernel_rfl
theorem b35 (A : Prim) (W : Wd) (n m : Nat) (o p : Nat → Oj) (i i' : Int) : runTo (C5 A W noSpec stopAll) noHold 300 200 35 tb35 (LO35 n m o p i) [] [⟨35, td35, LO35 n m o p i', []⟩] = Tree.node (A.lt i (A.ofN n)) (Tree.need (A.inB i n) (Tree.need (A.inB i m) (Tree.node (A.eq (o (A.toN i)).kind (p (A.toN i)).kind) (Tree.node (A.nt (A.eq (o (A.toN i)).init (p (A.toN i)).init)) (Tree.leaf (Fe2.ret (Sh.b false))) (Tree.leaf (Fe2.at_ 0 [Eqn.sh (Sh.sl 2 n (fnR o)) (Sh.sl 2 n (fnR o)), Eqn.sh (Sh.sl 2 m (fnR p)) (Sh.sl 2 m (fnR p)), Eqn.int (A.add IntKind.i64 i (Int.ofNat 1)) i']))) (Tree.leaf (Fe2.ret (Sh.b false)))))) (Tree.leaf (Fe2.ret (Sh.b true))) := by kernel_rfl
end Go.Proofs
namespace Go.Proofs
open Go Go.Sx Go.Pl
def F10 : List Sh → Tree Sh
  | [.sl 2 n g] => .need (okB Oj n g) (.need (roomB n 16) (.leaf (.os 31 2 n (fO g))))
  | _ => .fail
theorem loop10 {H0 : Mem} {w0 : World} {n : Nat} {o : Nat → Oj} {φ : Sh → Prop} (hr : prim.room n 16 = true) (hφ : φ (.os 31 2 n (fnR o))) :
    ∀ m k, k + m = n → GoesS Tryd.prog (C5 prim W5 noSpec stopAll) (K0 H0 w0) 10 td10 (LO10 n o k k (fnR o)) [] emp φ
  | m, k, hk => by
    obtain ⟨hr1, hr2⟩ := room_spec hr
    rw [maxLen_eq] at hr2
    refine goesS_into (fn := Tryd.f10) (tb := tb10) (by kernel_rfl) (by kernel_rfl) ?_
    refine goesS_runTo (C5.ok _ _) (fok0 _) (hold := noHold) (m := 300) (n := 200) (ts := [⟨10, td10, LO10 n o (k + 1 : Nat) (k + 1) (fnR o), []⟩]) ?_
    rw [b10 prim W5 n o k (k + 1 : Nat) k (k + 1) (fnR o) (fnR o)]
    refine ⟨fun h => ⟨?_, ?_, ⟨rfl, ?_, rfl, ?_, trivial⟩, _, rfl, ?_⟩, fun h => ?_⟩
    · simp [prim_lt, prim_ofN, prim_inB] at h ⊢; omega
    · simp [prim_lt, prim_ofN, prim_addN, prim_room, maxLen_eq] at h ⊢; omega
    · simp [prim_lt, prim_ofN] at h
      simp only [Eqn.ok, prim_add, one_eq]
      rw [wrap_id (by omega) (by omega)]; rfl
    · exact snoc_row rfl
    · simp [prim_lt, prim_ofN] at h
      match m, hk with
      | 0, hk => omega
      | m + 1, hk => exact loop10 hr hφ m (k + 1) (by omega)
    · simp [prim_lt, prim_ofN] at h
      obtain rfl : k = n := by omega
      exact hφ
theorem O10 : FnOK Tryd.prog (gls5 W5) 10 F10 := by
  refine fnOK_S (C := C5 prim W5 noSpec stopAll) (C5.ok _ _) (fn := Tryd.f10) (by kernel_rfl) (by kernel_rfl) fun H w shs args φ hrep h => ?_
  unfold F10 at h
  split at h
  · rename_i n g
    obtain ⟨h1, h2, h3⟩ := h
    have h2 : prim.room n 16 = true := h2
    match args, hrep with
    | [v], ⟨hv, _⟩ =>
      refine ⟨[.sl 2 n (fnR (rwAt (α := Oj) g))], ⟨rep_rows hv h1, trivial⟩, L0, ?_⟩
      refine goesS_runTo (C5.ok _ _) (fok0 _) (hold := noHold) (m := 300) (n := 200) (ts := [⟨10, td10, LO10 n (rwAt g) (0 : Nat) 0 (fnR (rwAt (α := Oj) g)), []⟩]) ?_
      have hn : Tryd.f10.ntmps = 22 := by kernel_rfl
      rw [hn, a10 prim W5 n (rwAt g) (0 : Nat) 0 (fnR (rwAt (α := Oj) g))]
      refine ⟨by simp [prim_le, prim_ofN], by simpa [prim_toN, prim_ofN] using h2, ⟨rfl, rfl, rfl, fun j hj => by omega, trivial⟩, _, rfl, loop10 h2 h3 n 0 (by omega)⟩
  · exact h.elim
end Go.Proofs
namespace Go.Proofs
open Go Go.Sx Go.Pl
def LO36 (n m : Nat) (o p : Nat → Ev) (i : Int) : Core := { tm := [.sh (.sl 8 n (fnR o)), .sh (.sl 8 m (fnR p)), .any, .any, .any, .sym .i64 i] ++ rep [.any] 23, hp := [], nx := 0, lim := L0, tc := [] }
def LO20 (n m : Nat) (o p : Nat → Int) (i : Int) : Core := { tm := [.sh (.sl 1 n (fnR o)), .sh (.sl 1 m (fnR p)), .any, .any, .any, .sym .i64 i] ++ rep [.any] 23, hp := [], nx := 0, lim := L0, tc := [] }

theorem a36 (A : Prim) (W : Wd) (n m : Nat) (o p : Nat → Ev) (i' : Int) : runTo (C5 A W noSpec stopAll) noHold 300 200 36 [.code []] (start0 29 [.sl 8 n (fnR o), .sl 8 m (fnR p)] L0) [] [⟨36, td35, LO36 n m o p i', []⟩] = Tree.node (A.nt (A.eq (A.ofN n) (A.ofN m))) (Tree.leaf (Fe2.ret (Sh.b false))) (Tree.leaf (Fe2.at_ 0 [Eqn.sh (Sh.sl 8 n (fnR o)) (Sh.sl 8 n (fnR o)), Eqn.sh (Sh.sl 8 m (fnR p)) (Sh.sl 8 m (fnR p)), Eqn.int (Int.ofNat 0) i'])) := by kernel_rfl
theorem b36 (A : Prim) (W : Wd) (n m : Nat) (o p : Nat → Ev) (i i' : Int) : runTo (C5 A W noSpec stopAll) noHold 300 200 36 tb35 (LO36 n m o p i) [] [⟨36, td35, LO36 n m o p i', []⟩] = Tree.node (A.lt i (A.ofN n)) (Tree.need (A.inB i n) (Tree.need (A.inB i m) (Tree.node (A.eq (o (A.toN i)).kind (p (A.toN i)).kind) (Tree.node (A.eq (o (A.toN i)).tx (p (A.toN i)).tx) (Tree.node (A.eq (o (A.toN i)).thread (p (A.toN i)).thread) (Tree.node (A.eq (o (A.toN i)).obj (p (A.toN i)).obj) (Tree.node (A.eq (o (A.toN i)).op (p (A.toN i)).op) (Tree.node (A.eq (o (A.toN i)).key (p (A.toN i)).key) (Tree.node (A.eq (o (A.toN i)).val (p (A.toN i)).val) (Tree.node (A.nt (A.eq (o (A.toN i)).ret (p (A.toN i)).ret)) (Tree.leaf (Fe2.ret (Sh.b false))) (Tree.leaf (Fe2.at_ 0 [Eqn.sh (Sh.sl 8 n (fnR o)) (Sh.sl 8 n (fnR o)), Eqn.sh (Sh.sl 8 m (fnR p)) (Sh.sl 8 m (fnR p)), Eqn.int (A.add IntKind.i64 i (Int.ofNat 1)) i']))) (Tree.leaf (Fe2.ret (Sh.b false)))) (Tree.leaf (Fe2.ret (Sh.b false)))) (Tree.leaf (Fe2.ret (Sh.b false)))) (Tree.leaf (Fe2.ret (Sh.b false)))) (Tree.leaf (Fe2.ret (Sh.b false)))) (Tree.leaf (Fe2.ret (Sh.b false)))) (Tree.leaf (Fe2.ret (Sh.b false)))))) (Tree.leaf (Fe2.ret (Sh.b true))) := by kernel_rfl
theorem a20 (A : Prim) (W : Wd) (n m : Nat) (o p : Nat → Int) (i' : Int) : runTo (C5 A W noSpec stopAll) noHold 300 200 20 [.code []] (start0 29 [.sl 1 n (fnR o), .sl 1 m (fnR p)] L0) [] [⟨20, td35, LO20 n m o p i', []⟩] = Tree.node (A.nt (A.eq (A.ofN n) (A.ofN m))) (Tree.leaf (Fe2.ret (Sh.b false))) (Tree.leaf (Fe2.at_ 0 [Eqn.sh (Sh.sl 1 n (fnR o)) (Sh.sl 1 n (fnR o)), Eqn.sh (Sh.sl 1 m (fnR p)) (Sh.sl 1 m (fnR p)), Eqn.int (Int.ofNat 0) i'])) := by kernel_rfl
theorem b20 (A : Prim) (W : Wd) (n m : Nat) (o p : Nat → Int) (i i' : Int) : runTo (C5 A W noSpec stopAll) noHold 300 200 20 tb35 (LO20 n m o p i) [] [⟨20, td35, LO20 n m o p i', []⟩] = Tree.node (A.lt i (A.ofN n)) (Tree.need (A.inB i n) (Tree.need (A.inB i m) (Tree.node (A.nt (A.eq (o (A.toN i)) (p (A.toN i)))) (Tree.leaf (Fe2.ret (Sh.b false))) (Tree.leaf (Fe2.at_ 0 [Eqn.sh (Sh.sl 1 n (fnR o)) (Sh.sl 1 n (fnR o)), Eqn.sh (Sh.sl 1 m (fnR p)) (Sh.sl 1 m (fnR p)), Eqn.int (A.add IntKind.i64 i (Int.ofNat 1)) i']))))) (Tree.leaf (Fe2.ret (Sh.b true))) := by kernel_rfl
end Go.Proofs
namespace Go.Pl
open Go Go.Sx
def sameL {α : Type} [DecidableEq α] (a b : List α) : Bool := decide (a = b)
theorem sameL_true {α : Type} [DecidableEq α] {a b : List α} (h : a = b) : sameL a b = true := decide_eq_true h
theorem sameL_false {α : Type} [DecidableEq α] {a b : List α} (h : a ≠ b) : sameL a b = false := decide_eq_false h
theorem lst_ext {α : Type} [Row α] {n : Nat} {g h : Nat → List Sh} (e : ∀ j, j < n → (rwAt g j : α) = rwAt h j) : lst α n g = lst α n h := by
  unfold lst
  exact List.map_congr_left fun i hi => e i (List.mem_range.1 hi)
theorem lst_ext' {α : Type} [Row α] {n : Nat} {g h : Nat → List Sh} (e : lst α n g = lst α n h) : ∀ j, j < n → (rwAt g j : α) = rwAt h j := fun j hj => by
  rw [← nth_lst hj, ← nth_lst hj, e]
theorem rep_len {H : Mem} {st n : Nat} {g : Nat → List Sh} {v : Value} (h : Rep H (.sl st n g) v) : n ≤ maxLen := by
  cases h with
  | sl0 => exact Nat.zero_le _
  | sl _ _ _ _ _ _ _ h1 h2 => exact Nat.le_trans h1 h2
theorem oj_ext {a b : Oj} (h1 : a.kind = b.kind) (h2 : a.init = b.init) : a = b := by cases a; cases b; simp_all
theorem ev_ext {a b : Ev} (h1 : a.kind = b.kind) (h2 : a.tx = b.tx) (h3 : a.thread = b.thread) (h4 : a.obj = b.obj) (h5 : a.op = b.op) (h6 : a.key = b.key) (h7 : a.val = b.val) (h8 : a.ret = b.ret) : a = b := by cases a; cases b; simp_all
end Go.Pl
namespace Go.Proofs
open Go Go.Sx Go.Pl
def F35 : List Sh → Tree Sh
  | [.sl 2 n g, .sl 2 m h] => .need (okB Oj n g) (.need (okB Oj m h) (.leaf (.b (sameL (lst Oj n g) (lst Oj m h)))))
  | _ => .fail
theorem loop35 {H0 : Mem} {w0 : World} {n : Nat} {o p : Nat → Oj} {φ : Sh → Prop} (hn : n ≤ maxLen) (hT : (∀ j, j < n → o j = p j) → φ (.b true)) (hF : (¬ ∀ j, j < n → o j = p j) → φ (.b false)) :
    ∀ m k, k + m = n → (∀ j, j < k → o j = p j) → GoesS Tryd.prog (C5 prim W5 noSpec stopAll) (K0 H0 w0) 35 td35 (LO35 n n o p k) [] emp φ
  | m, k, hk, hE => by
    rw [maxLen_eq] at hn
    refine goesS_into (fn := Tryd.f35) (tb := tb35) (by kernel_rfl) (by kernel_rfl) ?_
    refine goesS_runTo (C5.ok _ _) (fok0 _) (hold := noHold) (m := 300) (n := 200) (ts := [⟨35, td35, LO35 n n o p (k + 1 : Nat), []⟩]) ?_
    rw [b35 prim W5 n n o p k (k + 1 : Nat)]
    simp only [prim_lt, prim_ofN, prim_inB, prim_toN, prim_eq, prim_nt, prim_add, one_eq, Tree.All, Fe2OK, Int.toNat_natCast]
    have bad : k < n → o k ≠ p k → φ (.b false) := fun h1 h2 => hF fun e => h2 (e k h1)
    have good : k < n → o k = p k → GoesS Tryd.prog (C5 prim W5 noSpec stopAll) (K0 H0 w0) 35 td35 (LO35 n n o p (k + 1 : Nat)) [] emp φ := fun h1 h2 => by
      match m, hk with
      | 0, hk => omega
      | m + 1, hk =>
        refine loop35 (by rw [maxLen_eq]; exact hn) hT hF m (k + 1) (by omega) fun j hj => ?_
        by_cases e : j = k
        · subst e; exact h2
        · exact hE j (by omega)
    refine ⟨fun h => ?_, fun h => ?_⟩
    · have hlt : k < n := by simp at h; omega
      refine ⟨by simp; omega, by simp; omega, ?_⟩
      have fin : o k = p k → Eqn.all [Eqn.sh (Sh.sl 2 n (fnR o)) (Sh.sl 2 n (fnR o)), Eqn.sh (Sh.sl 2 n (fnR p)) (Sh.sl 2 n (fnR p)), Eqn.int (IntKind.i64.wrap ((k : Int) + 1)) ((k + 1 : Nat) : Int)] ∧ ∃ t, [(⟨35, td35, LO35 n n o p (k + 1 : Nat), []⟩ : Tgt)][0]? = some t ∧ GoesS Tryd.prog (C5 prim W5 noSpec stopAll) (K0 H0 w0) t.g t.td t.c t.stk emp φ := fun e =>
        ⟨⟨rfl, rfl, by simp only [Eqn.ok]; rw [wrap_id (by omega) (by omega)]; rfl, trivial⟩, _, rfl, good hlt e⟩
      by_cases e : o k = p k
      · have f2 := fin e
        rw [e]; simpa using f2
      · have b2 := bad hlt e
        have e2 : ¬ ((o k).kind = (p k).kind ∧ (o k).init = (p k).init) := fun q => e (oj_ext q.1 q.2)
        refine ⟨fun q1 => ⟨fun _ => b2, fun q2 => ?_⟩, fun _ => b2⟩
        simp at q1 q2; exact (e2 ⟨q1, q2⟩).elim
    · have : k = n := by simp at h; omega
      subst this
      exact hT hE
theorem O35 : FnOK Tryd.prog (gls5 W5) 35 F35 := by
  refine fnOK_S (C := C5 prim W5 noSpec stopAll) (C5.ok _ _) (fn := Tryd.f35) (by kernel_rfl) (by kernel_rfl) fun H w shs args φ hrep h => ?_
  unfold F35 at h
  split at h
  · rename_i n g m h'
    obtain ⟨h1, h2, h3⟩ := h
    match args, hrep with
    | [v, u], ⟨hv, hu, _⟩ =>
      refine ⟨[.sl 2 n (fnR (rwAt (α := Oj) g)), .sl 2 m (fnR (rwAt (α := Oj) h'))], ⟨rep_rows hv h1, rep_rows hu h2, trivial⟩, L0, ?_⟩
      have hmax := rep_len hv
      refine goesS_runTo (C5.ok _ _) (fok0 _) (hold := noHold) (m := 300) (n := 200) (ts := [⟨35, td35, LO35 n m (rwAt g) (rwAt h') (0 : Nat), []⟩]) ?_
      have hn : Tryd.f35.ntmps = 29 := by kernel_rfl
      rw [hn, a35 prim W5 n m (rwAt g) (rwAt h') (0 : Nat)]
      simp only [prim_ofN, prim_eq, prim_nt, Tree.All, Fe2OK]
      have h3 : φ (.b (sameL (lst Oj n g) (lst Oj m h'))) := h3
      refine ⟨fun h => ?_, fun h => ⟨⟨rfl, rfl, rfl, trivial⟩, _, rfl, ?_⟩⟩
      · have hne : n ≠ m := by simp at h; exact fun e => h (by rw [e])
        rwa [sameL_false fun e => hne (by have := congrArg List.length e; simpa using this)] at h3
      · have : n = m := by simp at h; omega
        subst this
        refine loop35 hmax (fun hE => ?_) (fun hE => ?_) n 0 (by omega) fun j hj => by omega
        · rwa [sameL_true (lst_ext hE)] at h3
        · rwa [sameL_false fun e => hE (lst_ext' e)] at h3
  · exact h.elim
def F36 : List Sh → Tree Sh
  | [.sl 8 n g, .sl 8 m h] => .need (okB Ev n g) (.need (okB Ev m h) (.leaf (.b (sameL (lst Ev n g) (lst Ev m h)))))
  | _ => .fail
theorem loop36 {H0 : Mem} {w0 : World} {n : Nat} {o p : Nat → Ev} {φ : Sh → Prop} (hn : n ≤ maxLen) (hT : (∀ j, j < n → o j = p j) → φ (.b true)) (hF : (¬ ∀ j, j < n → o j = p j) → φ (.b false)) :
    ∀ m k, k + m = n → (∀ j, j < k → o j = p j) → GoesS Tryd.prog (C5 prim W5 noSpec stopAll) (K0 H0 w0) 36 td35 (LO36 n n o p k) [] emp φ
  | m, k, hk, hE => by
    rw [maxLen_eq] at hn
    refine goesS_into (fn := Tryd.f36) (tb := tb35) (by kernel_rfl) (by kernel_rfl) ?_
    refine goesS_runTo (C5.ok _ _) (fok0 _) (hold := noHold) (m := 300) (n := 200) (ts := [⟨36, td35, LO36 n n o p (k + 1 : Nat), []⟩]) ?_
    rw [b36 prim W5 n n o p k (k + 1 : Nat)]
    simp only [prim_lt, prim_ofN, prim_inB, prim_toN, prim_eq, prim_nt, prim_add, one_eq, Tree.All, Fe2OK, Int.toNat_natCast]
    have bad : k < n → o k ≠ p k → φ (.b false) := fun h1 h2 => hF fun e => h2 (e k h1)
    have good : k < n → o k = p k → GoesS Tryd.prog (C5 prim W5 noSpec stopAll) (K0 H0 w0) 36 td35 (LO36 n n o p (k + 1 : Nat)) [] emp φ := fun h1 h2 => by
      match m, hk with
      | 0, hk => omega
      | m + 1, hk =>
        refine loop36 (by rw [maxLen_eq]; exact hn) hT hF m (k + 1) (by omega) fun j hj => ?_
        by_cases e : j = k
        · subst e; exact h2
        · exact hE j (by omega)
    refine ⟨fun h => ?_, fun h => ?_⟩
    · have hlt : k < n := by simp at h; omega
      refine ⟨by simp; omega, by simp; omega, ?_⟩
      have fin : o k = p k → Eqn.all [Eqn.sh (Sh.sl 8 n (fnR o)) (Sh.sl 8 n (fnR o)), Eqn.sh (Sh.sl 8 n (fnR p)) (Sh.sl 8 n (fnR p)), Eqn.int (IntKind.i64.wrap ((k : Int) + 1)) ((k + 1 : Nat) : Int)] ∧ ∃ t, [(⟨36, td35, LO36 n n o p (k + 1 : Nat), []⟩ : Tgt)][0]? = some t ∧ GoesS Tryd.prog (C5 prim W5 noSpec stopAll) (K0 H0 w0) t.g t.td t.c t.stk emp φ := fun e =>
        ⟨⟨rfl, rfl, by simp only [Eqn.ok]; rw [wrap_id (by omega) (by omega)]; rfl, trivial⟩, _, rfl, good hlt e⟩
      by_cases e : o k = p k
      · have f2 := fin e
        rw [e]; simpa using f2
      · have b2 := bad hlt e
        refine ⟨fun q1 => ⟨fun q2 => ⟨fun q3 => ⟨fun q4 => ⟨fun q5 => ⟨fun q6 => ⟨fun q7 => ⟨fun _ => b2, fun q8 => ?_⟩, fun _ => b2⟩, fun _ => b2⟩, fun _ => b2⟩, fun _ => b2⟩, fun _ => b2⟩, fun _ => b2⟩, fun _ => b2⟩
        simp at q1 q2 q3 q4 q5 q6 q7 q8; exact (e (ev_ext q1 q2 q3 q4 q5 q6 q7 q8)).elim
    · have : k = n := by simp at h; omega
      subst this
      exact hT hE
theorem O36 : FnOK Tryd.prog (gls5 W5) 36 F36 := by
  refine fnOK_S (C := C5 prim W5 noSpec stopAll) (C5.ok _ _) (fn := Tryd.f36) (by kernel_rfl) (by kernel_rfl) fun H w shs args φ hrep h => ?_
  unfold F36 at h
  split at h
  · rename_i n g m h'
    obtain ⟨h1, h2, h3⟩ := h
    match args, hrep with
    | [v, u], ⟨hv, hu, _⟩ =>
      refine ⟨[.sl 8 n (fnR (rwAt (α := Ev) g)), .sl 8 m (fnR (rwAt (α := Ev) h'))], ⟨rep_rows hv h1, rep_rows hu h2, trivial⟩, L0, ?_⟩
      have hmax := rep_len hv
      refine goesS_runTo (C5.ok _ _) (fok0 _) (hold := noHold) (m := 300) (n := 200) (ts := [⟨36, td35, LO36 n m (rwAt g) (rwAt h') (0 : Nat), []⟩]) ?_
      have hn : Tryd.f36.ntmps = 29 := by kernel_rfl
      rw [hn, a36 prim W5 n m (rwAt g) (rwAt h') (0 : Nat)]
      simp only [prim_ofN, prim_eq, prim_nt, Tree.All, Fe2OK]
      have h3 : φ (.b (sameL (lst Ev n g) (lst Ev m h'))) := h3
      refine ⟨fun h => ?_, fun h => ⟨⟨rfl, rfl, rfl, trivial⟩, _, rfl, ?_⟩⟩
      · have hne : n ≠ m := by simp at h; exact fun e => h (by rw [e])
        rwa [sameL_false fun e => hne (by have := congrArg List.length e; simpa using this)] at h3
      · have : n = m := by simp at h; omega
        subst this
        refine loop36 hmax (fun hE => ?_) (fun hE => ?_) n 0 (by omega) fun j hj => by omega
        · rwa [sameL_true (lst_ext hE)] at h3
        · rwa [sameL_false fun e => hE (lst_ext' e)] at h3
  · exact h.elim
def F20 : List Sh → Tree Sh
  | [.sl 1 n g, .sl 1 m h] => .need (okB Int n g) (.need (okB Int m h) (.leaf (.b (sameL (lst Int n g) (lst Int m h)))))
  | _ => .fail
theorem loop20 {H0 : Mem} {w0 : World} {n : Nat} {o p : Nat → Int} {φ : Sh → Prop} (hn : n ≤ maxLen) (hT : (∀ j, j < n → o j = p j) → φ (.b true)) (hF : (¬ ∀ j, j < n → o j = p j) → φ (.b false)) :
    ∀ m k, k + m = n → (∀ j, j < k → o j = p j) → GoesS Tryd.prog (C5 prim W5 noSpec stopAll) (K0 H0 w0) 20 td35 (LO20 n n o p k) [] emp φ
  | m, k, hk, hE => by
    rw [maxLen_eq] at hn
    refine goesS_into (fn := Tryd.f20) (tb := tb35) (by kernel_rfl) (by kernel_rfl) ?_
    refine goesS_runTo (C5.ok _ _) (fok0 _) (hold := noHold) (m := 300) (n := 200) (ts := [⟨20, td35, LO20 n n o p (k + 1 : Nat), []⟩]) ?_
    rw [b20 prim W5 n n o p k (k + 1 : Nat)]
    simp only [prim_lt, prim_ofN, prim_inB, prim_toN, prim_eq, prim_nt, prim_add, one_eq, Tree.All, Fe2OK, Int.toNat_natCast]
    have bad : k < n → o k ≠ p k → φ (.b false) := fun h1 h2 => hF fun e => h2 (e k h1)
    have good : k < n → o k = p k → GoesS Tryd.prog (C5 prim W5 noSpec stopAll) (K0 H0 w0) 20 td35 (LO20 n n o p (k + 1 : Nat)) [] emp φ := fun h1 h2 => by
      match m, hk with
      | 0, hk => omega
      | m + 1, hk =>
        refine loop20 (by rw [maxLen_eq]; exact hn) hT hF m (k + 1) (by omega) fun j hj => ?_
        by_cases e : j = k
        · subst e; exact h2
        · exact hE j (by omega)
    refine ⟨fun h => ?_, fun h => ?_⟩
    · have hlt : k < n := by simp at h; omega
      refine ⟨by simp; omega, by simp; omega, ?_⟩
      have fin : o k = p k → Eqn.all [Eqn.sh (Sh.sl 1 n (fnR o)) (Sh.sl 1 n (fnR o)), Eqn.sh (Sh.sl 1 n (fnR p)) (Sh.sl 1 n (fnR p)), Eqn.int (IntKind.i64.wrap ((k : Int) + 1)) ((k + 1 : Nat) : Int)] ∧ ∃ t, [(⟨20, td35, LO20 n n o p (k + 1 : Nat), []⟩ : Tgt)][0]? = some t ∧ GoesS Tryd.prog (C5 prim W5 noSpec stopAll) (K0 H0 w0) t.g t.td t.c t.stk emp φ := fun e =>
        ⟨⟨rfl, rfl, by simp only [Eqn.ok]; rw [wrap_id (by omega) (by omega)]; rfl, trivial⟩, _, rfl, good hlt e⟩
      by_cases e : o k = p k
      · have f2 := fin e
        rw [e]; simpa using f2
      · have b2 := bad hlt e
        refine ⟨fun _ => b2, fun q => ?_⟩
        simp at q; exact (e q).elim
    · have : k = n := by simp at h; omega
      subst this
      exact hT hE
theorem O20 : FnOK Tryd.prog (gls5 W5) 20 F20 := by
  refine fnOK_S (C := C5 prim W5 noSpec stopAll) (C5.ok _ _) (fn := Tryd.f20) (by kernel_rfl) (by kernel_rfl) fun H w shs args φ hrep h => ?_
  unfold F20 at h
  split at h
  · rename_i n g m h'
    obtain ⟨h1, h2, h3⟩ := h
    match args, hrep with
    | [v, u], ⟨hv, hu, _⟩ =>
      refine ⟨[.sl 1 n (fnR (rwAt (α := Int) g)), .sl 1 m (fnR (rwAt (α := Int) h'))], ⟨rep_rows hv h1, rep_rows hu h2, trivial⟩, L0, ?_⟩
      have hmax := rep_len hv
      refine goesS_runTo (C5.ok _ _) (fok0 _) (hold := noHold) (m := 300) (n := 200) (ts := [⟨20, td35, LO20 n m (rwAt g) (rwAt h') (0 : Nat), []⟩]) ?_
      have hn : Tryd.f20.ntmps = 29 := by kernel_rfl
      rw [hn, a20 prim W5 n m (rwAt g) (rwAt h') (0 : Nat)]
      simp only [prim_ofN, prim_eq, prim_nt, Tree.All, Fe2OK]
      have h3 : φ (.b (sameL (lst Int n g) (lst Int m h'))) := h3
      refine ⟨fun h => ?_, fun h => ⟨⟨rfl, rfl, rfl, trivial⟩, _, rfl, ?_⟩⟩
      · have hne : n ≠ m := by simp at h; exact fun e => h (by rw [e])
        rwa [sameL_false fun e => hne (by have := congrArg List.length e; simpa using this)] at h3
      · have : n = m := by simp at h; omega
        subst this
        refine loop20 hmax (fun hE => ?_) (fun hE => ?_) n 0 (by omega) fun j hj => by omega
        · rwa [sameL_true (lst_ext hE)] at h3
        · rwa [sameL_false fun e => hE (lst_ext' e)] at h3
  · exact h.elim
end Go.Proofs
namespace Go.Proofs
open Go Go.Sx Go.Pl
def F11 : List Sh → Tree Sh
  | [.sl 8 n g] => .need (okB Ev n g) (.need (roomB n 64) (.leaf (.os 34 8 n (fE g))))
  | _ => .fail
theorem loop11 {H0 : Mem} {w0 : World} {n : Nat} {o : Nat → Ev} {φ : Sh → Prop} (hr : prim.room n 64 = true) (hφ : φ (.os 34 8 n (fnR o))) :
    ∀ m k, k + m = n → GoesS Tryd.prog (C5 prim W5 noSpec stopAll) (K0 H0 w0) 11 td10 (LO11 n o k k (fnR o)) [] emp φ
  | m, k, hk => by
    obtain ⟨hr1, hr2⟩ := room_spec hr
    rw [maxLen_eq] at hr2
    refine goesS_into (fn := Tryd.f11) (tb := tb10) (by kernel_rfl) (by kernel_rfl) ?_
    refine goesS_runTo (C5.ok _ _) (fok0 _) (hold := noHold) (m := 300) (n := 200) (ts := [⟨11, td10, LO11 n o (k + 1 : Nat) (k + 1) (fnR o), []⟩]) ?_
    rw [b11 prim W5 n o k (k + 1 : Nat) k (k + 1) (fnR o) (fnR o)]
    refine ⟨fun h => ⟨?_, ?_, ⟨rfl, ?_, rfl, ?_, trivial⟩, _, rfl, ?_⟩, fun h => ?_⟩
    · simp [prim_lt, prim_ofN, prim_inB] at h ⊢; omega
    · simp [prim_lt, prim_ofN, prim_addN, prim_room, maxLen_eq] at h ⊢; omega
    · simp [prim_lt, prim_ofN] at h
      simp only [Eqn.ok, prim_add, one_eq]
      rw [wrap_id (by omega) (by omega)]; rfl
    · exact snoc_row rfl
    · simp [prim_lt, prim_ofN] at h
      match m, hk with
      | 0, hk => omega
      | m + 1, hk => exact loop11 hr hφ m (k + 1) (by omega)
    · simp [prim_lt, prim_ofN] at h
      obtain rfl : k = n := by omega
      exact hφ
theorem O11 : FnOK Tryd.prog (gls5 W5) 11 F11 := by
  refine fnOK_S (C := C5 prim W5 noSpec stopAll) (C5.ok _ _) (fn := Tryd.f11) (by kernel_rfl) (by kernel_rfl) fun H w shs args φ hrep h => ?_
  unfold F11 at h
  split at h
  · rename_i n g
    obtain ⟨h1, h2, h3⟩ := h
    have h2 : prim.room n 64 = true := h2
    match args, hrep with
    | [v], ⟨hv, _⟩ =>
      refine ⟨[.sl 8 n (fnR (rwAt (α := Ev) g))], ⟨rep_rows hv h1, trivial⟩, L0, ?_⟩
      refine goesS_runTo (C5.ok _ _) (fok0 _) (hold := noHold) (m := 300) (n := 200) (ts := [⟨11, td10, LO11 n (rwAt g) (0 : Nat) 0 (fnR (rwAt (α := Ev) g)), []⟩]) ?_
      have hn : Tryd.f11.ntmps = 22 := by kernel_rfl
      rw [hn, a11 prim W5 n (rwAt g) (0 : Nat) 0 (fnR (rwAt (α := Ev) g))]
      refine ⟨by simp [prim_le, prim_ofN], by simpa [prim_toN, prim_ofN] using h2, ⟨rfl, rfl, rfl, fun j hj => by omega, trivial⟩, _, rfl, loop11 h2 h3 n 0 (by omega)⟩
  · exact h.elim
end Go.Proofs
namespace Go.Proofs
open Go Go.Sx Go.Pl
def LO42 (n m : Nat) (o p : Nat → Oj) (i : Int) : Core := { tm := [.sh (.sl 2 n (fnR o)), .sh (.sl 2 m (fnR p)), .any, .any, .any, .any, .any, .any, .any, .any, .any, .any, .sym .i64 n, .sym .i64 i] ++ rep [.any] 12, hp := [], nx := 0, lim := L0, tc := [] }
def LO41 (n : Nat) (o : Nat → Int) (x i : Int) : Core := { tm := [.sh (.sl 1 n (fnR o)), .sym .i64 x, .any, .any, .any, .sym .i64 i] ++ rep [.any] 12, hp := [], nx := 0, lim := L0, tc := [] }

theorem a37 (A : Prim) (W : Wd) (n m : Nat) (g h : Nat → List Sh) : runF (C5 A W noSpec stopAll) 300 37 [.code []] (start0 18 [.agg [.sl 2 n g, .sl 8 m h]] L0) = Tree.need (A.le (Int.ofNat 0) (A.ofN n)) (Tree.need (A.room (A.toN (A.ofN n)) 16) (Tree.need (A.room (A.addN 0 n) 16) (Tree.need (A.le (Int.ofNat 0) (A.ofN m)) (Tree.need (A.room (A.toN (A.ofN m)) 64) (Tree.need (A.room (A.addN 0 m) 64) (Tree.need (A.le (Int.ofNat 0) (A.ofN m)) (Tree.need (A.room (A.toN (A.ofN m)) 64) (Tree.need (A.room (A.addN 0 n) 16) (Tree.need (A.room (A.addN 0 m) 64) (Tree.must [Eqn.sh (Sh.sl 2 n g) (Sh.sl 2 n g), Eqn.sh (Sh.sl 8 m h) (Sh.sl 8 m h), Eqn.sh (Sh.sl 2 n g) (Sh.sl 2 n g), Eqn.sh (Sh.sl 8 m h) (Sh.sl 8 m h), Eqn.nat (A.addN 0 n) (A.addN 0 n), Eqn.fun_ (A.snoc (fun (_x : Nat) => []) 0 g) (A.snoc (fun (_x : Nat) => []) 0 g), Eqn.nat (A.addN 0 m) (A.addN 0 m), Eqn.fun_ (A.snoc (fun (_x : Nat) => []) 0 h) (A.snoc (fun (_x : Nat) => []) 0 h)] (Tree.need (A.le (Int.ofNat 0) (A.ofN m)) (Tree.need (A.room (A.toN (A.ofN m)) 64) (Tree.need (A.le (Int.ofNat 0) (A.ofN n)) (Tree.need (A.room (A.toN (A.ofN n)) 16) (Tree.need (A.room (A.addN 0 n) 16) (Tree.need (A.room (A.addN 0 m) 64) (Tree.must [Eqn.sh (Sh.sl 2 n g) (Sh.sl 2 n g), Eqn.sh (Sh.sl 8 m h) (Sh.sl 8 m h), Eqn.sh (Sh.sl 2 n g) (Sh.sl 2 n g), Eqn.sh (Sh.sl 8 m h) (Sh.sl 8 m h), Eqn.nat (A.addN 0 n) (A.addN 0 n), Eqn.fun_ (A.snoc (fun (_x : Nat) => []) 0 g) (A.snoc (fun (_x : Nat) => []) 0 g), Eqn.nat (A.addN 0 m) (A.addN 0 m), Eqn.fun_ (A.snoc (fun (_x : Nat) => []) 0 h) (A.snoc (fun (_x : Nat) => []) 0 h)] (Tree.leaf (Fin.ret (Sh.agg [Sh.os 31 2 (A.addN 0 n) (A.addN 0 n, A.snoc (fun (_x : Nat) => []) 0 g).snd, Sh.os 34 8 (A.addN 0 m) (A.addN 0 m, A.snoc (fun (_x : Nat) => []) 0 h).snd])))))))))))))))))))) := by kernel_rfl
theorem a37n (A : Prim) (W : Wd) (n : Nat) (g h : Nat → List Sh) : runF (C5 A W noSpec stopAll) 300 37 [.code []] (start0 18 [.agg [.sl 2 n g, .sl 0 0 h]] L0) = Tree.need (A.le (Int.ofNat 0) (A.ofN n)) (Tree.need (A.room (A.toN (A.ofN n)) 16) (Tree.need (A.room (A.addN 0 n) 16) (Tree.need (A.le (Int.ofNat 0) (A.ofN 0)) (Tree.need (A.room (A.toN (A.ofN 0)) 64) (Tree.need (A.room (A.addN 0 0) 64) (Tree.need (A.le (Int.ofNat 0) (A.ofN 0)) (Tree.need (A.room (A.toN (A.ofN 0)) 64) (Tree.need (A.room (A.addN 0 n) 16) (Tree.need (A.room (A.addN 0 0) 64) (Tree.must [Eqn.sh (Sh.sl 2 n g) (Sh.sl 2 n g), Eqn.sh (Sh.sl 0 0 h) (Sh.sl 0 0 h), Eqn.sh (Sh.sl 2 n g) (Sh.sl 2 n g), Eqn.sh (Sh.sl 0 0 h) (Sh.sl 0 0 h), Eqn.nat (A.addN 0 n) (A.addN 0 n), Eqn.fun_ (A.snoc (fun (_x : Nat) => []) 0 g) (A.snoc (fun (_x : Nat) => []) 0 g), Eqn.nat (A.addN 0 0) (A.addN 0 0), Eqn.fun_ (A.snoc (fun (_x : Nat) => []) 0 fun (_x : Nat) => []) (A.snoc (fun (_x : Nat) => []) 0 fun (_x : Nat) => [])] (Tree.need (A.le (Int.ofNat 0) (A.ofN 0)) (Tree.need (A.room (A.toN (A.ofN 0)) 64) (Tree.need (A.le (Int.ofNat 0) (A.ofN n)) (Tree.need (A.room (A.toN (A.ofN n)) 16) (Tree.need (A.room (A.addN 0 n) 16) (Tree.need (A.room (A.addN 0 0) 64) (Tree.must [Eqn.sh (Sh.sl 2 n g) (Sh.sl 2 n g), Eqn.sh (Sh.sl 0 0 h) (Sh.sl 0 0 h), Eqn.sh (Sh.sl 2 n g) (Sh.sl 2 n g), Eqn.sh (Sh.sl 0 0 h) (Sh.sl 0 0 h), Eqn.nat (A.addN 0 n) (A.addN 0 n), Eqn.fun_ (A.snoc (fun (_x : Nat) => []) 0 g) (A.snoc (fun (_x : Nat) => []) 0 g), Eqn.nat (A.addN 0 0) (A.addN 0 0), Eqn.fun_ (A.snoc (fun (_x : Nat) => []) 0 fun (_x : Nat) => []) (A.snoc (fun (_x : Nat) => []) 0 fun (_x : Nat) => [])] (Tree.leaf (Fin.ret (Sh.agg [Sh.os 31 2 (A.addN 0 n) (A.addN 0 n, A.snoc (fun (_x : Nat) => []) 0 g).snd, Sh.os 34 8 (A.addN 0 0) (A.addN 0 0, A.snoc (fun (_x : Nat) => []) 0 fun (_x : Nat) => []).snd])))))))))))))))))))) := by kernel_rfl
theorem a42 (A : Prim) (W : Wd) (n m : Nat) (o p : Nat → Oj) (i' : Int) : runTo (C5 A W noSpec stopAll) noHold 300 200 42 [.code []] (start0 26 [.sl 2 n (fnR o), .sl 2 m (fnR p)] L0) [] [⟨42, td35, LO42 n m o p i', []⟩] = Tree.node (A.nt (A.eq (A.ofN n) (A.ofN m))) (Tree.leaf (Fe2.ret (Sh.b false))) (Tree.leaf (Fe2.at_ 0 [Eqn.sh (Sh.sl 2 n (fnR o)) (Sh.sl 2 n (fnR o)), Eqn.sh (Sh.sl 2 m (fnR p)) (Sh.sl 2 m (fnR p)), Eqn.int (A.ofN n) (Int.ofNat n), Eqn.int (Int.ofNat 0) i'])) := by kernel_rfl
theorem b42 (A : Prim) (W : Wd) (n m : Nat) (o p : Nat → Oj) (i i' : Int) : runTo (C5 A W noSpec stopAll) noHold 300 200 42 tb35 (LO42 n m o p i) [] [⟨42, td35, LO42 n m o p i', []⟩] = Tree.node (A.lt i (Int.ofNat n)) (Tree.need (A.inB i n) (Tree.need (A.inB i m) (Tree.node (A.nt (A.ite (A.eq (o (A.toN i)).kind (p (A.toN i)).kind) (A.ite (A.eq (o (A.toN i)).init (p (A.toN i)).init) true false) false)) (Tree.leaf (Fe2.ret (Sh.b false))) (Tree.leaf (Fe2.at_ 0 [Eqn.sh (Sh.sl 2 n (fnR o)) (Sh.sl 2 n (fnR o)), Eqn.sh (Sh.sl 2 m (fnR p)) (Sh.sl 2 m (fnR p)), Eqn.int (Int.ofNat n) (Int.ofNat n), Eqn.int (A.add IntKind.i64 i (Int.ofNat 1)) i']))))) (Tree.leaf (Fe2.ret (Sh.b true))) := by kernel_rfl
end Go.Proofs
namespace Go.Proofs
open Go Go.Sx Go.Pl
theorem snoc0 (g : Nat → List Sh) : prim.snoc (fun _ => []) 0 g = g := by
  funext i
  rw [prim_snoc, if_neg (Nat.not_lt_zero i), Nat.sub_zero]
/-- A slice of rows of that size, nil too. -/
def slN (st : Nat) : Sh → Option (Nat × (Nat → List Sh))
  | .sl st' n g => bif Nat.beq st' st then some (n, g) else bif Nat.beq st' 0 && Nat.beq n 0 then some (0, fun _ => []) else none
  | _ => none
theorem slN_ok {st : Nat} {s : Sh} {n : Nat} {g : Nat → List Sh} (h : slN st s = some (n, g)) : s = .sl st n g ∨ (∃ g', s = .sl 0 0 g' ∧ n = 0 ∧ g = fun _ => []) := by
  unfold slN at h
  split at h
  · rename_i st' m g'
    cases h1 : Nat.beq st' st <;> simp only [h1, cond_true, cond_false] at h
    · cases h2 : (Nat.beq st' 0 && Nat.beq m 0) <;> simp only [h2, cond_true, cond_false] at h
      · cases h
      · cases h
        simp only [Bool.and_eq_true] at h2
        have e1 := Nat.eq_of_beq_eq_true h2.1
        have e2 := Nat.eq_of_beq_eq_true h2.2
        subst e1 e2
        exact .inr ⟨_, rfl, rfl, rfl⟩
    · cases h
      have := Nat.eq_of_beq_eq_true h1
      subst this
      exact .inl rfl
  · cases h
def F37 : List Sh → Tree Sh
  | [.agg [.sl 2 n g, s]] => match slN 8 s with
    | some (m, h) => .need (roomB n 16) (.need (roomB m 64) (.leaf (.agg [.os 31 2 n g, .os 34 8 m h])))
    | none => .fail
  | _ => .fail
theorem O37 : FnOK Tryd.prog (gls5 W5) 37 F37 := by
  refine fnOK_run (C := C5 prim W5 noSpec stopAll) (C5.ok _ _) (fok0 _) (n := 300) (L := L0) (fn := Tryd.f37) (by kernel_rfl) (by kernel_rfl) fun H w shs args φ hrep h => ?_
  have hn : Tryd.f37.ntmps = 18 := by kernel_rfl
  unfold F37 at h
  split at h
  · rename_i n g s
    split at h
    · rename_i m h' hs
      obtain ⟨h1, h2, h3⟩ := h
      have h1 : prim.room n 16 = true := h1
      have h2 : prim.room m 64 = true := h2
      refine ⟨[.agg [.sl 2 n g, s]], hrep, ?_⟩
      rw [hn]
      rcases slN_ok hs with rfl | ⟨g', rfl, rfl, rfl⟩
      · rw [a37 prim W5 n m g h']
        simpa [Tree.All, FinOK, Eqn.all, Eqn.ok, prim_le, prim_ofN, prim_toN, prim_addN, h1, h2, snoc0] using h3
      · rw [a37n prim W5 n g g']
        simpa [Tree.All, FinOK, Eqn.all, Eqn.ok, prim_le, prim_ofN, prim_toN, prim_addN, h1, h2, snoc0] using h3
    · exact h.elim
  · exact h.elim
def F42 : List Sh → Tree Sh
  | [.sl 2 n g, .sl 2 m h] => .need (okB Oj n g) (.need (okB Oj m h) (.leaf (.b (sameL (lst Oj n g) (lst Oj m h)))))
  | _ => .fail
theorem loop42 {H0 : Mem} {w0 : World} {n : Nat} {o p : Nat → Oj} {φ : Sh → Prop} (hn : n ≤ maxLen) (hT : (∀ j, j < n → o j = p j) → φ (.b true)) (hF : (¬ ∀ j, j < n → o j = p j) → φ (.b false)) :
    ∀ m k, k + m = n → (∀ j, j < k → o j = p j) → GoesS Tryd.prog (C5 prim W5 noSpec stopAll) (K0 H0 w0) 42 td35 (LO42 n n o p k) [] emp φ
  | m, k, hk, hE => by
    rw [maxLen_eq] at hn
    refine goesS_into (fn := Tryd.f42) (tb := tb35) (by kernel_rfl) (by kernel_rfl) ?_
    refine goesS_runTo (C5.ok _ _) (fok0 _) (hold := noHold) (m := 300) (n := 200) (ts := [⟨42, td35, LO42 n n o p (k + 1 : Nat), []⟩]) ?_
    rw [b42 prim W5 n n o p k (k + 1 : Nat)]
    simp only [prim_lt, prim_inB, prim_toN, prim_eq, prim_nt, prim_ite, prim_add, one_eq, Tree.All, Fe2OK, Int.toNat_natCast]
    have bad : k < n → o k ≠ p k → φ (.b false) := fun h1 h2 => hF fun e => h2 (e k h1)
    have good : k < n → o k = p k → GoesS Tryd.prog (C5 prim W5 noSpec stopAll) (K0 H0 w0) 42 td35 (LO42 n n o p (k + 1 : Nat)) [] emp φ := fun h1 h2 => by
      match m, hk with
      | 0, hk => omega
      | m + 1, hk =>
        refine loop42 (by rw [maxLen_eq]; exact hn) hT hF m (k + 1) (by omega) fun j hj => ?_
        by_cases e : j = k
        · subst e; exact h2
        · exact hE j (by omega)
    refine ⟨fun h => ?_, fun h => ?_⟩
    · have hlt : k < n := by simp at h; omega
      refine ⟨by simp; omega, by simp; omega, ?_⟩
      have fin : o k = p k → Eqn.all [Eqn.sh (Sh.sl 2 n (fnR o)) (Sh.sl 2 n (fnR o)), Eqn.sh (Sh.sl 2 n (fnR p)) (Sh.sl 2 n (fnR p)), Eqn.int (Int.ofNat n) (Int.ofNat n), Eqn.int (IntKind.i64.wrap ((k : Int) + 1)) ((k + 1 : Nat) : Int)] ∧ ∃ t, [(⟨42, td35, LO42 n n o p (k + 1 : Nat), []⟩ : Tgt)][0]? = some t ∧ GoesS Tryd.prog (C5 prim W5 noSpec stopAll) (K0 H0 w0) t.g t.td t.c t.stk emp φ := fun e =>
        ⟨⟨rfl, rfl, rfl, by simp only [Eqn.ok]; rw [wrap_id (by omega) (by omega)]; rfl, trivial⟩, _, rfl, good hlt e⟩
      by_cases e : o k = p k
      · have f2 := fin e
        rw [e]; simpa [Eqn.all, Eqn.ok] using f2
      · have b2 := bad hlt e
        have e2 : ¬ ((o k).kind = (p k).kind ∧ (o k).init = (p k).init) := fun q => e (oj_ext q.1 q.2)
        refine ⟨fun _ => b2, fun q => ?_⟩
        simp at q; exact (e2 q).elim
    · have : k = n := by simp at h; omega
      subst this
      exact hT hE
theorem O42 : FnOK Tryd.prog (gls5 W5) 42 F42 := by
  refine fnOK_S (C := C5 prim W5 noSpec stopAll) (C5.ok _ _) (fn := Tryd.f42) (by kernel_rfl) (by kernel_rfl) fun H w shs args φ hrep h => ?_
  unfold F42 at h
  split at h
  · rename_i n g m h'
    obtain ⟨h1, h2, h3⟩ := h
    match args, hrep with
    | [v, u], ⟨hv, hu, _⟩ =>
      refine ⟨[.sl 2 n (fnR (rwAt (α := Oj) g)), .sl 2 m (fnR (rwAt (α := Oj) h'))], ⟨rep_rows hv h1, rep_rows hu h2, trivial⟩, L0, ?_⟩
      have hmax := rep_len hv
      refine goesS_runTo (C5.ok _ _) (fok0 _) (hold := noHold) (m := 300) (n := 200) (ts := [⟨42, td35, LO42 n m (rwAt g) (rwAt h') (0 : Nat), []⟩]) ?_
      have hn : Tryd.f42.ntmps = 26 := by kernel_rfl
      rw [hn, a42 prim W5 n m (rwAt g) (rwAt h') (0 : Nat)]
      simp only [prim_ofN, prim_eq, prim_nt, Tree.All, Fe2OK]
      have h3 : φ (.b (sameL (lst Oj n g) (lst Oj m h'))) := h3
      refine ⟨fun h => ?_, fun h => ⟨⟨rfl, rfl, rfl, rfl, trivial⟩, _, rfl, ?_⟩⟩
      · have hne : n ≠ m := by simp at h; exact fun e => h (by rw [e])
        rwa [sameL_false fun e => hne (by have := congrArg List.length e; simpa using this)] at h3
      · have : n = m := by simp at h; omega
        subst this
        refine loop42 hmax (fun hE => ?_) (fun hE => ?_) n 0 (by omega) fun j hj => by omega
        · rwa [sameL_true (lst_ext hE)] at h3
        · rwa [sameL_false fun e => hE (lst_ext' e)] at h3
  · exact h.elim
end Go.Proofs
namespace Go.Proofs
open Go Go.Sx Go.Pl
def td41 : List It := [It.code [0, 1, 0, 1], It.inBlock 0, It.code [1, 1]]
def tb41 : List It := [It.code [0, 0, 1, 0, 1], It.code [0, 1, 0, 1], It.inBlock 0, It.code [1, 1]]
def spec38 : Nat → Option (List Sh → Tree Sh)
  | 37 => some F37
  | _ => none
def LO38 (n m : Nat) (g : Nat → List Sh) (p : Nat → Ev) (cl : Sh) (i : Int) (k : Nat) (gg : Nat → List Sh) : Core :=
  { tm := [.any, argSV cl, .any, .any, .ptr 1 0, .ptr 2 0, .any, .any, .any, .any, .any, .any, .any, .sh (.sl 8 m (fnR p)), .sym .i64 m, .sym .i64 i] ++ rep [.any] 16,
    hp := [(1, .box [.nils, .nils] 25), (2, .box [.gs 3, .gs 4] 25), (3, .own 31 2 n g), (4, .own 34 8 k gg)], nx := 5, lim := L0, tc := [] }
def cl39 (x : Int) : Sh := .fn 39 [.pt [.i .i64 x]]
def cl45 (a b c d e f at_ back : Int) : Sh := .fn 45 [.pt [.i .i64 a, .i .i64 b, .i .i64 c, .i .i64 d, .i .i64 e, .i .i64 f, .i .i64 at_, .i .i64 back]]
def cl24 (a b : Int) : Sh := .fn 40 [.pt [.fn 24 [.pt [.i .i64 a], .pt [.i .i64 b]]]]
def cl25 (a : Int) : Sh := .fn 40 [.pt [.fn 25 [.pt [.i .i64 a]]]]
def cl26 (a : Int) : Sh := .fn 40 [.pt [.fn 26 [.pt [.i .i64 a]]]]
def cl28 : Sh := .fn 40 [.pt [.fn 28 []]]

theorem a41 (A : Prim) (W : Wd) (n : Nat) (o : Nat → Int) (x i' : Int) : runTo (C5 A W noSpec stopAll) noHold 300 200 41 [.code []] (start0 18 [.sl 1 n (fnR o), .i .i64 x] L0) [] [⟨41, td41, LO41 n o x i', []⟩] = Tree.leaf (Fe2.at_ 0 [Eqn.sh (Sh.sl 1 n (fnR o)) (Sh.sl 1 n (fnR o)), Eqn.int x x, Eqn.int (Int.ofNat 0) i']) := by kernel_rfl
theorem b41 (A : Prim) (W : Wd) (n : Nat) (o : Nat → Int) (x i i' : Int) : runTo (C5 A W noSpec stopAll) noHold 300 200 41 tb41 (LO41 n o x i) [] [⟨41, td41, LO41 n o x i', []⟩] = Tree.node (A.lt i (A.ofN n)) (Tree.need (A.inB i n) (Tree.node (A.eq (o (A.toN i)) x) (Tree.leaf (Fe2.ret (Sh.b true))) (Tree.leaf (Fe2.at_ 0 [Eqn.sh (Sh.sl 1 n (fnR o)) (Sh.sl 1 n (fnR o)), Eqn.int x x, Eqn.int (A.add IntKind.i64 i (Int.ofNat 1)) i'])))) (Tree.leaf (Fe2.ret (Sh.b false))) := by kernel_rfl
theorem a38_39 (A : Prim) (W : Wd) (n m : Nat) (g : Nat → List Sh) (p : Nat → Ev) (x : Int) (i' : Int) (k' : Nat) (gg' : Nat → List Sh) : runTo (C5 A W spec38 stopAll) noHold 300 200 38 [.code []] (start0 32 [.agg [.sl 2 n g, .sl 8 m (fnR p)], (cl39 x)] L0) [] [⟨38, td10, LO38 n m g p (cl39 x) i' k' gg', []⟩] = Tree.need (roomB n 16) (Tree.need (roomB 0 64) (Tree.leaf (Fe2.at_ 0 [Eqn.nat 1 1, Eqn.fun_ (fun (_x_1 : Nat) => [Sh.i IntKind.i64 x]) fun (_x_1 : Nat) => [Sh.i IntKind.i64 x], Eqn.nat 0 0, Eqn.sh (Sh.sl 8 m (fnR p)) (Sh.sl 8 m (fnR p)), Eqn.int (A.ofN m) (Int.ofNat m), Eqn.int (Int.ofNat 0) i', Eqn.nat n n, Eqn.get n g g, Eqn.nat 0 k', Eqn.get 0 (fun (_x : Nat) => []) gg']))) := by kernel_rfl
theorem b38_39 (A : Prim) (W : Wd) (n m : Nat) (g : Nat → List Sh) (p : Nat → Ev) (x : Int) (i i' : Int) (k k' : Nat) (gg gg' : Nat → List Sh) : runTo (C5 A W spec38 stopAll) noHold 300 200 38 tb10 (LO38 n m g p (cl39 x) i k gg) [] [⟨38, td10, LO38 n m g p (cl39 x) i' k' gg', []⟩] = Tree.node (A.lt i (Int.ofNat m)) (Tree.need (A.inB i m) (Tree.node (A.nt (A.eq (p (A.toN i)).tx x)) (Tree.need (A.room (A.addN k 1) 64) (Tree.leaf (Fe2.at_ 0 [Eqn.nat 1 1, Eqn.fun_ (fun (_x_1 : Nat) => [Sh.i IntKind.i64 x]) fun (_x_1 : Nat) => [Sh.i IntKind.i64 x], Eqn.nat 0 0, Eqn.sh (Sh.sl 8 m (fnR p)) (Sh.sl 8 m (fnR p)), Eqn.int (Int.ofNat m) (Int.ofNat m), Eqn.int (A.add IntKind.i64 i (Int.ofNat 1)) i', Eqn.nat n n, Eqn.get n g g, Eqn.nat (A.addN k 1) k', Eqn.get (A.addN k 1) (A.snoc gg k (nthL [[Sh.i IntKind.i64 (p (A.toN i)).kind, Sh.i IntKind.i64 (p (A.toN i)).tx, Sh.i IntKind.i64 (p (A.toN i)).thread, Sh.i IntKind.i64 (p (A.toN i)).obj, Sh.i IntKind.i64 (p (A.toN i)).op, Sh.i IntKind.i64 (p (A.toN i)).key, Sh.i IntKind.i64 (p (A.toN i)).val, Sh.i IntKind.i64 (p (A.toN i)).ret]])) gg']))) (Tree.leaf (Fe2.at_ 0 [Eqn.nat 1 1, Eqn.fun_ (fun (_x_1 : Nat) => [Sh.i IntKind.i64 x]) fun (_x_1 : Nat) => [Sh.i IntKind.i64 x], Eqn.nat 0 0, Eqn.sh (Sh.sl 8 m (fnR p)) (Sh.sl 8 m (fnR p)), Eqn.int (Int.ofNat m) (Int.ofNat m), Eqn.int (A.add IntKind.i64 i (Int.ofNat 1)) i', Eqn.nat n n, Eqn.get n g g, Eqn.nat k k', Eqn.get k gg gg'])))) (Tree.leaf (Fe2.ret (Sh.agg [Sh.os 31 2 n (n, g).snd, Sh.os 34 8 k (k, gg).snd]))) := by kernel_rfl
theorem a38_45 (A : Prim) (W : Wd) (n m : Nat) (g : Nat → List Sh) (p : Nat → Ev) (a b c d e f u v : Int) (i' : Int) (k' : Nat) (gg' : Nat → List Sh) : runTo (C5 A W spec38 stopAll) noHold 300 200 38 [.code []] (start0 32 [.agg [.sl 2 n g, .sl 8 m (fnR p)], (cl45 a b c d e f u v)] L0) [] [⟨38, td10, LO38 n m g p (cl45 a b c d e f u v) i' k' gg', []⟩] = Tree.need (roomB n 16) (Tree.need (roomB 0 64) (Tree.leaf (Fe2.at_ 0 [Eqn.nat 1 1, Eqn.fun_ (fun (_x : Nat) => [Sh.i IntKind.i64 a, Sh.i IntKind.i64 b, Sh.i IntKind.i64 c, Sh.i IntKind.i64 d, Sh.i IntKind.i64 e, Sh.i IntKind.i64 f, Sh.i IntKind.i64 u, Sh.i IntKind.i64 v]) fun (_x : Nat) => [Sh.i IntKind.i64 a, Sh.i IntKind.i64 b, Sh.i IntKind.i64 c, Sh.i IntKind.i64 d, Sh.i IntKind.i64 e, Sh.i IntKind.i64 f, Sh.i IntKind.i64 u, Sh.i IntKind.i64 v], Eqn.nat 0 0, Eqn.sh (Sh.sl 8 m (fnR p)) (Sh.sl 8 m (fnR p)), Eqn.int (A.ofN m) (Int.ofNat m), Eqn.int (Int.ofNat 0) i', Eqn.nat n n, Eqn.get n g g, Eqn.nat 0 k', Eqn.get 0 (fun (_x : Nat) => []) gg']))) := by kernel_rfl
theorem b38_45 (A : Prim) (W : Wd) (n m : Nat) (g : Nat → List Sh) (p : Nat → Ev) (a b c d e f u v : Int) (i i' : Int) (k k' : Nat) (gg gg' : Nat → List Sh) : runTo (C5 A W spec38 stopAll) noHold 300 200 38 tb10 (LO38 n m g p (cl45 a b c d e f u v) i k gg) [] [⟨38, td10, LO38 n m g p (cl45 a b c d e f u v) i' k' gg', []⟩] = Tree.node (A.lt i (Int.ofNat m)) (Tree.need (A.inB i m) (Tree.node (A.nt (A.eq i u)) (Tree.node (A.nt (A.eq i v)) (Tree.need (A.room (A.addN k 1) 64) (Tree.leaf (Fe2.at_ 0 [Eqn.nat 1 1, Eqn.fun_ (fun (_x : Nat) => [Sh.i IntKind.i64 a, Sh.i IntKind.i64 b, Sh.i IntKind.i64 c, Sh.i IntKind.i64 d, Sh.i IntKind.i64 e, Sh.i IntKind.i64 f, Sh.i IntKind.i64 u, Sh.i IntKind.i64 v]) fun (_x : Nat) => [Sh.i IntKind.i64 a, Sh.i IntKind.i64 b, Sh.i IntKind.i64 c, Sh.i IntKind.i64 d, Sh.i IntKind.i64 e, Sh.i IntKind.i64 f, Sh.i IntKind.i64 u, Sh.i IntKind.i64 v], Eqn.nat 0 0, Eqn.sh (Sh.sl 8 m (fnR p)) (Sh.sl 8 m (fnR p)), Eqn.int (Int.ofNat m) (Int.ofNat m), Eqn.int (A.add IntKind.i64 i (Int.ofNat 1)) i', Eqn.nat n n, Eqn.get n g g, Eqn.nat (A.addN k 1) k', Eqn.get (A.addN k 1) (A.snoc gg k (nthL [[Sh.i IntKind.i64 (p (A.toN i)).kind, Sh.i IntKind.i64 (p (A.toN i)).tx, Sh.i IntKind.i64 (p (A.toN i)).thread, Sh.i IntKind.i64 (p (A.toN i)).obj, Sh.i IntKind.i64 (p (A.toN i)).op, Sh.i IntKind.i64 (p (A.toN i)).key, Sh.i IntKind.i64 (p (A.toN i)).val, Sh.i IntKind.i64 (p (A.toN i)).ret]])) gg']))) (Tree.leaf (Fe2.at_ 0 [Eqn.nat 1 1, Eqn.fun_ (fun (_x : Nat) => [Sh.i IntKind.i64 a, Sh.i IntKind.i64 b, Sh.i IntKind.i64 c, Sh.i IntKind.i64 d, Sh.i IntKind.i64 e, Sh.i IntKind.i64 f, Sh.i IntKind.i64 u, Sh.i IntKind.i64 v]) fun (_x : Nat) => [Sh.i IntKind.i64 a, Sh.i IntKind.i64 b, Sh.i IntKind.i64 c, Sh.i IntKind.i64 d, Sh.i IntKind.i64 e, Sh.i IntKind.i64 f, Sh.i IntKind.i64 u, Sh.i IntKind.i64 v], Eqn.nat 0 0, Eqn.sh (Sh.sl 8 m (fnR p)) (Sh.sl 8 m (fnR p)), Eqn.int (Int.ofNat m) (Int.ofNat m), Eqn.int (A.add IntKind.i64 i (Int.ofNat 1)) i', Eqn.nat n n, Eqn.get n g g, Eqn.nat k k', Eqn.get k gg gg']))) (Tree.leaf (Fe2.at_ 0 [Eqn.nat 1 1, Eqn.fun_ (fun (_x : Nat) => [Sh.i IntKind.i64 a, Sh.i IntKind.i64 b, Sh.i IntKind.i64 c, Sh.i IntKind.i64 d, Sh.i IntKind.i64 e, Sh.i IntKind.i64 f, Sh.i IntKind.i64 u, Sh.i IntKind.i64 v]) fun (_x : Nat) => [Sh.i IntKind.i64 a, Sh.i IntKind.i64 b, Sh.i IntKind.i64 c, Sh.i IntKind.i64 d, Sh.i IntKind.i64 e, Sh.i IntKind.i64 f, Sh.i IntKind.i64 u, Sh.i IntKind.i64 v], Eqn.nat 0 0, Eqn.sh (Sh.sl 8 m (fnR p)) (Sh.sl 8 m (fnR p)), Eqn.int (Int.ofNat m) (Int.ofNat m), Eqn.int (A.add IntKind.i64 i (Int.ofNat 1)) i', Eqn.nat n n, Eqn.get n g g, Eqn.nat k k', Eqn.get k gg gg'])))) (Tree.leaf (Fe2.ret (Sh.agg [Sh.os 31 2 n (n, g).snd, Sh.os 34 8 k (k, gg).snd]))) := by kernel_rfl
theorem a38_24 (A : Prim) (W : Wd) (n m : Nat) (g : Nat → List Sh) (p : Nat → Ev) (a b : Int) (i' : Int) (k' : Nat) (gg' : Nat → List Sh) : runTo (C5 A W spec38 stopAll) noHold 300 200 38 [.code []] (start0 32 [.agg [.sl 2 n g, .sl 8 m (fnR p)], (cl24 a b)] L0) [] [⟨38, td10, LO38 n m g p (cl24 a b) i' k' gg', []⟩] = Tree.need (roomB n 16) (Tree.need (roomB 0 64) (Tree.leaf (Fe2.at_ 0 [Eqn.nat 1 1, Eqn.fun_ (fun (_x : Nat) => [Sh.fn 24 [Sh.pt [Sh.i IntKind.i64 a], Sh.pt [Sh.i IntKind.i64 b]]]) fun (_x : Nat) => [Sh.fn 24 [Sh.pt [Sh.i IntKind.i64 a], Sh.pt [Sh.i IntKind.i64 b]]], Eqn.nat 0 0, Eqn.sh (Sh.sl 8 m (fnR p)) (Sh.sl 8 m (fnR p)), Eqn.int (A.ofN m) (Int.ofNat m), Eqn.int (Int.ofNat 0) i', Eqn.nat n n, Eqn.get n g g, Eqn.nat 0 k', Eqn.get 0 (fun (_x : Nat) => []) gg']))) := by kernel_rfl
theorem b38_24 (A : Prim) (W : Wd) (n m : Nat) (g : Nat → List Sh) (p : Nat → Ev) (a b : Int) (i i' : Int) (k k' : Nat) (gg gg' : Nat → List Sh) : runTo (C5 A W spec38 stopAll) noHold 300 200 38 tb10 (LO38 n m g p (cl24 a b) i k gg) [] [⟨38, td10, LO38 n m g p (cl24 a b) i' k' gg', []⟩] = Tree.node (A.lt i (Int.ofNat m)) (Tree.need (A.inB i m) (Tree.node (A.nt (A.eq (p (A.toN i)).tx a)) (Tree.node (A.nt (A.eq (p (A.toN i)).tx b)) (Tree.need (A.room (A.addN k 1) 64) (Tree.leaf (Fe2.at_ 0 [Eqn.nat 1 1, Eqn.fun_ (fun (_x : Nat) => [Sh.fn 24 [Sh.pt [Sh.i IntKind.i64 a], Sh.pt [Sh.i IntKind.i64 b]]]) fun (_x : Nat) => [Sh.fn 24 [Sh.pt [Sh.i IntKind.i64 a], Sh.pt [Sh.i IntKind.i64 b]]], Eqn.nat 0 0, Eqn.sh (Sh.sl 8 m (fnR p)) (Sh.sl 8 m (fnR p)), Eqn.int (Int.ofNat m) (Int.ofNat m), Eqn.int (A.add IntKind.i64 i (Int.ofNat 1)) i', Eqn.nat n n, Eqn.get n g g, Eqn.nat (A.addN k 1) k', Eqn.get (A.addN k 1) (A.snoc gg k (nthL [[Sh.i IntKind.i64 (p (A.toN i)).kind, Sh.i IntKind.i64 (p (A.toN i)).tx, Sh.i IntKind.i64 (p (A.toN i)).thread, Sh.i IntKind.i64 (p (A.toN i)).obj, Sh.i IntKind.i64 (p (A.toN i)).op, Sh.i IntKind.i64 (p (A.toN i)).key, Sh.i IntKind.i64 (p (A.toN i)).val, Sh.i IntKind.i64 (p (A.toN i)).ret]])) gg']))) (Tree.leaf (Fe2.at_ 0 [Eqn.nat 1 1, Eqn.fun_ (fun (_x : Nat) => [Sh.fn 24 [Sh.pt [Sh.i IntKind.i64 a], Sh.pt [Sh.i IntKind.i64 b]]]) fun (_x : Nat) => [Sh.fn 24 [Sh.pt [Sh.i IntKind.i64 a], Sh.pt [Sh.i IntKind.i64 b]]], Eqn.nat 0 0, Eqn.sh (Sh.sl 8 m (fnR p)) (Sh.sl 8 m (fnR p)), Eqn.int (Int.ofNat m) (Int.ofNat m), Eqn.int (A.add IntKind.i64 i (Int.ofNat 1)) i', Eqn.nat n n, Eqn.get n g g, Eqn.nat k k', Eqn.get k gg gg']))) (Tree.leaf (Fe2.at_ 0 [Eqn.nat 1 1, Eqn.fun_ (fun (_x : Nat) => [Sh.fn 24 [Sh.pt [Sh.i IntKind.i64 a], Sh.pt [Sh.i IntKind.i64 b]]]) fun (_x : Nat) => [Sh.fn 24 [Sh.pt [Sh.i IntKind.i64 a], Sh.pt [Sh.i IntKind.i64 b]]], Eqn.nat 0 0, Eqn.sh (Sh.sl 8 m (fnR p)) (Sh.sl 8 m (fnR p)), Eqn.int (Int.ofNat m) (Int.ofNat m), Eqn.int (A.add IntKind.i64 i (Int.ofNat 1)) i', Eqn.nat n n, Eqn.get n g g, Eqn.nat k k', Eqn.get k gg gg'])))) (Tree.leaf (Fe2.ret (Sh.agg [Sh.os 31 2 n (n, g).snd, Sh.os 34 8 k (k, gg).snd]))) := by kernel_rfl
theorem a38_25 (A : Prim) (W : Wd) (n m : Nat) (g : Nat → List Sh) (p : Nat → Ev) (a : Int) (i' : Int) (k' : Nat) (gg' : Nat → List Sh) : runTo (C5 A W spec38 stopAll) noHold 300 200 38 [.code []] (start0 32 [.agg [.sl 2 n g, .sl 8 m (fnR p)], (cl25 a)] L0) [] [⟨38, td10, LO38 n m g p (cl25 a) i' k' gg', []⟩] = Tree.need (roomB n 16) (Tree.need (roomB 0 64) (Tree.leaf (Fe2.at_ 0 [Eqn.nat 1 1, Eqn.fun_ (fun (_x : Nat) => [Sh.fn 25 [Sh.pt [Sh.i IntKind.i64 a]]]) fun (_x : Nat) => [Sh.fn 25 [Sh.pt [Sh.i IntKind.i64 a]]], Eqn.nat 0 0, Eqn.sh (Sh.sl 8 m (fnR p)) (Sh.sl 8 m (fnR p)), Eqn.int (A.ofN m) (Int.ofNat m), Eqn.int (Int.ofNat 0) i', Eqn.nat n n, Eqn.get n g g, Eqn.nat 0 k', Eqn.get 0 (fun (_x : Nat) => []) gg']))) := by kernel_rfl
theorem b38_25 (A : Prim) (W : Wd) (n m : Nat) (g : Nat → List Sh) (p : Nat → Ev) (a : Int) (i i' : Int) (k k' : Nat) (gg gg' : Nat → List Sh) : runTo (C5 A W spec38 stopAll) noHold 300 200 38 tb10 (LO38 n m g p (cl25 a) i k gg) [] [⟨38, td10, LO38 n m g p (cl25 a) i' k' gg', []⟩] = Tree.node (A.lt i (Int.ofNat m)) (Tree.need (A.inB i m) (Tree.node (A.eq (p (A.toN i)).tx a) (Tree.need (A.room (A.addN k 1) 64) (Tree.leaf (Fe2.at_ 0 [Eqn.nat 1 1, Eqn.fun_ (fun (_x : Nat) => [Sh.fn 25 [Sh.pt [Sh.i IntKind.i64 a]]]) fun (_x : Nat) => [Sh.fn 25 [Sh.pt [Sh.i IntKind.i64 a]]], Eqn.nat 0 0, Eqn.sh (Sh.sl 8 m (fnR p)) (Sh.sl 8 m (fnR p)), Eqn.int (Int.ofNat m) (Int.ofNat m), Eqn.int (A.add IntKind.i64 i (Int.ofNat 1)) i', Eqn.nat n n, Eqn.get n g g, Eqn.nat (A.addN k 1) k', Eqn.get (A.addN k 1) (A.snoc gg k (nthL [[Sh.i IntKind.i64 (p (A.toN i)).kind, Sh.i IntKind.i64 (p (A.toN i)).tx, Sh.i IntKind.i64 (p (A.toN i)).thread, Sh.i IntKind.i64 (p (A.toN i)).obj, Sh.i IntKind.i64 (p (A.toN i)).op, Sh.i IntKind.i64 (p (A.toN i)).key, Sh.i IntKind.i64 (p (A.toN i)).val, Sh.i IntKind.i64 (p (A.toN i)).ret]])) gg']))) (Tree.leaf (Fe2.at_ 0 [Eqn.nat 1 1, Eqn.fun_ (fun (_x : Nat) => [Sh.fn 25 [Sh.pt [Sh.i IntKind.i64 a]]]) fun (_x : Nat) => [Sh.fn 25 [Sh.pt [Sh.i IntKind.i64 a]]], Eqn.nat 0 0, Eqn.sh (Sh.sl 8 m (fnR p)) (Sh.sl 8 m (fnR p)), Eqn.int (Int.ofNat m) (Int.ofNat m), Eqn.int (A.add IntKind.i64 i (Int.ofNat 1)) i', Eqn.nat n n, Eqn.get n g g, Eqn.nat k k', Eqn.get k gg gg'])))) (Tree.leaf (Fe2.ret (Sh.agg [Sh.os 31 2 n (n, g).snd, Sh.os 34 8 k (k, gg).snd]))) := by kernel_rfl
theorem a38_26 (A : Prim) (W : Wd) (n m : Nat) (g : Nat → List Sh) (p : Nat → Ev) (a : Int) (i' : Int) (k' : Nat) (gg' : Nat → List Sh) : runTo (C5 A W spec38 stopAll) noHold 300 200 38 [.code []] (start0 32 [.agg [.sl 2 n g, .sl 8 m (fnR p)], (cl26 a)] L0) [] [⟨38, td10, LO38 n m g p (cl26 a) i' k' gg', []⟩] = Tree.need (roomB n 16) (Tree.need (roomB 0 64) (Tree.leaf (Fe2.at_ 0 [Eqn.nat 1 1, Eqn.fun_ (fun (_x : Nat) => [Sh.fn 26 [Sh.pt [Sh.i IntKind.i64 a]]]) fun (_x : Nat) => [Sh.fn 26 [Sh.pt [Sh.i IntKind.i64 a]]], Eqn.nat 0 0, Eqn.sh (Sh.sl 8 m (fnR p)) (Sh.sl 8 m (fnR p)), Eqn.int (A.ofN m) (Int.ofNat m), Eqn.int (Int.ofNat 0) i', Eqn.nat n n, Eqn.get n g g, Eqn.nat 0 k', Eqn.get 0 (fun (_x : Nat) => []) gg']))) := by kernel_rfl
theorem b38_26 (A : Prim) (W : Wd) (n m : Nat) (g : Nat → List Sh) (p : Nat → Ev) (a : Int) (i i' : Int) (k k' : Nat) (gg gg' : Nat → List Sh) : runTo (C5 A W spec38 stopAll) noHold 300 200 38 tb10 (LO38 n m g p (cl26 a) i k gg) [] [⟨38, td10, LO38 n m g p (cl26 a) i' k' gg', []⟩] = Tree.node (A.lt i (Int.ofNat m)) (Tree.need (A.inB i m) (Tree.node (A.eq (p (A.toN i)).tx a) (Tree.need (A.room (A.addN k 1) 64) (Tree.leaf (Fe2.at_ 0 [Eqn.nat 1 1, Eqn.fun_ (fun (_x : Nat) => [Sh.fn 26 [Sh.pt [Sh.i IntKind.i64 a]]]) fun (_x : Nat) => [Sh.fn 26 [Sh.pt [Sh.i IntKind.i64 a]]], Eqn.nat 0 0, Eqn.sh (Sh.sl 8 m (fnR p)) (Sh.sl 8 m (fnR p)), Eqn.int (Int.ofNat m) (Int.ofNat m), Eqn.int (A.add IntKind.i64 i (Int.ofNat 1)) i', Eqn.nat n n, Eqn.get n g g, Eqn.nat (A.addN k 1) k', Eqn.get (A.addN k 1) (A.snoc gg k (nthL [[Sh.i IntKind.i64 (p (A.toN i)).kind, Sh.i IntKind.i64 (p (A.toN i)).tx, Sh.i IntKind.i64 (p (A.toN i)).thread, Sh.i IntKind.i64 (p (A.toN i)).obj, Sh.i IntKind.i64 (p (A.toN i)).op, Sh.i IntKind.i64 (p (A.toN i)).key, Sh.i IntKind.i64 (p (A.toN i)).val, Sh.i IntKind.i64 (p (A.toN i)).ret]])) gg']))) (Tree.leaf (Fe2.at_ 0 [Eqn.nat 1 1, Eqn.fun_ (fun (_x : Nat) => [Sh.fn 26 [Sh.pt [Sh.i IntKind.i64 a]]]) fun (_x : Nat) => [Sh.fn 26 [Sh.pt [Sh.i IntKind.i64 a]]], Eqn.nat 0 0, Eqn.sh (Sh.sl 8 m (fnR p)) (Sh.sl 8 m (fnR p)), Eqn.int (Int.ofNat m) (Int.ofNat m), Eqn.int (A.add IntKind.i64 i (Int.ofNat 1)) i', Eqn.nat n n, Eqn.get n g g, Eqn.nat k k', Eqn.get k gg gg'])))) (Tree.leaf (Fe2.ret (Sh.agg [Sh.os 31 2 n (n, g).snd, Sh.os 34 8 k (k, gg).snd]))) := by kernel_rfl
theorem a38_28 (A : Prim) (W : Wd) (n m : Nat) (g : Nat → List Sh) (p : Nat → Ev) (i' : Int) (k' : Nat) (gg' : Nat → List Sh) : runTo (C5 A W spec38 stopAll) noHold 300 200 38 [.code []] (start0 32 [.agg [.sl 2 n g, .sl 8 m (fnR p)], cl28] L0) [] [⟨38, td10, LO38 n m g p cl28 i' k' gg', []⟩] = Tree.need (roomB n 16) (Tree.need (roomB 0 64) (Tree.leaf (Fe2.at_ 0 [Eqn.nat 1 1, Eqn.fun_ (fun (_x : Nat) => [Sh.fn 28 []]) fun (_x : Nat) => [Sh.fn 28 []], Eqn.nat 0 0, Eqn.sh (Sh.sl 8 m (fnR p)) (Sh.sl 8 m (fnR p)), Eqn.int (A.ofN m) (Int.ofNat m), Eqn.int (Int.ofNat 0) i', Eqn.nat n n, Eqn.get n g g, Eqn.nat 0 k', Eqn.get 0 (fun (_x : Nat) => []) gg']))) := by kernel_rfl
theorem b38_28 (A : Prim) (W : Wd) (n m : Nat) (g : Nat → List Sh) (p : Nat → Ev) (i i' : Int) (k k' : Nat) (gg gg' : Nat → List Sh) : runTo (C5 A W spec38 stopAll) noHold 300 200 38 tb10 (LO38 n m g p cl28 i k gg) [] [⟨38, td10, LO38 n m g p cl28 i' k' gg', []⟩] = Tree.node (A.lt i (Int.ofNat m)) (Tree.need (A.inB i m) (Tree.need (A.room (A.addN k 1) 64) (Tree.leaf (Fe2.at_ 0 [Eqn.nat 1 1, Eqn.fun_ (fun (_x : Nat) => [Sh.fn 28 []]) fun (_x : Nat) => [Sh.fn 28 []], Eqn.nat 0 0, Eqn.sh (Sh.sl 8 m (fnR p)) (Sh.sl 8 m (fnR p)), Eqn.int (Int.ofNat m) (Int.ofNat m), Eqn.int (A.add IntKind.i64 i (Int.ofNat 1)) i', Eqn.nat n n, Eqn.get n g g, Eqn.nat (A.addN k 1) k', Eqn.get (A.addN k 1) (A.snoc gg k (nthL [[Sh.i IntKind.i64 (p (A.toN i)).kind, Sh.i IntKind.i64 (p (A.toN i)).tx, Sh.i IntKind.i64 (p (A.toN i)).thread, Sh.i IntKind.i64 (p (A.toN i)).obj, Sh.i IntKind.i64 (p (A.toN i)).op, Sh.i IntKind.i64 (p (A.toN i)).key, Sh.i IntKind.i64 (p (A.toN i)).val, Sh.i IntKind.i64 (p (A.toN i)).ret]])) gg'])))) (Tree.leaf (Fe2.ret (Sh.agg [Sh.os 31 2 n (n, g).snd, Sh.os 34 8 k (k, gg).snd]))) := by kernel_rfl
end Go.Proofs
namespace Go.Pl
open Go Go.Sx
def hasB (l : List Int) (x : Int) : Bool := decide (x ∈ l)
/-- The events that P keeps, of the first i. -/
def keptF (P : Nat → Ev → Bool) (p : Nat → Ev) : Nat → List Ev
  | 0 => []
  | i + 1 => bif P i (p i) then keptF P p i ++ [p i] else keptF P p i
theorem keptF_le (P : Nat → Ev → Bool) (p : Nat → Ev) : ∀ i, (keptF P p i).length ≤ i
  | 0 => Nat.le_refl _
  | i + 1 => by
    have := keptF_le P p i
    simp only [keptF]
    cases P i (p i) <;> simp <;> omega
theorem snoc_nth {α : Type} [Row α] (l : List α) (a : α) {r : List (List Sh)} (h : nthL r 0 = Row.put a) : ∀ i, i < l.length + 1 → prim.snoc (fnR (nth l)) l.length (nthL r) i = fnR (nth (l ++ [a])) i := fun i hi => by
  rw [prim_snoc]
  split
  · rename_i h1
    simp only [fnR, nth]
    rw [List.getD_eq_getElem?_getD, List.getD_eq_getElem?_getD, List.getElem?_append_left h1]
  · have : i = l.length := by omega
    subst this
    rw [Nat.sub_self, h]
    simp [fnR, nth]
end Go.Pl
namespace Go.Proofs
open Go Go.Sx Go.Pl
def F41 : List Sh → Tree Sh
  | [.sl 1 n g, .i .i64 x] => .need (okB Int n g) (.leaf (.b (hasB (lst Int n g) x)))
  | _ => .fail
theorem loop41 {H0 : Mem} {w0 : World} {n : Nat} {o : Nat → Int} {x : Int} {φ : Sh → Prop} (hn : n ≤ maxLen) (hT : (∃ j, j < n ∧ o j = x) → φ (.b true)) (hF : (¬ ∃ j, j < n ∧ o j = x) → φ (.b false)) :
    ∀ m k, k + m = n → (∀ j, j < k → o j ≠ x) → GoesS Tryd.prog (C5 prim W5 noSpec stopAll) (K0 H0 w0) 41 td41 (LO41 n o x k) [] emp φ
  | m, k, hk, hE => by
    rw [maxLen_eq] at hn
    refine goesS_into (fn := Tryd.f41) (tb := tb41) (by kernel_rfl) (by kernel_rfl) ?_
    refine goesS_runTo (C5.ok _ _) (fok0 _) (hold := noHold) (m := 300) (n := 200) (ts := [⟨41, td41, LO41 n o x (k + 1 : Nat), []⟩]) ?_
    rw [b41 prim W5 n o x k (k + 1 : Nat)]
    simp only [prim_lt, prim_ofN, prim_inB, prim_toN, prim_eq, prim_add, one_eq, Tree.All, Fe2OK, Int.toNat_natCast]
    refine ⟨fun h => ?_, fun h => ?_⟩
    · have hlt : k < n := by simp at h; omega
      refine ⟨by simp; omega, fun q => hT ⟨k, hlt, by simpa using q⟩, fun q => ⟨⟨rfl, rfl, by simp only [Eqn.ok]; rw [wrap_id (by omega) (by omega)]; rfl, trivial⟩, _, rfl, ?_⟩⟩
      match m, hk with
      | 0, hk => omega
      | m + 1, hk =>
        refine loop41 (by rw [maxLen_eq]; exact hn) hT hF m (k + 1) (by omega) fun j hj => ?_
        by_cases e : j = k
        · subst e; simpa using q
        · exact hE j (by omega)
    · have : k = n := by simp at h; omega
      subst this
      exact hF fun ⟨j, hj, e⟩ => hE j hj e
theorem O41 : FnOK Tryd.prog (gls5 W5) 41 F41 := by
  refine fnOK_S (C := C5 prim W5 noSpec stopAll) (C5.ok _ _) (fn := Tryd.f41) (by kernel_rfl) (by kernel_rfl) fun H w shs args φ hrep h => ?_
  unfold F41 at h
  split at h
  · rename_i n g x
    obtain ⟨h1, h3⟩ := h
    match args, hrep with
    | [v, u], ⟨hv, hu, _⟩ =>
      refine ⟨[.sl 1 n (fnR (rwAt (α := Int) g)), .i .i64 x], ⟨rep_rows hv h1, hu, trivial⟩, L0, ?_⟩
      have hmax := rep_len hv
      refine goesS_runTo (C5.ok _ _) (fok0 _) (hold := noHold) (m := 300) (n := 200) (ts := [⟨41, td41, LO41 n (rwAt g) x (0 : Nat), []⟩]) ?_
      have hn : Tryd.f41.ntmps = 18 := by kernel_rfl
      rw [hn, a41 prim W5 n (rwAt g) x (0 : Nat)]
      have h3 : φ (.b (hasB (lst Int n g) x)) := h3
      have hiff : x ∈ lst Int n g ↔ ∃ j, j < n ∧ rwAt g j = x := by simp [lst]
      refine ⟨⟨rfl, rfl, rfl, trivial⟩, _, rfl, loop41 hmax (fun q => ?_) (fun q => ?_) n 0 (by omega) fun j hj => by omega⟩
      · rwa [show hasB (lst Int n g) x = true from decide_eq_true (hiff.2 q)] at h3
      · rwa [show hasB (lst Int n g) x = false from decide_eq_false fun e => q (hiff.1 e)] at h3
  · exact h.elim
theorem O38s : ∀ g F, spec38 g = some F → FnOK Tryd.prog (gls5 W5) g F := fun g F h => by
  unfold spec38 at h
  split at h
  · cases h; exact O37
  · cases h
theorem fok38 (stop : Nat → List Nat → Bool) : FnsOK Tryd.prog (C5 prim W5 spec38 stop) := C5.fok O38s fun g h => by
  unfold spec38 at h
  split at h
  · kernel_rfl
  · cases h
theorem loop38_39 {H0 : Mem} {w0 : World} {n m : Nat} {g : Nat → List Sh} {p : Nat → Ev} {x : Int} {φ : Sh → Prop} (hr : prim.room m 64 = true) (hφ : φ (.agg [.os 31 2 n g, osR 34 8 (keptF (fun _ e => !(e.tx == x)) p m)])) :
    ∀ rm k, k + rm = m → GoesS Tryd.prog (C5 prim W5 spec38 stopAll) (K0 H0 w0) 38 td10 (LO38 n m g p (cl39 x) k (keptF (fun _ e => !(e.tx == x)) p k).length (fnR (nth (keptF (fun _ e => !(e.tx == x)) p k)))) [] emp φ
  | rm, k, hk => by
    obtain ⟨hr1, hr2⟩ := room_spec hr
    rw [maxLen_eq] at hr2
    have hle := keptF_le (fun _ e => !(e.tx == x)) p k
    refine goesS_into (fn := Tryd.f38) (tb := tb10) (by kernel_rfl) (by kernel_rfl) ?_
    refine goesS_runTo (C5.ok _ _) (fok38 _) (hold := noHold) (m := 300) (n := 200) (ts := [⟨38, td10, LO38 n m g p (cl39 x) (k + 1 : Nat) (keptF (fun _ e => !(e.tx == x)) p (k + 1)).length (fnR (nth (keptF (fun _ e => !(e.tx == x)) p (k + 1)))), []⟩]) ?_
    rw [b38_39 prim W5 n m g p x k (k + 1 : Nat) (keptF (fun _ e => !(e.tx == x)) p k).length (keptF (fun _ e => !(e.tx == x)) p (k + 1)).length (fnR (nth (keptF (fun _ e => !(e.tx == x)) p k))) (fnR (nth (keptF (fun _ e => !(e.tx == x)) p (k + 1))))]
    simp only [prim_lt, prim_ofN, prim_inB, prim_toN, prim_eq, prim_nt, prim_ite, prim_add, prim_addN, prim_room, one_eq, Tree.All, Fe2OK, Int.toNat_natCast]
    refine ⟨fun h => ?_, fun h => ?_⟩
    · have hlt : k < m := by simp at h; omega
      refine ⟨by simp; omega, ?_⟩
      have next : GoesS Tryd.prog (C5 prim W5 spec38 stopAll) (K0 H0 w0) 38 td10 (LO38 n m g p (cl39 x) (k + 1 : Nat) (keptF (fun _ e => !(e.tx == x)) p (k + 1)).length (fnR (nth (keptF (fun _ e => !(e.tx == x)) p (k + 1))))) [] emp φ := by
        match rm, hk with
        | 0, hk => omega
        | rm + 1, hk => exact loop38_39 hr hφ rm (k + 1) (by omega)
      have hi : IntKind.i64.wrap ((k : Int) + 1) = ((k + 1 : Nat) : Int) := by rw [wrap_id (by omega) (by omega)]; rfl
      have hroom : decide (((keptF (fun _ e => !(e.tx == x)) p k).length + 1) * 64 ≤ 140737488355328 ∧ (keptF (fun _ e => !(e.tx == x)) p k).length + 1 ≤ maxLen) = true := by rw [maxLen_eq]; simp; omega
      cases hP : ((fun _ e => !(e.tx == x)) : Nat → Ev → Bool) k (p k) with
      | true =>
        have e1 : keptF (fun _ e => !(e.tx == x)) p (k + 1) = keptF (fun _ e => !(e.tx == x)) p k ++ [p k] := by simp only [keptF, hP, cond_true]
        have e2 : (keptF (fun _ e => !(e.tx == x)) p k).length + 1 = (keptF (fun _ e => !(e.tx == x)) p (k + 1)).length := by rw [e1]; simp
        have e3 : ∀ (r : List (List Sh)), nthL r 0 = Row.put (p k) → ∀ i, i < (keptF (fun _ e => !(e.tx == x)) p k).length + 1 → prim.snoc (fnR (nth (keptF (fun _ e => !(e.tx == x)) p k))) (keptF (fun _ e => !(e.tx == x)) p k).length (nthL r) i = fnR (nth (keptF (fun _ e => !(e.tx == x)) p (k + 1))) i := fun r hr => by rw [e1]; exact snoc_nth _ _ hr
        refine ⟨fun _ => ?_, fun q => ?_⟩
        · exact ⟨hroom, ⟨rfl, rfl, rfl, rfl, rfl, hi, rfl, fun _ _ => rfl, e2, e3 _ rfl, trivial⟩, _, rfl, next⟩
        · simp at q hP; exact (hP q).elim
      | false =>
        have e1 : keptF (fun _ e => !(e.tx == x)) p (k + 1) = keptF (fun _ e => !(e.tx == x)) p k := by simp only [keptF, hP, cond_false]
        refine ⟨fun q => ?_, fun _ => ?_⟩
        · simp at q hP; exact (q hP).elim
        · exact ⟨⟨rfl, rfl, rfl, rfl, rfl, hi, rfl, fun _ _ => rfl, by simp only [Eqn.ok]; rw [e1], fun i _ => by rw [e1], trivial⟩, _, rfl, next⟩
    · have : k = m := by simp at h; omega
      subst this
      exact hφ
theorem loop38_45 {H0 : Mem} {w0 : World} {n m : Nat} {g : Nat → List Sh} {p : Nat → Ev} {a b c d e f u v : Int} {φ : Sh → Prop} (hr : prim.room m 64 = true) (hφ : φ (.agg [.os 31 2 n g, osR 34 8 (keptF (fun i _ => !((i : Int) == u) && !((i : Int) == v)) p m)])) :
    ∀ rm k, k + rm = m → GoesS Tryd.prog (C5 prim W5 spec38 stopAll) (K0 H0 w0) 38 td10 (LO38 n m g p (cl45 a b c d e f u v) k (keptF (fun i _ => !((i : Int) == u) && !((i : Int) == v)) p k).length (fnR (nth (keptF (fun i _ => !((i : Int) == u) && !((i : Int) == v)) p k)))) [] emp φ
  | rm, k, hk => by
    obtain ⟨hr1, hr2⟩ := room_spec hr
    rw [maxLen_eq] at hr2
    have hle := keptF_le (fun i _ => !((i : Int) == u) && !((i : Int) == v)) p k
    refine goesS_into (fn := Tryd.f38) (tb := tb10) (by kernel_rfl) (by kernel_rfl) ?_
    refine goesS_runTo (C5.ok _ _) (fok38 _) (hold := noHold) (m := 300) (n := 200) (ts := [⟨38, td10, LO38 n m g p (cl45 a b c d e f u v) (k + 1 : Nat) (keptF (fun i _ => !((i : Int) == u) && !((i : Int) == v)) p (k + 1)).length (fnR (nth (keptF (fun i _ => !((i : Int) == u) && !((i : Int) == v)) p (k + 1)))), []⟩]) ?_
    rw [b38_45 prim W5 n m g p a b c d e f u v k (k + 1 : Nat) (keptF (fun i _ => !((i : Int) == u) && !((i : Int) == v)) p k).length (keptF (fun i _ => !((i : Int) == u) && !((i : Int) == v)) p (k + 1)).length (fnR (nth (keptF (fun i _ => !((i : Int) == u) && !((i : Int) == v)) p k))) (fnR (nth (keptF (fun i _ => !((i : Int) == u) && !((i : Int) == v)) p (k + 1))))]
    simp only [prim_lt, prim_ofN, prim_inB, prim_toN, prim_eq, prim_nt, prim_ite, prim_add, prim_addN, prim_room, one_eq, Tree.All, Fe2OK, Int.toNat_natCast]
    refine ⟨fun h => ?_, fun h => ?_⟩
    · have hlt : k < m := by simp at h; omega
      refine ⟨by simp; omega, ?_⟩
      have next : GoesS Tryd.prog (C5 prim W5 spec38 stopAll) (K0 H0 w0) 38 td10 (LO38 n m g p (cl45 a b c d e f u v) (k + 1 : Nat) (keptF (fun i _ => !((i : Int) == u) && !((i : Int) == v)) p (k + 1)).length (fnR (nth (keptF (fun i _ => !((i : Int) == u) && !((i : Int) == v)) p (k + 1))))) [] emp φ := by
        match rm, hk with
        | 0, hk => omega
        | rm + 1, hk => exact loop38_45 hr hφ rm (k + 1) (by omega)
      have hi : IntKind.i64.wrap ((k : Int) + 1) = ((k + 1 : Nat) : Int) := by rw [wrap_id (by omega) (by omega)]; rfl
      have hroom : decide (((keptF (fun i _ => !((i : Int) == u) && !((i : Int) == v)) p k).length + 1) * 64 ≤ 140737488355328 ∧ (keptF (fun i _ => !((i : Int) == u) && !((i : Int) == v)) p k).length + 1 ≤ maxLen) = true := by rw [maxLen_eq]; simp; omega
      cases hP : ((fun i _ => !((i : Int) == u) && !((i : Int) == v)) : Nat → Ev → Bool) k (p k) with
      | true =>
        have e1 : keptF (fun i _ => !((i : Int) == u) && !((i : Int) == v)) p (k + 1) = keptF (fun i _ => !((i : Int) == u) && !((i : Int) == v)) p k ++ [p k] := by simp only [keptF, hP, cond_true]
        have e2 : (keptF (fun i _ => !((i : Int) == u) && !((i : Int) == v)) p k).length + 1 = (keptF (fun i _ => !((i : Int) == u) && !((i : Int) == v)) p (k + 1)).length := by rw [e1]; simp
        have e3 : ∀ (r : List (List Sh)), nthL r 0 = Row.put (p k) → ∀ i, i < (keptF (fun i _ => !((i : Int) == u) && !((i : Int) == v)) p k).length + 1 → prim.snoc (fnR (nth (keptF (fun i _ => !((i : Int) == u) && !((i : Int) == v)) p k))) (keptF (fun i _ => !((i : Int) == u) && !((i : Int) == v)) p k).length (nthL r) i = fnR (nth (keptF (fun i _ => !((i : Int) == u) && !((i : Int) == v)) p (k + 1))) i := fun r hr => by rw [e1]; exact snoc_nth _ _ hr
        refine ⟨fun q1 => ⟨fun q2 => ?_, fun q2 => ?_⟩, fun q1 => ?_⟩
        · exact ⟨hroom, ⟨rfl, rfl, rfl, rfl, rfl, hi, rfl, fun _ _ => rfl, e2, e3 _ rfl, trivial⟩, _, rfl, next⟩
        · simp at q2 hP; exact (hP.2 q2).elim
        · simp at q1 hP; exact (hP.1 q1).elim
      | false =>
        have e1 : keptF (fun i _ => !((i : Int) == u) && !((i : Int) == v)) p (k + 1) = keptF (fun i _ => !((i : Int) == u) && !((i : Int) == v)) p k := by simp only [keptF, hP, cond_false]
        refine ⟨fun q1 => ⟨fun q2 => ?_, fun q2 => ?_⟩, fun q1 => ?_⟩
        · simp at q1 q2 hP; exact (q2 (hP q1)).elim
        · exact ⟨⟨rfl, rfl, rfl, rfl, rfl, hi, rfl, fun _ _ => rfl, by simp only [Eqn.ok]; rw [e1], fun i _ => by rw [e1], trivial⟩, _, rfl, next⟩
        · exact ⟨⟨rfl, rfl, rfl, rfl, rfl, hi, rfl, fun _ _ => rfl, by simp only [Eqn.ok]; rw [e1], fun i _ => by rw [e1], trivial⟩, _, rfl, next⟩
    · have : k = m := by simp at h; omega
      subst this
      exact hφ
theorem loop38_24 {H0 : Mem} {w0 : World} {n m : Nat} {g : Nat → List Sh} {p : Nat → Ev} {a b : Int} {φ : Sh → Prop} (hr : prim.room m 64 = true) (hφ : φ (.agg [.os 31 2 n g, osR 34 8 (keptF (fun _ e => !(e.tx == a) && !(e.tx == b)) p m)])) :
    ∀ rm k, k + rm = m → GoesS Tryd.prog (C5 prim W5 spec38 stopAll) (K0 H0 w0) 38 td10 (LO38 n m g p (cl24 a b) k (keptF (fun _ e => !(e.tx == a) && !(e.tx == b)) p k).length (fnR (nth (keptF (fun _ e => !(e.tx == a) && !(e.tx == b)) p k)))) [] emp φ
  | rm, k, hk => by
    obtain ⟨hr1, hr2⟩ := room_spec hr
    rw [maxLen_eq] at hr2
    have hle := keptF_le (fun _ e => !(e.tx == a) && !(e.tx == b)) p k
    refine goesS_into (fn := Tryd.f38) (tb := tb10) (by kernel_rfl) (by kernel_rfl) ?_
    refine goesS_runTo (C5.ok _ _) (fok38 _) (hold := noHold) (m := 300) (n := 200) (ts := [⟨38, td10, LO38 n m g p (cl24 a b) (k + 1 : Nat) (keptF (fun _ e => !(e.tx == a) && !(e.tx == b)) p (k + 1)).length (fnR (nth (keptF (fun _ e => !(e.tx == a) && !(e.tx == b)) p (k + 1)))), []⟩]) ?_
    rw [b38_24 prim W5 n m g p a b k (k + 1 : Nat) (keptF (fun _ e => !(e.tx == a) && !(e.tx == b)) p k).length (keptF (fun _ e => !(e.tx == a) && !(e.tx == b)) p (k + 1)).length (fnR (nth (keptF (fun _ e => !(e.tx == a) && !(e.tx == b)) p k))) (fnR (nth (keptF (fun _ e => !(e.tx == a) && !(e.tx == b)) p (k + 1))))]
    simp only [prim_lt, prim_ofN, prim_inB, prim_toN, prim_eq, prim_nt, prim_ite, prim_add, prim_addN, prim_room, one_eq, Tree.All, Fe2OK, Int.toNat_natCast]
    refine ⟨fun h => ?_, fun h => ?_⟩
    · have hlt : k < m := by simp at h; omega
      refine ⟨by simp; omega, ?_⟩
      have next : GoesS Tryd.prog (C5 prim W5 spec38 stopAll) (K0 H0 w0) 38 td10 (LO38 n m g p (cl24 a b) (k + 1 : Nat) (keptF (fun _ e => !(e.tx == a) && !(e.tx == b)) p (k + 1)).length (fnR (nth (keptF (fun _ e => !(e.tx == a) && !(e.tx == b)) p (k + 1))))) [] emp φ := by
        match rm, hk with
        | 0, hk => omega
        | rm + 1, hk => exact loop38_24 hr hφ rm (k + 1) (by omega)
      have hi : IntKind.i64.wrap ((k : Int) + 1) = ((k + 1 : Nat) : Int) := by rw [wrap_id (by omega) (by omega)]; rfl
      have hroom : decide (((keptF (fun _ e => !(e.tx == a) && !(e.tx == b)) p k).length + 1) * 64 ≤ 140737488355328 ∧ (keptF (fun _ e => !(e.tx == a) && !(e.tx == b)) p k).length + 1 ≤ maxLen) = true := by rw [maxLen_eq]; simp; omega
      cases hP : ((fun _ e => !(e.tx == a) && !(e.tx == b)) : Nat → Ev → Bool) k (p k) with
      | true =>
        have e1 : keptF (fun _ e => !(e.tx == a) && !(e.tx == b)) p (k + 1) = keptF (fun _ e => !(e.tx == a) && !(e.tx == b)) p k ++ [p k] := by simp only [keptF, hP, cond_true]
        have e2 : (keptF (fun _ e => !(e.tx == a) && !(e.tx == b)) p k).length + 1 = (keptF (fun _ e => !(e.tx == a) && !(e.tx == b)) p (k + 1)).length := by rw [e1]; simp
        have e3 : ∀ (r : List (List Sh)), nthL r 0 = Row.put (p k) → ∀ i, i < (keptF (fun _ e => !(e.tx == a) && !(e.tx == b)) p k).length + 1 → prim.snoc (fnR (nth (keptF (fun _ e => !(e.tx == a) && !(e.tx == b)) p k))) (keptF (fun _ e => !(e.tx == a) && !(e.tx == b)) p k).length (nthL r) i = fnR (nth (keptF (fun _ e => !(e.tx == a) && !(e.tx == b)) p (k + 1))) i := fun r hr => by rw [e1]; exact snoc_nth _ _ hr
        refine ⟨fun q1 => ⟨fun q2 => ?_, fun q2 => ?_⟩, fun q1 => ?_⟩
        · exact ⟨hroom, ⟨rfl, rfl, rfl, rfl, rfl, hi, rfl, fun _ _ => rfl, e2, e3 _ rfl, trivial⟩, _, rfl, next⟩
        · simp at q2 hP; exact (hP.2 q2).elim
        · simp at q1 hP; exact (hP.1 q1).elim
      | false =>
        have e1 : keptF (fun _ e => !(e.tx == a) && !(e.tx == b)) p (k + 1) = keptF (fun _ e => !(e.tx == a) && !(e.tx == b)) p k := by simp only [keptF, hP, cond_false]
        refine ⟨fun q1 => ⟨fun q2 => ?_, fun q2 => ?_⟩, fun q1 => ?_⟩
        · simp at q1 q2 hP; exact (q2 (hP q1)).elim
        · exact ⟨⟨rfl, rfl, rfl, rfl, rfl, hi, rfl, fun _ _ => rfl, by simp only [Eqn.ok]; rw [e1], fun i _ => by rw [e1], trivial⟩, _, rfl, next⟩
        · exact ⟨⟨rfl, rfl, rfl, rfl, rfl, hi, rfl, fun _ _ => rfl, by simp only [Eqn.ok]; rw [e1], fun i _ => by rw [e1], trivial⟩, _, rfl, next⟩
    · have : k = m := by simp at h; omega
      subst this
      exact hφ
theorem loop38_25 {H0 : Mem} {w0 : World} {n m : Nat} {g : Nat → List Sh} {p : Nat → Ev} {a : Int} {φ : Sh → Prop} (hr : prim.room m 64 = true) (hφ : φ (.agg [.os 31 2 n g, osR 34 8 (keptF (fun _ e => e.tx == a) p m)])) :
    ∀ rm k, k + rm = m → GoesS Tryd.prog (C5 prim W5 spec38 stopAll) (K0 H0 w0) 38 td10 (LO38 n m g p (cl25 a) k (keptF (fun _ e => e.tx == a) p k).length (fnR (nth (keptF (fun _ e => e.tx == a) p k)))) [] emp φ
  | rm, k, hk => by
    obtain ⟨hr1, hr2⟩ := room_spec hr
    rw [maxLen_eq] at hr2
    have hle := keptF_le (fun _ e => e.tx == a) p k
    refine goesS_into (fn := Tryd.f38) (tb := tb10) (by kernel_rfl) (by kernel_rfl) ?_
    refine goesS_runTo (C5.ok _ _) (fok38 _) (hold := noHold) (m := 300) (n := 200) (ts := [⟨38, td10, LO38 n m g p (cl25 a) (k + 1 : Nat) (keptF (fun _ e => e.tx == a) p (k + 1)).length (fnR (nth (keptF (fun _ e => e.tx == a) p (k + 1)))), []⟩]) ?_
    rw [b38_25 prim W5 n m g p a k (k + 1 : Nat) (keptF (fun _ e => e.tx == a) p k).length (keptF (fun _ e => e.tx == a) p (k + 1)).length (fnR (nth (keptF (fun _ e => e.tx == a) p k))) (fnR (nth (keptF (fun _ e => e.tx == a) p (k + 1))))]
    simp only [prim_lt, prim_ofN, prim_inB, prim_toN, prim_eq, prim_nt, prim_ite, prim_add, prim_addN, prim_room, one_eq, Tree.All, Fe2OK, Int.toNat_natCast]
    refine ⟨fun h => ?_, fun h => ?_⟩
    · have hlt : k < m := by simp at h; omega
      refine ⟨by simp; omega, ?_⟩
      have next : GoesS Tryd.prog (C5 prim W5 spec38 stopAll) (K0 H0 w0) 38 td10 (LO38 n m g p (cl25 a) (k + 1 : Nat) (keptF (fun _ e => e.tx == a) p (k + 1)).length (fnR (nth (keptF (fun _ e => e.tx == a) p (k + 1))))) [] emp φ := by
        match rm, hk with
        | 0, hk => omega
        | rm + 1, hk => exact loop38_25 hr hφ rm (k + 1) (by omega)
      have hi : IntKind.i64.wrap ((k : Int) + 1) = ((k + 1 : Nat) : Int) := by rw [wrap_id (by omega) (by omega)]; rfl
      have hroom : decide (((keptF (fun _ e => e.tx == a) p k).length + 1) * 64 ≤ 140737488355328 ∧ (keptF (fun _ e => e.tx == a) p k).length + 1 ≤ maxLen) = true := by rw [maxLen_eq]; simp; omega
      cases hP : ((fun _ e => e.tx == a) : Nat → Ev → Bool) k (p k) with
      | true =>
        have e1 : keptF (fun _ e => e.tx == a) p (k + 1) = keptF (fun _ e => e.tx == a) p k ++ [p k] := by simp only [keptF, hP, cond_true]
        have e2 : (keptF (fun _ e => e.tx == a) p k).length + 1 = (keptF (fun _ e => e.tx == a) p (k + 1)).length := by rw [e1]; simp
        have e3 : ∀ (r : List (List Sh)), nthL r 0 = Row.put (p k) → ∀ i, i < (keptF (fun _ e => e.tx == a) p k).length + 1 → prim.snoc (fnR (nth (keptF (fun _ e => e.tx == a) p k))) (keptF (fun _ e => e.tx == a) p k).length (nthL r) i = fnR (nth (keptF (fun _ e => e.tx == a) p (k + 1))) i := fun r hr => by rw [e1]; exact snoc_nth _ _ hr
        refine ⟨fun _ => ?_, fun q => ?_⟩
        · exact ⟨hroom, ⟨rfl, rfl, rfl, rfl, rfl, hi, rfl, fun _ _ => rfl, e2, e3 _ rfl, trivial⟩, _, rfl, next⟩
        · simp at q hP; exact (q hP).elim
      | false =>
        have e1 : keptF (fun _ e => e.tx == a) p (k + 1) = keptF (fun _ e => e.tx == a) p k := by simp only [keptF, hP, cond_false]
        refine ⟨fun q => ?_, fun _ => ?_⟩
        · simp at q hP; exact (hP q).elim
        · exact ⟨⟨rfl, rfl, rfl, rfl, rfl, hi, rfl, fun _ _ => rfl, by simp only [Eqn.ok]; rw [e1], fun i _ => by rw [e1], trivial⟩, _, rfl, next⟩
    · have : k = m := by simp at h; omega
      subst this
      exact hφ
theorem loop38_26 {H0 : Mem} {w0 : World} {n m : Nat} {g : Nat → List Sh} {p : Nat → Ev} {a : Int} {φ : Sh → Prop} (hr : prim.room m 64 = true) (hφ : φ (.agg [.os 31 2 n g, osR 34 8 (keptF (fun _ e => e.tx == a) p m)])) :
    ∀ rm k, k + rm = m → GoesS Tryd.prog (C5 prim W5 spec38 stopAll) (K0 H0 w0) 38 td10 (LO38 n m g p (cl26 a) k (keptF (fun _ e => e.tx == a) p k).length (fnR (nth (keptF (fun _ e => e.tx == a) p k)))) [] emp φ
  | rm, k, hk => by
    obtain ⟨hr1, hr2⟩ := room_spec hr
    rw [maxLen_eq] at hr2
    have hle := keptF_le (fun _ e => e.tx == a) p k
    refine goesS_into (fn := Tryd.f38) (tb := tb10) (by kernel_rfl) (by kernel_rfl) ?_
    refine goesS_runTo (C5.ok _ _) (fok38 _) (hold := noHold) (m := 300) (n := 200) (ts := [⟨38, td10, LO38 n m g p (cl26 a) (k + 1 : Nat) (keptF (fun _ e => e.tx == a) p (k + 1)).length (fnR (nth (keptF (fun _ e => e.tx == a) p (k + 1)))), []⟩]) ?_
    rw [b38_26 prim W5 n m g p a k (k + 1 : Nat) (keptF (fun _ e => e.tx == a) p k).length (keptF (fun _ e => e.tx == a) p (k + 1)).length (fnR (nth (keptF (fun _ e => e.tx == a) p k))) (fnR (nth (keptF (fun _ e => e.tx == a) p (k + 1))))]
    simp only [prim_lt, prim_ofN, prim_inB, prim_toN, prim_eq, prim_nt, prim_ite, prim_add, prim_addN, prim_room, one_eq, Tree.All, Fe2OK, Int.toNat_natCast]
    refine ⟨fun h => ?_, fun h => ?_⟩
    · have hlt : k < m := by simp at h; omega
      refine ⟨by simp; omega, ?_⟩
      have next : GoesS Tryd.prog (C5 prim W5 spec38 stopAll) (K0 H0 w0) 38 td10 (LO38 n m g p (cl26 a) (k + 1 : Nat) (keptF (fun _ e => e.tx == a) p (k + 1)).length (fnR (nth (keptF (fun _ e => e.tx == a) p (k + 1))))) [] emp φ := by
        match rm, hk with
        | 0, hk => omega
        | rm + 1, hk => exact loop38_26 hr hφ rm (k + 1) (by omega)
      have hi : IntKind.i64.wrap ((k : Int) + 1) = ((k + 1 : Nat) : Int) := by rw [wrap_id (by omega) (by omega)]; rfl
      have hroom : decide (((keptF (fun _ e => e.tx == a) p k).length + 1) * 64 ≤ 140737488355328 ∧ (keptF (fun _ e => e.tx == a) p k).length + 1 ≤ maxLen) = true := by rw [maxLen_eq]; simp; omega
      cases hP : ((fun _ e => e.tx == a) : Nat → Ev → Bool) k (p k) with
      | true =>
        have e1 : keptF (fun _ e => e.tx == a) p (k + 1) = keptF (fun _ e => e.tx == a) p k ++ [p k] := by simp only [keptF, hP, cond_true]
        have e2 : (keptF (fun _ e => e.tx == a) p k).length + 1 = (keptF (fun _ e => e.tx == a) p (k + 1)).length := by rw [e1]; simp
        have e3 : ∀ (r : List (List Sh)), nthL r 0 = Row.put (p k) → ∀ i, i < (keptF (fun _ e => e.tx == a) p k).length + 1 → prim.snoc (fnR (nth (keptF (fun _ e => e.tx == a) p k))) (keptF (fun _ e => e.tx == a) p k).length (nthL r) i = fnR (nth (keptF (fun _ e => e.tx == a) p (k + 1))) i := fun r hr => by rw [e1]; exact snoc_nth _ _ hr
        refine ⟨fun _ => ?_, fun q => ?_⟩
        · exact ⟨hroom, ⟨rfl, rfl, rfl, rfl, rfl, hi, rfl, fun _ _ => rfl, e2, e3 _ rfl, trivial⟩, _, rfl, next⟩
        · simp at q hP; exact (q hP).elim
      | false =>
        have e1 : keptF (fun _ e => e.tx == a) p (k + 1) = keptF (fun _ e => e.tx == a) p k := by simp only [keptF, hP, cond_false]
        refine ⟨fun q => ?_, fun _ => ?_⟩
        · simp at q hP; exact (hP q).elim
        · exact ⟨⟨rfl, rfl, rfl, rfl, rfl, hi, rfl, fun _ _ => rfl, by simp only [Eqn.ok]; rw [e1], fun i _ => by rw [e1], trivial⟩, _, rfl, next⟩
    · have : k = m := by simp at h; omega
      subst this
      exact hφ
theorem loop38_28 {H0 : Mem} {w0 : World} {n m : Nat} {g : Nat → List Sh} {p : Nat → Ev}  {φ : Sh → Prop} (hr : prim.room m 64 = true) (hφ : φ (.agg [.os 31 2 n g, osR 34 8 (keptF (fun _ _ => true) p m)])) :
    ∀ rm k, k + rm = m → GoesS Tryd.prog (C5 prim W5 spec38 stopAll) (K0 H0 w0) 38 td10 (LO38 n m g p cl28 k (keptF (fun _ _ => true) p k).length (fnR (nth (keptF (fun _ _ => true) p k)))) [] emp φ
  | rm, k, hk => by
    obtain ⟨hr1, hr2⟩ := room_spec hr
    rw [maxLen_eq] at hr2
    have hle := keptF_le (fun _ _ => true) p k
    refine goesS_into (fn := Tryd.f38) (tb := tb10) (by kernel_rfl) (by kernel_rfl) ?_
    refine goesS_runTo (C5.ok _ _) (fok38 _) (hold := noHold) (m := 300) (n := 200) (ts := [⟨38, td10, LO38 n m g p cl28 (k + 1 : Nat) (keptF (fun _ _ => true) p (k + 1)).length (fnR (nth (keptF (fun _ _ => true) p (k + 1)))), []⟩]) ?_
    rw [b38_28 prim W5 n m g p  k (k + 1 : Nat) (keptF (fun _ _ => true) p k).length (keptF (fun _ _ => true) p (k + 1)).length (fnR (nth (keptF (fun _ _ => true) p k))) (fnR (nth (keptF (fun _ _ => true) p (k + 1))))]
    simp only [prim_lt, prim_ofN, prim_inB, prim_toN, prim_eq, prim_nt, prim_ite, prim_add, prim_addN, prim_room, one_eq, Tree.All, Fe2OK, Int.toNat_natCast]
    refine ⟨fun h => ?_, fun h => ?_⟩
    · have hlt : k < m := by simp at h; omega
      refine ⟨by simp; omega, ?_⟩
      have next : GoesS Tryd.prog (C5 prim W5 spec38 stopAll) (K0 H0 w0) 38 td10 (LO38 n m g p cl28 (k + 1 : Nat) (keptF (fun _ _ => true) p (k + 1)).length (fnR (nth (keptF (fun _ _ => true) p (k + 1))))) [] emp φ := by
        match rm, hk with
        | 0, hk => omega
        | rm + 1, hk => exact loop38_28 hr hφ rm (k + 1) (by omega)
      have hi : IntKind.i64.wrap ((k : Int) + 1) = ((k + 1 : Nat) : Int) := by rw [wrap_id (by omega) (by omega)]; rfl
      have hroom : decide (((keptF (fun _ _ => true) p k).length + 1) * 64 ≤ 140737488355328 ∧ (keptF (fun _ _ => true) p k).length + 1 ≤ maxLen) = true := by rw [maxLen_eq]; simp; omega
      cases hP : ((fun _ _ => true) : Nat → Ev → Bool) k (p k) with
      | true =>
        have e1 : keptF (fun _ _ => true) p (k + 1) = keptF (fun _ _ => true) p k ++ [p k] := by simp only [keptF, hP, cond_true]
        have e2 : (keptF (fun _ _ => true) p k).length + 1 = (keptF (fun _ _ => true) p (k + 1)).length := by rw [e1]; simp
        have e3 : ∀ (r : List (List Sh)), nthL r 0 = Row.put (p k) → ∀ i, i < (keptF (fun _ _ => true) p k).length + 1 → prim.snoc (fnR (nth (keptF (fun _ _ => true) p k))) (keptF (fun _ _ => true) p k).length (nthL r) i = fnR (nth (keptF (fun _ _ => true) p (k + 1))) i := fun r hr => by rw [e1]; exact snoc_nth _ _ hr
        exact ⟨hroom, ⟨rfl, rfl, rfl, rfl, rfl, hi, rfl, fun _ _ => rfl, e2, e3 _ rfl, trivial⟩, _, rfl, next⟩
      | false =>
        have e1 : keptF (fun _ _ => true) p (k + 1) = keptF (fun _ _ => true) p k := by simp only [keptF, hP, cond_false]
        cases hP
    · have : k = m := by simp at h; omega
      subst this
      exact hφ
end Go.Proofs
namespace Go.Proofs
open Go Go.Sx Go.Pl
/-- Which events a closure keeps. -/
def keepOf : Sh → Option (Nat → Ev → Bool)
  | .fn 39 [.pt [.i .i64 x]] => some (fun _ e => !(e.tx == x))
  | .fn 45 [.pt [.i .i64 a, .i .i64 b, .i .i64 c, .i .i64 d, .i .i64 e, .i .i64 f, .i .i64 u, .i .i64 v]] => some (fun i _ => !((i : Int) == u) && !((i : Int) == v))
  | .fn 40 [.pt [.fn 24 [.pt [.i .i64 a], .pt [.i .i64 b]]]] => some (fun _ e => !(e.tx == a) && !(e.tx == b))
  | .fn 40 [.pt [.fn 25 [.pt [.i .i64 a]]]] => some (fun _ e => e.tx == a)
  | .fn 40 [.pt [.fn 26 [.pt [.i .i64 a]]]] => some (fun _ e => e.tx == a)
  | .fn 40 [.pt [.fn 28 []]] => some (fun _ _ => true)
  | _ => none
def F38 : List Sh → Tree Sh
  | [.agg [.sl 2 n g, .sl 8 m h], cl] => match keepOf cl with
    | some P => .need (okB Ev m h) (.need (roomB n 16) (.need (roomB m 64) (.leaf (.agg [.os 31 2 n g, osR 34 8 (keptF P (rwAt h) m)]))))
    | none => .fail
  | _ => .fail
theorem rep_agg_rows {H : Mem} {n m : Nat} {g h : Nat → List Sh} {v : Value} (hv : Rep H (.agg [.sl 2 n g, .sl 8 m h]) v) (hk : okB Ev m h = true) : Rep H (.agg [.sl 2 n g, .sl 8 m (fnR (rwAt (α := Ev) h))]) v := by
  cases hv with
  | agg _ vs h1 h2 =>
    refine .agg _ vs h1 fun j s v' e1 e2 => ?_
    match j, e1 with
    | 0, e1 => simp at e1; subst e1; exact h2 0 _ v' rfl e2
    | 1, e1 => simp at e1; subst e1; exact rep_rows (h2 1 _ v' rfl e2) hk
    | j + 2, e1 => simp at e1
theorem O38 : FnOK Tryd.prog (gls5 W5) 38 F38 := by
  refine fnOK_S (C := C5 prim W5 spec38 stopAll) (C5.ok _ _) (fn := Tryd.f38) (by kernel_rfl) (by kernel_rfl) fun H w shs args φ hrep h => ?_
  have hn : Tryd.f38.ntmps = 32 := by kernel_rfl
  unfold F38 at h
  split at h
  · rename_i n g m h' cl
    split at h
    · rename_i P hP
      obtain ⟨h1, h2, h3, h4⟩ := h
      have h2 : prim.room n 16 = true := h2
      have h3 : prim.room m 64 = true := h3
      match args, hrep with
      | [v, u], ⟨hv, hu, _⟩ =>
        have hv' := rep_agg_rows hv h1
        rw [hn]
        unfold keepOf at hP
        split at hP
        · rename_i x
          cases hP
          refine ⟨[.agg [.sl 2 n g, .sl 8 m (fnR (rwAt (α := Ev) h'))], (cl39 x)], ⟨hv', hu, trivial⟩, L0, ?_⟩
          refine goesS_runTo (C5.ok _ _) (fok38 _) (hold := noHold) (m := 300) (n := 200) (ts := [⟨38, td10, LO38 n m g (rwAt h') (cl39 x) (0 : Nat) 0 (fnR (nth ([] : List Ev))), []⟩]) ?_
          rw [a38_39 prim W5 n m g (rwAt h') x (0 : Nat) 0 (fnR (nth ([] : List Ev)))]
          exact ⟨h2, rfl, ⟨rfl, rfl, rfl, rfl, rfl, rfl, rfl, fun _ _ => rfl, rfl, fun j hj => by omega, trivial⟩, _, rfl, loop38_39 h3 h4 m 0 (by omega)⟩
        · rename_i a b c d e f u v
          cases hP
          refine ⟨[.agg [.sl 2 n g, .sl 8 m (fnR (rwAt (α := Ev) h'))], (cl45 a b c d e f u v)], ⟨hv', hu, trivial⟩, L0, ?_⟩
          refine goesS_runTo (C5.ok _ _) (fok38 _) (hold := noHold) (m := 300) (n := 200) (ts := [⟨38, td10, LO38 n m g (rwAt h') (cl45 a b c d e f u v) (0 : Nat) 0 (fnR (nth ([] : List Ev))), []⟩]) ?_
          rw [a38_45 prim W5 n m g (rwAt h') a b c d e f u v (0 : Nat) 0 (fnR (nth ([] : List Ev)))]
          exact ⟨h2, rfl, ⟨rfl, rfl, rfl, rfl, rfl, rfl, rfl, fun _ _ => rfl, rfl, fun j hj => by omega, trivial⟩, _, rfl, loop38_45 h3 h4 m 0 (by omega)⟩
        · rename_i a b
          cases hP
          refine ⟨[.agg [.sl 2 n g, .sl 8 m (fnR (rwAt (α := Ev) h'))], (cl24 a b)], ⟨hv', hu, trivial⟩, L0, ?_⟩
          refine goesS_runTo (C5.ok _ _) (fok38 _) (hold := noHold) (m := 300) (n := 200) (ts := [⟨38, td10, LO38 n m g (rwAt h') (cl24 a b) (0 : Nat) 0 (fnR (nth ([] : List Ev))), []⟩]) ?_
          rw [a38_24 prim W5 n m g (rwAt h') a b (0 : Nat) 0 (fnR (nth ([] : List Ev)))]
          exact ⟨h2, rfl, ⟨rfl, rfl, rfl, rfl, rfl, rfl, rfl, fun _ _ => rfl, rfl, fun j hj => by omega, trivial⟩, _, rfl, loop38_24 h3 h4 m 0 (by omega)⟩
        · rename_i a
          cases hP
          refine ⟨[.agg [.sl 2 n g, .sl 8 m (fnR (rwAt (α := Ev) h'))], (cl25 a)], ⟨hv', hu, trivial⟩, L0, ?_⟩
          refine goesS_runTo (C5.ok _ _) (fok38 _) (hold := noHold) (m := 300) (n := 200) (ts := [⟨38, td10, LO38 n m g (rwAt h') (cl25 a) (0 : Nat) 0 (fnR (nth ([] : List Ev))), []⟩]) ?_
          rw [a38_25 prim W5 n m g (rwAt h') a (0 : Nat) 0 (fnR (nth ([] : List Ev)))]
          exact ⟨h2, rfl, ⟨rfl, rfl, rfl, rfl, rfl, rfl, rfl, fun _ _ => rfl, rfl, fun j hj => by omega, trivial⟩, _, rfl, loop38_25 h3 h4 m 0 (by omega)⟩
        · rename_i a
          cases hP
          refine ⟨[.agg [.sl 2 n g, .sl 8 m (fnR (rwAt (α := Ev) h'))], (cl26 a)], ⟨hv', hu, trivial⟩, L0, ?_⟩
          refine goesS_runTo (C5.ok _ _) (fok38 _) (hold := noHold) (m := 300) (n := 200) (ts := [⟨38, td10, LO38 n m g (rwAt h') (cl26 a) (0 : Nat) 0 (fnR (nth ([] : List Ev))), []⟩]) ?_
          rw [a38_26 prim W5 n m g (rwAt h') a (0 : Nat) 0 (fnR (nth ([] : List Ev)))]
          exact ⟨h2, rfl, ⟨rfl, rfl, rfl, rfl, rfl, rfl, rfl, fun _ _ => rfl, rfl, fun j hj => by omega, trivial⟩, _, rfl, loop38_26 h3 h4 m 0 (by omega)⟩
        · skip
          cases hP
          refine ⟨[.agg [.sl 2 n g, .sl 8 m (fnR (rwAt (α := Ev) h'))], cl28], ⟨hv', hu, trivial⟩, L0, ?_⟩
          refine goesS_runTo (C5.ok _ _) (fok38 _) (hold := noHold) (m := 300) (n := 200) (ts := [⟨38, td10, LO38 n m g (rwAt h') cl28 (0 : Nat) 0 (fnR (nth ([] : List Ev))), []⟩]) ?_
          rw [a38_28 prim W5 n m g (rwAt h')  (0 : Nat) 0 (fnR (nth ([] : List Ev)))]
          exact ⟨h2, rfl, ⟨rfl, rfl, rfl, rfl, rfl, rfl, rfl, fun _ _ => rfl, rfl, fun j hj => by omega, trivial⟩, _, rfl, loop38_28 h3 h4 m 0 (by omega)⟩
        · cases hP
    · exact h.elim
  · exact h.elim
end Go.Proofs
namespace Go.Proofs
open Go Go.Sx Go.Pl
def spec19 : Nat → Option (List Sh → Tree Sh)
  | 10 => some F10
  | 11 => some F11
  | 35 => some F35
  | 36 => some F36
  | 37 => some F37
  | 38 => some F38
  | 41 => some F41
  | 42 => some F42
  | _ => none
def LO19 (n m k : Nat) (o : Nat → Oj) (p : Nat → Ev) (q : Nat → Int) (b : Bool) (i : Int) (g : Nat → List Sh) (k' : Nat) (gg : Nat → List Sh) : Core :=
  { tm := [.any, .sh (.sl 1 k (fnR q)), .test b, .ptr 0 0, .any, .any, .ptr 1 0, .ptr 2 0, .sym .i64 i] ++ rep [.any] 32,
    hp := [(0, .box [.sh (.sl 2 n (fnR o)), .sh (.sl 8 m (fnR p))] 25), (1, .box [.nils, .nils] 25), (2, .box [.gs 3, .gs 4] 25), (3, .own 31 2 n g), (4, .own 34 8 k' gg)], nx := 5, lim := L0, tc := [] }

theorem a19 (A : Prim) (W : Wd) (n m k : Nat) (o : Nat → Oj) (p : Nat → Ev) (q : Nat → Int) (b : Bool) (i' : Int) (g' : Nat → List Sh) (k' : Nat) (gg' : Nat → List Sh) : runTo (C5 A W spec19 stopAll) noHold 300 200 19 [.code []] (start0 41 [.agg [.sl 2 n (fnR o), .sl 8 m (fnR p)], .sl 1 k (fnR q), .b b] L0) [] [⟨19, td10, LO19 n m k o p q b i' g' k' gg', []⟩] = Tree.need (okB Oj n (fnR o)) (Tree.need (roomB n 16) (Tree.leaf (Fe2.at_ 0 [Eqn.sh (Sh.sl 1 k (fnR q)) (Sh.sl 1 k (fnR q)), Eqn.bool b b, Eqn.int (Int.ofNat 0) i', Eqn.sh (Sh.sl 2 n (fnR o)) (Sh.sl 2 n (fnR o)), Eqn.sh (Sh.sl 8 m (fnR p)) (Sh.sl 8 m (fnR p)), Eqn.nat n n, Eqn.get n (fO (fnR o)) g', Eqn.nat k' 0]))) := by kernel_rfl
theorem b19 (A : Prim) (W : Wd) (n m k : Nat) (o : Nat → Oj) (p : Nat → Ev) (q : Nat → Int) (b : Bool) (i i' : Int) (g g' : Nat → List Sh) (c c' : Nat) (gg gg' : Nat → List Sh) : runTo (C5 A W spec19 stopAll) noHold 300 200 19 tb10 (LO19 n m k o p q b i g c gg) [] [⟨19, td10, LO19 n m k o p q b i' g' c' gg', []⟩] = Tree.node (A.lt i (A.ofN m)) (Tree.need (A.inB i m) (Tree.need (okB Int k (fnR q)) (Tree.node (A.beq (hasB (lst Int k (fnR q)) (p (A.toN i)).tx) b) (Tree.need (A.inB i m) (Tree.need (A.room (A.addN c 1) 64) (Tree.need (A.room (A.addN c 1) 64) (Tree.must [Eqn.sh (Sh.sl 1 k (fnR q)) (Sh.sl 1 k (fnR q)), Eqn.bool b b, Eqn.int i i, Eqn.sh (Sh.sl 2 n (fnR o)) (Sh.sl 2 n (fnR o)), Eqn.sh (Sh.sl 8 m (fnR p)) (Sh.sl 8 m (fnR p)), Eqn.nat n n, Eqn.fun_ g g, Eqn.int (p (A.toN i)).kind (p (A.toN i)).kind, Eqn.int (p (A.toN i)).tx (p (A.toN i)).tx, Eqn.int (p (A.toN i)).thread (p (A.toN i)).thread, Eqn.int (p (A.toN i)).obj (p (A.toN i)).obj, Eqn.int (p (A.toN i)).op (p (A.toN i)).op, Eqn.int (p (A.toN i)).key (p (A.toN i)).key, Eqn.int (p (A.toN i)).val (p (A.toN i)).val, Eqn.int (p (A.toN i)).ret (p (A.toN i)).ret, Eqn.nat (A.addN c 1) (A.addN c 1), Eqn.fun_ (A.snoc gg c (nthL [[Sh.i IntKind.i64 (p (A.toN i)).kind, Sh.i IntKind.i64 (p (A.toN i)).tx, Sh.i IntKind.i64 (p (A.toN i)).thread, Sh.i IntKind.i64 (p (A.toN i)).obj, Sh.i IntKind.i64 (p (A.toN i)).op, Sh.i IntKind.i64 (p (A.toN i)).key, Sh.i IntKind.i64 (p (A.toN i)).val, Sh.i IntKind.i64 (p (A.toN i)).ret]])) (A.snoc gg c (nthL [[Sh.i IntKind.i64 (p (A.toN i)).kind, Sh.i IntKind.i64 (p (A.toN i)).tx, Sh.i IntKind.i64 (p (A.toN i)).thread, Sh.i IntKind.i64 (p (A.toN i)).obj, Sh.i IntKind.i64 (p (A.toN i)).op, Sh.i IntKind.i64 (p (A.toN i)).key, Sh.i IntKind.i64 (p (A.toN i)).val, Sh.i IntKind.i64 (p (A.toN i)).ret]]))] (Tree.leaf (Fe2.at_ 0 [Eqn.sh (Sh.sl 1 k (fnR q)) (Sh.sl 1 k (fnR q)), Eqn.bool b b, Eqn.int (A.add IntKind.i64 i (Int.ofNat 1)) i', Eqn.sh (Sh.sl 2 n (fnR o)) (Sh.sl 2 n (fnR o)), Eqn.sh (Sh.sl 8 m (fnR p)) (Sh.sl 8 m (fnR p)), Eqn.nat n n, Eqn.get n g g', Eqn.nat (A.addN c 1) c', Eqn.get (A.addN c 1) (A.snoc gg c (nthL [[Sh.i IntKind.i64 (p (A.toN i)).kind, Sh.i IntKind.i64 (p (A.toN i)).tx, Sh.i IntKind.i64 (p (A.toN i)).thread, Sh.i IntKind.i64 (p (A.toN i)).obj, Sh.i IntKind.i64 (p (A.toN i)).op, Sh.i IntKind.i64 (p (A.toN i)).key, Sh.i IntKind.i64 (p (A.toN i)).val, Sh.i IntKind.i64 (p (A.toN i)).ret]])) gg'])))))) (Tree.leaf (Fe2.at_ 0 [Eqn.sh (Sh.sl 1 k (fnR q)) (Sh.sl 1 k (fnR q)), Eqn.bool b b, Eqn.int (A.add IntKind.i64 i (Int.ofNat 1)) i', Eqn.sh (Sh.sl 2 n (fnR o)) (Sh.sl 2 n (fnR o)), Eqn.sh (Sh.sl 8 m (fnR p)) (Sh.sl 8 m (fnR p)), Eqn.nat n n, Eqn.get n g g', Eqn.nat c c', Eqn.get c gg gg']))))) (Tree.leaf (Fe2.ret (Sh.agg [Sh.os 31 2 n g, Sh.os 34 8 c gg]))) := by kernel_rfl
theorem a13 (A : Prim) (W : Wd) (n m : Nat) (g h : Nat → List Sh) (x : Int) : runF (C5 A W spec19 stopAll) 300 13 [.code []] (start0 17 [.agg [.sl 2 n g, .sl 8 m h], .i .i64 x] L0) = Tree.need (A.upTo (A.max (Int.ofNat 0) (A.min x (A.ofN m))) m) (Tree.need (roomB n 16) (Tree.need (roomB (A.toN (A.max (Int.ofNat 0) (A.min x (A.ofN m)))) 64) (Tree.leaf (Fin.ret (Sh.agg [Sh.os 31 2 n g, Sh.os 34 8 (A.toN (A.max (Int.ofNat 0) (A.min x (A.ofN m)))) h]))))) := by kernel_rfl
theorem a14 (A : Prim) (W : Wd) (n m : Nat) (g h : Nat → List Sh) (x : Int) : runF (C5 A W spec19 stopAll) 300 14 [.code []] (start0 20 [.agg [.sl 2 n g, .sl 8 m h], .i .i64 x] L0) = Tree.need (okB Oj n g) (Tree.need (roomB n 16) (Tree.need (A.upTo (A.max (Int.ofNat 0) (A.min x (A.ofN m))) m) (Tree.need (okB Ev (A.toN (A.max (Int.ofNat 0) (A.min x (A.ofN m)))) h) (Tree.need (roomB (A.toN (A.max (Int.ofNat 0) (A.min x (A.ofN m)))) 64) (Tree.need (A.upTo (A.max (Int.ofNat 0) (A.min x (A.ofN m))) m) (Tree.need (okB Oj n g) (Tree.need (roomB n 16) (Tree.need (okB Ev (A.toN (A.max (Int.ofNat 0) (A.min x (A.ofN m)))) h) (Tree.need (roomB (A.toN (A.max (Int.ofNat 0) (A.min x (A.ofN m)))) 64) (Tree.must [Eqn.sh (Sh.sl 2 n g) (Sh.sl 2 n g), Eqn.sh (Sh.sl 8 m h) (Sh.sl 8 m h), Eqn.int (A.max (Int.ofNat 0) (A.min x (A.ofN m))) (A.max (Int.ofNat 0) (A.min x (A.ofN m))), Eqn.sh (Sh.sl 2 n g) (Sh.sl 2 n g), Eqn.sh (Sh.sl 8 m h) (Sh.sl 8 m h), Eqn.nat n n, Eqn.fun_ (fO g) (fO g), Eqn.nat (A.toN (A.max (Int.ofNat 0) (A.min x (A.ofN m)))) (A.toN (A.max (Int.ofNat 0) (A.min x (A.ofN m)))), Eqn.fun_ (fE h) (fE h)] (Tree.leaf (Fin.ret (Sh.agg [Sh.os 31 2 n (fO g), Sh.os 34 8 (A.toN (A.max (Int.ofNat 0) (A.min x (A.ofN m)))) (fE h)]))))))))))))) := by kernel_rfl
theorem a12 (A : Prim) (W : Wd) (n m n' m' : Nat) (g h g' h' : Nat → List Sh) : runF (C5 A W spec19 stopAll) 300 12 [.code []] (start0 21 [.agg [.sl 2 n g, .sl 8 m h], .agg [.sl 2 n' g', .sl 8 m' h']] L0) = Tree.need (okB Oj n g) (Tree.need (okB Oj n' g') (Tree.need (okB Ev m h) (Tree.need (okB Ev m' h') (Tree.node (sameL (lst Oj n g) (lst Oj n' g')) (Tree.leaf (Fin.ret (Sh.b (sameL (lst Ev m h) (lst Ev m' h'))))) (Tree.leaf (Fin.ret (Sh.b false))))))) := by kernel_rfl
theorem a15 (A : Prim) (W : Wd) (n m : Nat) (g h : Nat → List Sh) (x : Int) : runF (C5 A W spec19 stopAll) 300 15 [.code []] (start0 8 [.agg [.sl 2 n g, .sl 8 m h], .i .i64 x] L0) = Tree.need (okB Ev m h) (Tree.need (roomB n 16) (Tree.need (roomB m 64) (Tree.leaf (Fin.ret (Sh.agg [Sh.os 31 2 n g, Sh.os 34 8 (len (keptF (fun (_x_1 : Nat) (e : Ev) => !e.tx == x) (rwAt h) m)) (fnR (nth (keptF (fun (_x_1 : Nat) (e : Ev) => !e.tx == x) (rwAt h) m)))]))))) := by kernel_rfl
theorem x21 (A : Prim) (W : Wd) (n m n' m' : Nat) (g g' : Nat → List Sh) (p p' : Nat → Ev) : runS (C5 A W spec19 stopAll) noHold 300 200 21 [.code []] (start0 39 [.agg [.sl 2 n g, .sl 8 m (fnR p)], .agg [.sl 2 n' g', .sl 8 m' (fnR p')]] L0) [] = Tree.need (okB Oj n g) (Tree.need (okB Oj n' g') (Tree.node (A.nt (sameL (lst Oj n g) (lst Oj n' g'))) (Tree.leaf (OutS.fin (SV.bool false) { tm := [SV.agg [SV.sh (Sh.sl 2 n g), SV.sh (Sh.sl 8 m (fnR p))], SV.agg [SV.sh (Sh.sl 2 n' g'), SV.sh (Sh.sl 8 m' (fnR p'))], SV.ptr 0 0, SV.ptr 1 0, SV.bool false, SV.any, SV.any, SV.any, SV.any, SV.any, SV.any, SV.any, SV.any, SV.bool true, SV.any, SV.any, SV.any, SV.any, SV.any, SV.any, SV.any, SV.any, SV.any, SV.any, SV.any, SV.any, SV.any, SV.any, SV.any, SV.any, SV.any, SV.any, SV.any, SV.any, SV.any, SV.any, SV.any, SV.any, SV.any], hp := [(0, SB.box [SV.sh (Sh.sl 2 n g), SV.sh (Sh.sl 8 m (fnR p))] 25), (1, SB.box [SV.sh (Sh.sl 2 n' g'), SV.sh (Sh.sl 8 m' (fnR p'))] 25)], nx := 2, lim := 1000000000000000000000000000000, tc := [] })) (Tree.leaf (OutS.stop 21 [It.code [0, 1, 0, 1, 1, 1], It.inBlock 0, It.code [1, 1, 1, 1]] { tm := [SV.agg [SV.sh (Sh.sl 2 n g), SV.sh (Sh.sl 8 m (fnR p))], SV.agg [SV.sh (Sh.sl 2 n' g'), SV.sh (Sh.sl 8 m' (fnR p'))], SV.ptr 0 0, SV.ptr 1 0, SV.bool false, SV.sh (Sh.sl 8 m (fnR p)), SV.any, SV.any, SV.any, SV.any, SV.any, SV.any, SV.any, SV.bool false, SV.any, SV.any, SV.any, SV.sh (Sh.sl 8 m' (fnR p')), SV.sym IntKind.i64 (A.ofN m'), SV.int IntKind.i64 (Int.ofNat 0), SV.any, SV.any, SV.any, SV.any, SV.any, SV.any, SV.any, SV.any, SV.any, SV.any, SV.any, SV.any, SV.any, SV.any, SV.any, SV.any, SV.any, SV.any, SV.any], hp := [(0, SB.box [SV.sh (Sh.sl 2 n g), SV.sh (Sh.sl 8 m (fnR p))] 25), (1, SB.box [SV.sh (Sh.sl 2 n' g'), SV.sh (Sh.sl 8 m' (fnR p'))] 25)], nx := 2, lim := 1000000000000000000000000000000, tc := [] } [])))) := by kernel_rfl
theorem x22 (A : Prim) (W : Wd) (n m n' m' : Nat) (g g' : Nat → List Sh) (p p' : Nat → Ev) : runS (C5 A W spec19 stopAll) noHold 300 200 22 [.code []] (start0 45 [.agg [.sl 2 n g, .sl 8 m (fnR p)], .agg [.sl 2 n' g', .sl 8 m' (fnR p')]] L0) [] = Tree.need (okB Oj n g) (Tree.need (okB Oj n' g') (Tree.node (A.nt (sameL (lst Oj n g) (lst Oj n' g'))) (Tree.leaf (OutS.fin (SV.bool false) { tm := [SV.agg [SV.sh (Sh.sl 2 n g), SV.sh (Sh.sl 8 m (fnR p))], SV.agg [SV.sh (Sh.sl 2 n' g'), SV.sh (Sh.sl 8 m' (fnR p'))], SV.ptr 0 0, SV.ptr 1 0, SV.bool false, SV.any, SV.any, SV.any, SV.any, SV.any, SV.any, SV.any, SV.bool true, SV.any, SV.any, SV.any, SV.any, SV.any, SV.any, SV.any, SV.any, SV.any, SV.any, SV.any, SV.any, SV.any, SV.any, SV.any, SV.any, SV.any, SV.any, SV.any, SV.any, SV.any, SV.any, SV.any, SV.any, SV.any, SV.any, SV.any, SV.any, SV.any, SV.any, SV.any, SV.any], hp := [(0, SB.box [SV.sh (Sh.sl 2 n g), SV.sh (Sh.sl 8 m (fnR p))] 25), (1, SB.box [SV.sh (Sh.sl 2 n' g'), SV.sh (Sh.sl 8 m' (fnR p'))] 25)], nx := 2, lim := 1000000000000000000000000000000, tc := [] })) (Tree.leaf (OutS.stop 22 [It.code [0, 1, 0, 1, 1, 1], It.inBlock 0, It.code [1, 1, 1, 1]] { tm := [SV.agg [SV.sh (Sh.sl 2 n g), SV.sh (Sh.sl 8 m (fnR p))], SV.agg [SV.sh (Sh.sl 2 n' g'), SV.sh (Sh.sl 8 m' (fnR p'))], SV.ptr 0 0, SV.ptr 1 0, SV.bool false, SV.int IntKind.i64 (Int.ofNat 0), SV.int IntKind.i64 (Int.ofNat 0), SV.any, SV.any, SV.any, SV.any, SV.any, SV.bool false, SV.any, SV.any, SV.any, SV.any, SV.any, SV.any, SV.any, SV.any, SV.any, SV.any, SV.any, SV.any, SV.any, SV.any, SV.any, SV.any, SV.any, SV.any, SV.any, SV.any, SV.any, SV.any, SV.any, SV.any, SV.any, SV.any, SV.any, SV.any, SV.any, SV.any, SV.any, SV.any], hp := [(0, SB.box [SV.sh (Sh.sl 2 n g), SV.sh (Sh.sl 8 m (fnR p))] 25), (1, SB.box [SV.sh (Sh.sl 2 n' g'), SV.sh (Sh.sl 8 m' (fnR p'))] 25)], nx := 2, lim := 1000000000000000000000000000000, tc := [] } [])))) := by kernel_rfl
end Go.Proofs
namespace Go.Pl
open Go Go.Sx
theorem fO_fnR (o : Nat → Oj) : fO (fnR o) = fnR o := by
  funext j; simp [fO, fnR, Row.get_put, rwAt]
theorem fE_fnR (o : Nat → Ev) : fE (fnR o) = fnR o := by
  funext j; simp [fE, fnR, Row.get_put, rwAt]
theorem lst_fnR {α : Type} [Row α] (n : Nat) (g : Nat → List Sh) : lst α n (fnR (rwAt (α := α) g)) = lst α n g := lst_put _ _
theorem len_eq {α : Type} (l : List α) : len l = l.length := rfl
end Go.Pl
namespace Go.Proofs
open Go Go.Sx Go.Pl
theorem O19s : ∀ g F, spec19 g = some F → FnOK Tryd.prog (gls5 W5) g F := fun g F h => by
  unfold spec19 at h
  split at h
  · cases h; exact O10
  · cases h; exact O11
  · cases h; exact O35
  · cases h; exact O36
  · cases h; exact O37
  · cases h; exact O38
  · cases h; exact O41
  · cases h; exact O42
  · cases h
theorem fok19 (stop : Nat → List Nat → Bool) : FnsOK Tryd.prog (C5 prim W5 spec19 stop) := C5.fok O19s fun g h => by
  unfold spec19 at h
  split at h
  all_goals first | (cases h; done) | kernel_rfl
/-- Which events the reference's Keep keeps. -/
def kp19 (l : List Int) (b : Bool) : Nat → Ev → Bool := fun _ e => hasB l e.tx == b
def F19 : List Sh → Tree Sh
  | [.agg [.sl 2 n g, .sl 8 m h], .sl 1 k q, .b b] => .need (okB Oj n g) (.need (okB Ev m h) (.need (okB Int k q) (.need (roomB n 16) (.need (roomB m 64) (.leaf (.agg [.os 31 2 n (fO g), osR 34 8 (keptF (kp19 (lst Int k q) b) (rwAt h) m)]))))))
  | _ => .fail
theorem loop19 {H0 : Mem} {w0 : World} {n m k0 : Nat} {o : Nat → Oj} {p : Nat → Ev} {q : Nat → Int} {b : Bool} {φ : Sh → Prop} (hr : prim.room m 64 = true) (hφ : φ (.agg [.os 31 2 n (fnR o), osR 34 8 (keptF (kp19 (lst Int k0 (fnR q)) b) p m)])) :
    ∀ rm k, k + rm = m → GoesS Tryd.prog (C5 prim W5 spec19 stopAll) (K0 H0 w0) 19 td10 (LO19 n m k0 o p q b k (fnR o) (keptF (kp19 (lst Int k0 (fnR q)) b) p k).length (fnR (nth (keptF (kp19 (lst Int k0 (fnR q)) b) p k)))) [] emp φ
  | rm, k, hk => by
    obtain ⟨hr1, hr2⟩ := room_spec hr
    rw [maxLen_eq] at hr2
    have next : ∀ rm', rm = rm' + 1 → GoesS Tryd.prog (C5 prim W5 spec19 stopAll) (K0 H0 w0) 19 td10 (LO19 n m k0 o p q b (k + 1 : Nat) (fnR o) (keptF (kp19 (lst Int k0 (fnR q)) b) p (k + 1)).length (fnR (nth (keptF (kp19 (lst Int k0 (fnR q)) b) p (k + 1))))) [] emp φ := fun rm' e => loop19 hr hφ rm' (k + 1) (by omega)
    revert next hφ
    generalize hKP : kp19 (lst Int k0 (fnR q)) b = P
    intro hφ next
    have hle := keptF_le P p k
    refine goesS_into (fn := Tryd.f19) (tb := tb10) (by kernel_rfl) (by kernel_rfl) ?_
    refine goesS_runTo (C5.ok _ _) (fok19 _) (hold := noHold) (m := 300) (n := 200) (ts := [⟨19, td10, LO19 n m k0 o p q b (k + 1 : Nat) (fnR o) (keptF P p (k + 1)).length (fnR (nth (keptF P p (k + 1)))), []⟩]) ?_
    rw [b19 prim W5 n m k0 o p q b k (k + 1 : Nat) (fnR o) (fnR o) (keptF P p k).length (keptF P p (k + 1)).length (fnR (nth (keptF P p k))) (fnR (nth (keptF P p (k + 1))))]
    simp only [prim_lt, prim_ofN, prim_inB, prim_toN, prim_beq, prim_add, prim_addN, prim_room, one_eq, Tree.All, Fe2OK, Int.toNat_natCast]
    refine ⟨fun h => ?_, fun h => ?_⟩
    · have hlt : k < m := by simp at h; omega
      refine ⟨by simp; omega, okB_put q k0, ?_⟩
      have next := next (rm - 1) (by omega)
      have hi : IntKind.i64.wrap ((k : Int) + 1) = ((k + 1 : Nat) : Int) := by rw [wrap_id (by omega) (by omega)]; rfl
      have hroom : decide (((keptF P p k).length + 1) * 64 ≤ 140737488355328 ∧ (keptF P p k).length + 1 ≤ maxLen) = true := by rw [maxLen_eq]; simp; omega
      have hPk : (hasB (lst Int k0 (fnR q)) (p k).tx == b) = P k (p k) := by rw [← hKP]; rfl
      rw [hPk]
      cases hP : P k (p k) with
      | true =>
        have e1 : keptF P p (k + 1) = keptF P p k ++ [p k] := by simp only [keptF, hP, cond_true]
        have e2 : (keptF P p k).length + 1 = (keptF P p (k + 1)).length := by rw [e1]; simp
        have e3 : ∀ (r : List (List Sh)), nthL r 0 = Row.put (p k) → ∀ i, i < (keptF P p k).length + 1 → prim.snoc (fnR (nth (keptF P p k))) (keptF P p k).length (nthL r) i = fnR (nth (keptF P p (k + 1))) i := fun r hr => by rw [e1]; exact snoc_nth _ _ hr
        refine ⟨fun _ => ?_, fun q => ?_⟩
        · exact ⟨by simp; omega, hroom, hroom, ⟨rfl, rfl, rfl, rfl, rfl, rfl, rfl, rfl, rfl, rfl, rfl, rfl, rfl, rfl, rfl, rfl, rfl, trivial⟩, ⟨rfl, rfl, hi, rfl, rfl, rfl, fun _ _ => rfl, e2, e3 _ rfl, trivial⟩, _, rfl, next⟩
        · cases q
      | false =>
        have e1 : keptF P p (k + 1) = keptF P p k := by simp only [keptF, hP, cond_false]
        refine ⟨fun q => ?_, fun _ => ?_⟩
        · cases q
        · exact ⟨⟨rfl, rfl, hi, rfl, rfl, rfl, fun _ _ => rfl, by simp only [Eqn.ok]; rw [e1], fun i _ => by rw [e1], trivial⟩, _, rfl, next⟩
    · have : k = m := by simp at h; omega
      subst this
      exact hφ
theorem rep_agg_rows2 {H : Mem} {n m : Nat} {g h : Nat → List Sh} {v : Value} (hv : Rep H (.agg [.sl 2 n g, .sl 8 m h]) v) (hg : okB Oj n g = true) (hk : okB Ev m h = true) : Rep H (.agg [.sl 2 n (fnR (rwAt (α := Oj) g)), .sl 8 m (fnR (rwAt (α := Ev) h))]) v := by
  cases hv with
  | agg _ vs h1 h2 =>
    refine .agg _ vs h1 fun j s v' e1 e2 => ?_
    match j, e1 with
    | 0, e1 => simp at e1; subst e1; exact rep_rows (h2 0 _ v' rfl e2) hg
    | 1, e1 => simp at e1; subst e1; exact rep_rows (h2 1 _ v' rfl e2) hk
    | j + 2, e1 => simp at e1
theorem O19 : FnOK Tryd.prog (gls5 W5) 19 F19 := by
  refine fnOK_S (C := C5 prim W5 spec19 stopAll) (C5.ok _ _) (fn := Tryd.f19) (by kernel_rfl) (by kernel_rfl) fun H w shs args φ hrep h => ?_
  have hn : Tryd.f19.ntmps = 41 := by kernel_rfl
  unfold F19 at h
  split at h
  · rename_i n g m h' k q b
    obtain ⟨h0, h1, h2, h3, h4, h5⟩ := h
    have h4 : prim.room m 64 = true := h4
    match args, hrep with
    | [v, u, c], ⟨hv, hu, hc, _⟩ =>
      have hv' := rep_agg_rows2 hv h0 h1
      rw [hn]
      refine ⟨[.agg [.sl 2 n (fnR (rwAt (α := Oj) g)), .sl 8 m (fnR (rwAt (α := Ev) h'))], .sl 1 k (fnR (rwAt (α := Int) q)), .b b], ⟨hv', rep_rows hu h2, hc, trivial⟩, L0, ?_⟩
      refine goesS_runTo (C5.ok _ _) (fok19 _) (hold := noHold) (m := 300) (n := 200) (ts := [⟨19, td10, LO19 n m k (rwAt g) (rwAt h') (rwAt q) b (0 : Nat) (fnR (rwAt (α := Oj) g)) 0 (fnR (nth ([] : List Ev))), []⟩]) ?_
      rw [a19 prim W5 n m k (rwAt g) (rwAt h') (rwAt q) b (0 : Nat) (fnR (rwAt (α := Oj) g)) 0 (fnR (nth ([] : List Ev)))]
      refine ⟨okB_put _ _, h3, ⟨rfl, rfl, rfl, rfl, rfl, rfl, fun _ _ => by rw [fO_fnR], rfl, trivial⟩, _, rfl, loop19 h4 ?_ m 0 (by omega)⟩
      rw [lst_fnR]; exact h5
  · exact h.elim
end Go.Proofs
namespace Go.Pl
open Go Go.Sx
/-- How many a first part holds. -/
def upN (x : Int) (m : Nat) : Nat := (max 0 (min x (m : Int))).toNat
theorem prim_up (x : Int) (m : Nat) : prim.toN (prim.max (Int.ofNat 0) (prim.min x (prim.ofN m))) = upN x m := by
  unfold upN
  rw [prim_max, prim_min, prim_toN, prim_ofN]
  congr 1
  simp only [Int.ofNat_eq_natCast]
  split <;> split <;> omega
theorem upTo_up (x : Int) (m : Nat) : prim.upTo (prim.max (Int.ofNat 0) (prim.min x (prim.ofN m))) m = true := by
  rw [prim_max, prim_min, prim_upTo, prim_ofN]
  simp only [Int.ofNat_eq_natCast]
  split <;> split <;> simp <;> omega
end Go.Pl
namespace Go.Proofs
open Go Go.Sx Go.Pl
def F12 : List Sh → Tree Sh
  | [.agg [.sl 2 n g, .sl 8 m h], .agg [.sl 2 n' g', .sl 8 m' h']] => .need (okB Oj n g) (.need (okB Oj n' g') (.need (okB Ev m h) (.need (okB Ev m' h') (.leaf (.b (sameL (lst Oj n g) (lst Oj n' g') && sameL (lst Ev m h) (lst Ev m' h')))))))
  | _ => .fail
theorem O12 : FnOK Tryd.prog (gls5 W5) 12 F12 := by
  refine fnOK_run (C := C5 prim W5 spec19 stopAll) (C5.ok _ _) (fok19 _) (n := 300) (L := L0) (fn := Tryd.f12) (by kernel_rfl) (by kernel_rfl) fun H w shs args φ hrep h => ?_
  have hn : Tryd.f12.ntmps = 21 := by kernel_rfl
  unfold F12 at h
  split at h
  · rename_i n g m h' n' g' m' h''
    obtain ⟨h1, h2, h3, h4, h5⟩ := h
    refine ⟨_, hrep, ?_⟩
    rw [hn, a12 prim W5 n m n' m' g h' g' h'']
    refine ⟨h1, h2, h3, h4, ?_⟩
    have h5 : φ (.b (sameL (lst Oj n g) (lst Oj n' g') && sameL (lst Ev m h') (lst Ev m' h''))) := h5
    cases e : sameL (lst Oj n g) (lst Oj n' g') with
    | true => rw [e] at h5; exact ⟨fun _ => h5, fun q => by cases q⟩
    | false => rw [e] at h5; exact ⟨fun q => (by cases q), fun _ => h5⟩
  · exact h.elim
def F13 : List Sh → Tree Sh
  | [.agg [.sl 2 n g, .sl 8 m h], .i .i64 x] => .need (roomB n 16) (.need (roomB (upN x m) 64) (.leaf (.agg [.os 31 2 n g, .os 34 8 (upN x m) h])))
  | _ => .fail
theorem O13 : FnOK Tryd.prog (gls5 W5) 13 F13 := by
  refine fnOK_run (C := C5 prim W5 spec19 stopAll) (C5.ok _ _) (fok19 _) (n := 300) (L := L0) (fn := Tryd.f13) (by kernel_rfl) (by kernel_rfl) fun H w shs args φ hrep h => ?_
  have hn : Tryd.f13.ntmps = 17 := by kernel_rfl
  unfold F13 at h
  split at h
  · rename_i n g m h' x
    obtain ⟨h1, h2, h3⟩ := h
    refine ⟨_, hrep, ?_⟩
    rw [hn, a13 prim W5 n m g h' x]
    rw [← prim_up] at h2 h3
    exact ⟨upTo_up x m, h1, h2, h3⟩
  · exact h.elim
def F14 : List Sh → Tree Sh
  | [.agg [.sl 2 n g, .sl 8 m h], .i .i64 x] => .need (okB Oj n g) (.need (okB Ev (upN x m) h) (.need (roomB n 16) (.need (roomB (upN x m) 64) (.leaf (.agg [.os 31 2 n (fO g), .os 34 8 (upN x m) (fE h)])))))
  | _ => .fail
theorem O14 : FnOK Tryd.prog (gls5 W5) 14 F14 := by
  refine fnOK_run (C := C5 prim W5 spec19 stopAll) (C5.ok _ _) (fok19 _) (n := 300) (L := L0) (fn := Tryd.f14) (by kernel_rfl) (by kernel_rfl) fun H w shs args φ hrep h => ?_
  have hn : Tryd.f14.ntmps = 20 := by kernel_rfl
  unfold F14 at h
  split at h
  · rename_i n g m h' x
    obtain ⟨h1, h2, h3, h4, h5⟩ := h
    refine ⟨_, hrep, ?_⟩
    rw [hn, a14 prim W5 n m g h' x]
    rw [← prim_up] at h2 h4 h5
    exact ⟨h1, h3, upTo_up x m, h2, h4, upTo_up x m, h1, h3, h2, h4, ⟨rfl, rfl, rfl, rfl, rfl, rfl, rfl, rfl, rfl, trivial⟩, h5⟩
  · exact h.elim
def F15 : List Sh → Tree Sh
  | [.agg [.sl 2 n g, .sl 8 m h], .i .i64 x] => .need (okB Ev m h) (.need (roomB n 16) (.need (roomB m 64) (.leaf (.agg [.os 31 2 n g, osR 34 8 (keptF (fun _ e => !(e.tx == x)) (rwAt h) m)]))))
  | _ => .fail
theorem O15 : FnOK Tryd.prog (gls5 W5) 15 F15 := by
  refine fnOK_run (C := C5 prim W5 spec19 stopAll) (C5.ok _ _) (fok19 _) (n := 300) (L := L0) (fn := Tryd.f15) (by kernel_rfl) (by kernel_rfl) fun H w shs args φ hrep h => ?_
  have hn : Tryd.f15.ntmps = 8 := by kernel_rfl
  unfold F15 at h
  split at h
  · rename_i n g m h' x
    obtain ⟨h1, h2, h3, h4⟩ := h
    refine ⟨_, hrep, ?_⟩
    rw [hn, a15 prim W5 n m g h' x]
    exact ⟨h1, h2, h3, h4⟩
  · exact h.elim
end Go.Proofs
namespace Go.Proofs
open Go Go.Sx Go.Pl
def spec16 : Nat → Option (List Sh → Tree Sh)
  | 10 => some F10
  | 11 => some F11
  | 12 => some F12
  | 13 => some F13
  | 14 => some F14
  | 15 => some F15
  | 19 => some F19
  | 35 => some F35
  | 36 => some F36
  | 37 => some F37
  | 38 => some F38
  | 41 => some F41
  | 42 => some F42
  | _ => none

theorem a16 (A : Prim) (W : Wd) (n m : Nat) (g h : Nat → List Sh) (x : Int) : runF (C5 A W spec16 stopAll) 300 16 [.code []] (start0 9 [.agg [.sl 2 n g, .sl 8 m h], .i .i64 x] L0) = Tree.need (okB Oj n g) (Tree.need (okB Ev m h) (Tree.need (okB Int 1 (nthL (chunks 1 1 [Sh.i IntKind.i64 x]))) (Tree.need (roomB n 16) (Tree.need (roomB m 64) (Tree.leaf (Fin.ret (Sh.agg [Sh.os 31 2 n (fO g), Sh.os 34 8 (len (keptF (kp19 (lst Int 1 (nthL (chunks 1 1 [Sh.i IntKind.i64 x]))) false) (rwAt h) m)) (fnR (nth (keptF (kp19 (lst Int 1 (nthL (chunks 1 1 [Sh.i IntKind.i64 x]))) false) (rwAt h) m)))]))))))) := by kernel_rfl
theorem a27 (A : Prim) (W : Wd) (n m : Nat) (g h : Nat → List Sh) : runF (C5 A W spec16 stopAll) 300 27 [.code []] (start0 10 [.agg [.sl 2 n g, .sl 8 m h]] L0) = Tree.need (okB Oj n g) (Tree.need (roomB n 16) (Tree.need (okB Ev m h) (Tree.need (roomB m 64) (Tree.leaf (Fin.ret (Sh.agg [Sh.os 31 2 n (fO g), Sh.os 34 8 m (fE h)])))))) := by kernel_rfl
theorem a57 (A : Prim) (W : Wd) (c : Int) : runF (C5 A W spec16 stopAll) 300 57 [.code []] (start0 17 [.i .i64 c] L0) = Tree.node (A.eq c (Int.ofNat 1)) (Tree.leaf (Fin.ret (Sh.i IntKind.i64 (Int.ofNat 1)))) (Tree.node (A.eq c (Int.ofNat 2)) (Tree.leaf (Fin.ret (Sh.i IntKind.i64 (Int.ofNat 1)))) (Tree.node (A.eq c (Int.ofNat 3)) (Tree.leaf (Fin.ret (Sh.i IntKind.i64 (Int.ofNat 2)))) (Tree.node (A.eq c (Int.ofNat 4)) (Tree.leaf (Fin.ret (Sh.i IntKind.i64 (Int.ofNat 2)))) (Tree.node (A.eq c (Int.ofNat 5)) (Tree.leaf (Fin.ret (Sh.i IntKind.i64 (Int.ofNat 3)))) (Tree.node (A.eq c (Int.ofNat 6)) (Tree.leaf (Fin.ret (Sh.i IntKind.i64 (Int.ofNat 3)))) (Tree.node (A.eq c (Int.ofNat 7)) (Tree.leaf (Fin.ret (Sh.i IntKind.i64 (Int.ofNat 4)))) (Tree.node (A.eq c (Int.ofNat 8)) (Tree.leaf (Fin.ret (Sh.i IntKind.i64 (Int.ofNat 4)))) (Tree.node (A.eq c (Int.ofNat 9)) (Tree.leaf (Fin.ret (Sh.i IntKind.i64 (Int.ofNat 4)))) (Tree.leaf (Fin.ret (Sh.i IntKind.i64 (Int.ofNat 0)))))))))))) := by kernel_rfl
theorem a61_1 (A : Prim) (W : Wd) (c : Int) : runF (C5 A W spec16 stopAll) 300 61 [.code []] (start0 16 [.v (.int .i64 1), .i .i64 c] L0) = Tree.node (A.lt (A.sub IntKind.i64 (A.max c (Int.ofNat 0)) (Int.ofNat 1)) (Int.ofNat 0)) (Tree.leaf (Fin.ret (Sh.str []))) (Tree.node (A.le (Int.ofNat 4) (A.sub IntKind.i64 (A.max c (Int.ofNat 0)) (Int.ofNat 1))) (Tree.leaf (Fin.ret (Sh.str []))) (Tree.need (A.inB (A.sub IntKind.i64 (A.max c (Int.ofNat 0)) (Int.ofNat 1)) 4) (Tree.node (A.eq (A.sub IntKind.i64 (A.max c (Int.ofNat 0)) (Int.ofNat 1)) (Int.ofNat 0)) (Tree.leaf (Fin.ret (Sh.str (W 11 0)))) (Tree.node (A.eq (A.sub IntKind.i64 (A.max c (Int.ofNat 0)) (Int.ofNat 1)) (Int.ofNat 1)) (Tree.leaf (Fin.ret (Sh.str (W 11 1)))) (Tree.node (A.eq (A.sub IntKind.i64 (A.max c (Int.ofNat 0)) (Int.ofNat 1)) (Int.ofNat 2)) (Tree.leaf (Fin.ret (Sh.str (W 11 2)))) (Tree.node (A.eq (A.sub IntKind.i64 (A.max c (Int.ofNat 0)) (Int.ofNat 1)) (Int.ofNat 3)) (Tree.leaf (Fin.ret (Sh.str (W 11 3)))) Tree.fail)))))) := by kernel_rfl
theorem a61_2 (A : Prim) (W : Wd) (c : Int) : runF (C5 A W spec16 stopAll) 300 61 [.code []] (start0 16 [.v (.int .i64 2), .i .i64 c] L0) = Tree.node (A.lt (A.sub IntKind.i64 (A.max c (Int.ofNat 0)) (Int.ofNat 1)) (Int.ofNat 0)) (Tree.leaf (Fin.ret (Sh.str []))) (Tree.node (A.le (Int.ofNat 7) (A.sub IntKind.i64 (A.max c (Int.ofNat 0)) (Int.ofNat 1))) (Tree.leaf (Fin.ret (Sh.str []))) (Tree.need (A.inB (A.sub IntKind.i64 (A.max c (Int.ofNat 0)) (Int.ofNat 1)) 7) (Tree.node (A.eq (A.sub IntKind.i64 (A.max c (Int.ofNat 0)) (Int.ofNat 1)) (Int.ofNat 0)) (Tree.leaf (Fin.ret (Sh.str (W 12 0)))) (Tree.node (A.eq (A.sub IntKind.i64 (A.max c (Int.ofNat 0)) (Int.ofNat 1)) (Int.ofNat 1)) (Tree.leaf (Fin.ret (Sh.str (W 12 1)))) (Tree.node (A.eq (A.sub IntKind.i64 (A.max c (Int.ofNat 0)) (Int.ofNat 1)) (Int.ofNat 2)) (Tree.leaf (Fin.ret (Sh.str (W 12 2)))) (Tree.node (A.eq (A.sub IntKind.i64 (A.max c (Int.ofNat 0)) (Int.ofNat 1)) (Int.ofNat 3)) (Tree.leaf (Fin.ret (Sh.str (W 12 3)))) (Tree.node (A.eq (A.sub IntKind.i64 (A.max c (Int.ofNat 0)) (Int.ofNat 1)) (Int.ofNat 4)) (Tree.leaf (Fin.ret (Sh.str (W 12 4)))) (Tree.node (A.eq (A.sub IntKind.i64 (A.max c (Int.ofNat 0)) (Int.ofNat 1)) (Int.ofNat 5)) (Tree.leaf (Fin.ret (Sh.str (W 12 5)))) (Tree.node (A.eq (A.sub IntKind.i64 (A.max c (Int.ofNat 0)) (Int.ofNat 1)) (Int.ofNat 6)) (Tree.leaf (Fin.ret (Sh.str (W 12 6)))) Tree.fail))))))))) := by kernel_rfl
theorem a61_3 (A : Prim) (W : Wd) (c : Int) : runF (C5 A W spec16 stopAll) 300 61 [.code []] (start0 16 [.v (.int .i64 3), .i .i64 c] L0) = Tree.node (A.lt (A.sub IntKind.i64 (A.max c (Int.ofNat 0)) (Int.ofNat 1)) (Int.ofNat 0)) (Tree.leaf (Fin.ret (Sh.str []))) (Tree.node (A.le (Int.ofNat 9) (A.sub IntKind.i64 (A.max c (Int.ofNat 0)) (Int.ofNat 1))) (Tree.leaf (Fin.ret (Sh.str []))) (Tree.need (A.inB (A.sub IntKind.i64 (A.max c (Int.ofNat 0)) (Int.ofNat 1)) 9) (Tree.node (A.eq (A.sub IntKind.i64 (A.max c (Int.ofNat 0)) (Int.ofNat 1)) (Int.ofNat 0)) (Tree.leaf (Fin.ret (Sh.str (W 13 0)))) (Tree.node (A.eq (A.sub IntKind.i64 (A.max c (Int.ofNat 0)) (Int.ofNat 1)) (Int.ofNat 1)) (Tree.leaf (Fin.ret (Sh.str (W 13 1)))) (Tree.node (A.eq (A.sub IntKind.i64 (A.max c (Int.ofNat 0)) (Int.ofNat 1)) (Int.ofNat 2)) (Tree.leaf (Fin.ret (Sh.str (W 13 2)))) (Tree.node (A.eq (A.sub IntKind.i64 (A.max c (Int.ofNat 0)) (Int.ofNat 1)) (Int.ofNat 3)) (Tree.leaf (Fin.ret (Sh.str (W 13 3)))) (Tree.node (A.eq (A.sub IntKind.i64 (A.max c (Int.ofNat 0)) (Int.ofNat 1)) (Int.ofNat 4)) (Tree.leaf (Fin.ret (Sh.str (W 13 4)))) (Tree.node (A.eq (A.sub IntKind.i64 (A.max c (Int.ofNat 0)) (Int.ofNat 1)) (Int.ofNat 5)) (Tree.leaf (Fin.ret (Sh.str (W 13 5)))) (Tree.node (A.eq (A.sub IntKind.i64 (A.max c (Int.ofNat 0)) (Int.ofNat 1)) (Int.ofNat 6)) (Tree.leaf (Fin.ret (Sh.str (W 13 6)))) (Tree.node (A.eq (A.sub IntKind.i64 (A.max c (Int.ofNat 0)) (Int.ofNat 1)) (Int.ofNat 7)) (Tree.leaf (Fin.ret (Sh.str (W 13 7)))) (Tree.node (A.eq (A.sub IntKind.i64 (A.max c (Int.ofNat 0)) (Int.ofNat 1)) (Int.ofNat 8)) (Tree.leaf (Fin.ret (Sh.str (W 13 8)))) Tree.fail))))))))))) := by kernel_rfl
theorem a61_4 (A : Prim) (W : Wd) (c : Int) : runF (C5 A W spec16 stopAll) 300 61 [.code []] (start0 16 [.v (.int .i64 4), .i .i64 c] L0) = Tree.node (A.lt (A.sub IntKind.i64 (A.max c (Int.ofNat 0)) (Int.ofNat 1)) (Int.ofNat 0)) (Tree.leaf (Fin.ret (Sh.str []))) (Tree.node (A.le (Int.ofNat 3) (A.sub IntKind.i64 (A.max c (Int.ofNat 0)) (Int.ofNat 1))) (Tree.leaf (Fin.ret (Sh.str []))) (Tree.need (A.inB (A.sub IntKind.i64 (A.max c (Int.ofNat 0)) (Int.ofNat 1)) 3) (Tree.node (A.eq (A.sub IntKind.i64 (A.max c (Int.ofNat 0)) (Int.ofNat 1)) (Int.ofNat 0)) (Tree.leaf (Fin.ret (Sh.str (W 14 0)))) (Tree.node (A.eq (A.sub IntKind.i64 (A.max c (Int.ofNat 0)) (Int.ofNat 1)) (Int.ofNat 1)) (Tree.leaf (Fin.ret (Sh.str (W 14 1)))) (Tree.node (A.eq (A.sub IntKind.i64 (A.max c (Int.ofNat 0)) (Int.ofNat 1)) (Int.ofNat 2)) (Tree.leaf (Fin.ret (Sh.str (W 14 2)))) Tree.fail))))) := by kernel_rfl
theorem a61_5 (A : Prim) (W : Wd) (c : Int) : runF (C5 A W spec16 stopAll) 300 61 [.code []] (start0 16 [.v (.int .i64 5), .i .i64 c] L0) = Tree.node (A.lt (A.sub IntKind.i64 (A.max c (Int.ofNat 0)) (Int.ofNat 1)) (Int.ofNat 0)) (Tree.leaf (Fin.ret (Sh.str []))) (Tree.node (A.le (Int.ofNat 4) (A.sub IntKind.i64 (A.max c (Int.ofNat 0)) (Int.ofNat 1))) (Tree.leaf (Fin.ret (Sh.str []))) (Tree.need (A.inB (A.sub IntKind.i64 (A.max c (Int.ofNat 0)) (Int.ofNat 1)) 4) (Tree.node (A.eq (A.sub IntKind.i64 (A.max c (Int.ofNat 0)) (Int.ofNat 1)) (Int.ofNat 0)) (Tree.leaf (Fin.ret (Sh.str (W 15 0)))) (Tree.node (A.eq (A.sub IntKind.i64 (A.max c (Int.ofNat 0)) (Int.ofNat 1)) (Int.ofNat 1)) (Tree.leaf (Fin.ret (Sh.str (W 15 1)))) (Tree.node (A.eq (A.sub IntKind.i64 (A.max c (Int.ofNat 0)) (Int.ofNat 1)) (Int.ofNat 2)) (Tree.leaf (Fin.ret (Sh.str (W 15 2)))) (Tree.node (A.eq (A.sub IntKind.i64 (A.max c (Int.ofNat 0)) (Int.ofNat 1)) (Int.ofNat 3)) (Tree.leaf (Fin.ret (Sh.str (W 15 3)))) Tree.fail)))))) := by kernel_rfl
theorem a61_6 (A : Prim) (W : Wd) (c : Int) : runF (C5 A W spec16 stopAll) 300 61 [.code []] (start0 16 [.v (.int .i64 6), .i .i64 c] L0) = Tree.node (A.lt (A.sub IntKind.i64 (A.max c (Int.ofNat 0)) (Int.ofNat 1)) (Int.ofNat 0)) (Tree.leaf (Fin.ret (Sh.str []))) (Tree.node (A.le (Int.ofNat 4) (A.sub IntKind.i64 (A.max c (Int.ofNat 0)) (Int.ofNat 1))) (Tree.leaf (Fin.ret (Sh.str []))) (Tree.need (A.inB (A.sub IntKind.i64 (A.max c (Int.ofNat 0)) (Int.ofNat 1)) 4) (Tree.node (A.eq (A.sub IntKind.i64 (A.max c (Int.ofNat 0)) (Int.ofNat 1)) (Int.ofNat 0)) (Tree.leaf (Fin.ret (Sh.str (W 16 0)))) (Tree.node (A.eq (A.sub IntKind.i64 (A.max c (Int.ofNat 0)) (Int.ofNat 1)) (Int.ofNat 1)) (Tree.leaf (Fin.ret (Sh.str (W 16 1)))) (Tree.node (A.eq (A.sub IntKind.i64 (A.max c (Int.ofNat 0)) (Int.ofNat 1)) (Int.ofNat 2)) (Tree.leaf (Fin.ret (Sh.str (W 16 2)))) (Tree.node (A.eq (A.sub IntKind.i64 (A.max c (Int.ofNat 0)) (Int.ofNat 1)) (Int.ofNat 3)) (Tree.leaf (Fin.ret (Sh.str (W 16 3)))) Tree.fail)))))) := by kernel_rfl
end Go.Proofs
