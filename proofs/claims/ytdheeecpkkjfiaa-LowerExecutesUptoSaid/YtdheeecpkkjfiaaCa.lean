/- A part of the proof: an abstract machine for the walks, and what the walked functions compute. -/
import Derived.Test.YtdheeecpkkjfiaaProg
import Derived.KernelRfl
import Derived.Test.YtdheeecpkkjfiaaMe
import Derived.Test.YtdheeecpkkjfiaaMf
set_option linter.unusedVariables false
set_option linter.unusedSimpArgs false
/- The types of the program, as the abstract machine asks for them; which numbers are Go functions with a body. -/
set_option maxRecDepth 100000
namespace Go.Proofs.Ytdheeecpkkjfiaa
open Go.Am
theorem ti0 : ti Try.prog 0 = some ⟨TK.other, 1, 0, none⟩ := by kernel_rfl
theorem ti1 : ti Try.prog 1 = some ⟨TK.func, 1, 8, some [AV.nilfn]⟩ := by kernel_rfl
theorem ti2 : ti Try.prog 2 = some ⟨TK.int IntKind.i64, 1, 8, some [AV.int IntKind.i64 (0)]⟩ := by kernel_rfl
theorem ti3 : ti Try.prog 3 = some ⟨TK.int IntKind.i64, 1, 8, some [AV.int IntKind.i64 (0)]⟩ := by kernel_rfl
theorem ti4 : ti Try.prog 4 = some ⟨TK.bool, 1, 1, some [AV.bool false]⟩ := by kernel_rfl
theorem ti5 : ti Try.prog 5 = some ⟨TK.int IntKind.u8, 1, 1, some [AV.int IntKind.u8 (0)]⟩ := by kernel_rfl
theorem ti6 : ti Try.prog 6 = some ⟨TK.int IntKind.u8, 1, 1, some [AV.int IntKind.u8 (0)]⟩ := by kernel_rfl
theorem ti7 : ti Try.prog 7 = some ⟨TK.struct [(2, 0), (3, 1), (4, 2), (6, 3)], 4, 24, some [AV.int IntKind.i64 (0), AV.int IntKind.i64 (0), AV.bool false, AV.int IntKind.u8 (0)]⟩ := by kernel_rfl
theorem ti8 : ti Try.prog 8 = some ⟨TK.struct [(2, 0), (3, 1), (4, 2), (6, 3)], 4, 24, some [AV.int IntKind.i64 (0), AV.int IntKind.i64 (0), AV.bool false, AV.int IntKind.u8 (0)]⟩ := by kernel_rfl
theorem ti9 : ti Try.prog 9 = some ⟨TK.str, 1, 16, some [AV.str ⟨#[]⟩]⟩ := by kernel_rfl
theorem ti10 : ti Try.prog 10 = some ⟨TK.str, 1, 16, some [AV.str ⟨#[]⟩]⟩ := by kernel_rfl
theorem ti11 : ti Try.prog 11 = some ⟨TK.str, 1, 16, some [AV.str ⟨#[]⟩]⟩ := by kernel_rfl
theorem ti12 : ti Try.prog 12 = some ⟨TK.int IntKind.u64, 1, 8, some [AV.int IntKind.u64 (0)]⟩ := by kernel_rfl
theorem ti13 : ti Try.prog 13 = some ⟨TK.struct [(9, 0), (12, 1)], 2, 24, some [AV.str ⟨#[]⟩, AV.int IntKind.u64 (0)]⟩ := by kernel_rfl
theorem ti14 : ti Try.prog 14 = some ⟨TK.struct [(9, 0), (12, 1)], 2, 24, some [AV.str ⟨#[]⟩, AV.int IntKind.u64 (0)]⟩ := by kernel_rfl
theorem ti15 : ti Try.prog 15 = some ⟨TK.ptr, 1, 8, some [AV.nilp]⟩ := by kernel_rfl
theorem ti16 : ti Try.prog 16 = some ⟨TK.ptr, 1, 8, some [AV.nilp]⟩ := by kernel_rfl
theorem ti17 : ti Try.prog 17 = some ⟨TK.ptr, 1, 8, some [AV.nilp]⟩ := by kernel_rfl
theorem ti18 : ti Try.prog 18 = some ⟨TK.struct [(17, 0)], 1, 8, some [AV.nilp]⟩ := by kernel_rfl
theorem ti19 : ti Try.prog 19 = some ⟨TK.struct [(17, 0)], 1, 8, some [AV.nilp]⟩ := by kernel_rfl
theorem ti20 : ti Try.prog 20 = some ⟨TK.iface, 1, 16, some [AV.nilif]⟩ := by kernel_rfl
theorem ti21 : ti Try.prog 21 = some ⟨TK.int IntKind.i32, 1, 4, some [AV.int IntKind.i32 (0)]⟩ := by kernel_rfl
theorem ti22 : ti Try.prog 22 = some ⟨TK.slice 89, 1, 24, some [AV.nilsl]⟩ := by kernel_rfl
theorem ti23 : ti Try.prog 23 = some ⟨TK.slice 61, 1, 24, some [AV.nilsl]⟩ := by kernel_rfl
theorem ti24 : ti Try.prog 24 = some ⟨TK.struct [(22, 0), (23, 1)], 2, 48, some [AV.nilsl, AV.nilsl]⟩ := by kernel_rfl
theorem ti25 : ti Try.prog 25 = some ⟨TK.struct [(22, 0), (23, 1)], 2, 48, some [AV.nilsl, AV.nilsl]⟩ := by kernel_rfl
theorem ti26 : ti Try.prog 26 = some ⟨TK.func, 1, 8, some [AV.nilfn]⟩ := by kernel_rfl
theorem ti27 : ti Try.prog 27 = some ⟨TK.func, 1, 8, some [AV.nilfn]⟩ := by kernel_rfl
theorem ti28 : ti Try.prog 28 = some ⟨TK.slice 51, 1, 24, some [AV.nilsl]⟩ := by kernel_rfl
theorem ti29 : ti Try.prog 29 = some ⟨TK.int IntKind.i64, 1, 8, some [AV.int IntKind.i64 (0)]⟩ := by kernel_rfl
theorem ti30 : ti Try.prog 30 = some ⟨TK.other, 1, 0, none⟩ := by kernel_rfl
theorem ti31 : ti Try.prog 31 = some ⟨TK.func, 1, 8, some [AV.nilfn]⟩ := by kernel_rfl
theorem ti32 : ti Try.prog 32 = some ⟨TK.func, 1, 8, some [AV.nilfn]⟩ := by kernel_rfl
theorem ti33 : ti Try.prog 33 = some ⟨TK.slice 5, 1, 24, some [AV.nilsl]⟩ := by kernel_rfl
theorem ti34 : ti Try.prog 34 = some ⟨TK.ptr, 1, 8, some [AV.nilp]⟩ := by kernel_rfl
theorem ti35 : ti Try.prog 35 = some ⟨TK.slice 44, 1, 24, some [AV.nilsl]⟩ := by kernel_rfl
theorem ti36 : ti Try.prog 36 = some ⟨TK.struct [(33, 0), (3, 1), (35, 2), (4, 3)], 4, 64, some [AV.nilsl, AV.int IntKind.i64 (0), AV.nilsl, AV.bool false]⟩ := by kernel_rfl
theorem ti37 : ti Try.prog 37 = some ⟨TK.struct [(33, 0), (3, 1), (35, 2), (4, 3)], 4, 64, some [AV.nilsl, AV.int IntKind.i64 (0), AV.nilsl, AV.bool false]⟩ := by kernel_rfl
theorem ti38 : ti Try.prog 38 = some ⟨TK.func, 1, 8, some [AV.nilfn]⟩ := by kernel_rfl
theorem ti39 : ti Try.prog 39 = some ⟨TK.func, 1, 8, some [AV.nilfn]⟩ := by kernel_rfl
theorem ti40 : ti Try.prog 40 = some ⟨TK.slice 3, 1, 24, some [AV.nilsl]⟩ := by kernel_rfl
theorem ti41 : ti Try.prog 41 = some ⟨TK.struct [(3, 0), (3, 1), (3, 2), (3, 3), (3, 4), (40, 5), (22, 6)], 7, 88, some [AV.int IntKind.i64 (0), AV.int IntKind.i64 (0), AV.int IntKind.i64 (0), AV.int IntKind.i64 (0), AV.int IntKind.i64 (0), AV.nilsl, AV.nilsl]⟩ := by kernel_rfl
theorem ti42 : ti Try.prog 42 = some ⟨TK.struct [(3, 0), (3, 1), (3, 2), (3, 3), (3, 4), (40, 5), (22, 6)], 7, 88, some [AV.int IntKind.i64 (0), AV.int IntKind.i64 (0), AV.int IntKind.i64 (0), AV.int IntKind.i64 (0), AV.int IntKind.i64 (0), AV.nilsl, AV.nilsl]⟩ := by kernel_rfl
theorem ti43 : ti Try.prog 43 = some ⟨TK.struct [(42, 0), (3, 7), (3, 8)], 9, 104, some [AV.int IntKind.i64 (0), AV.int IntKind.i64 (0), AV.int IntKind.i64 (0), AV.int IntKind.i64 (0), AV.int IntKind.i64 (0), AV.nilsl, AV.nilsl, AV.int IntKind.i64 (0), AV.int IntKind.i64 (0)]⟩ := by kernel_rfl
theorem ti44 : ti Try.prog 44 = some ⟨TK.struct [(42, 0), (3, 7), (3, 8)], 9, 104, some [AV.int IntKind.i64 (0), AV.int IntKind.i64 (0), AV.int IntKind.i64 (0), AV.int IntKind.i64 (0), AV.int IntKind.i64 (0), AV.nilsl, AV.nilsl, AV.int IntKind.i64 (0), AV.int IntKind.i64 (0)]⟩ := by kernel_rfl
theorem ti45 : ti Try.prog 45 = some ⟨TK.func, 1, 8, some [AV.nilfn]⟩ := by kernel_rfl
theorem ti46 : ti Try.prog 46 = some ⟨TK.func, 1, 8, some [AV.nilfn]⟩ := by kernel_rfl
theorem ti47 : ti Try.prog 47 = some ⟨TK.struct [(3, 0), (3, 1), (40, 2)], 3, 40, some [AV.int IntKind.i64 (0), AV.int IntKind.i64 (0), AV.nilsl]⟩ := by kernel_rfl
theorem ti48 : ti Try.prog 48 = some ⟨TK.struct [(3, 0), (3, 1), (40, 2)], 3, 40, some [AV.int IntKind.i64 (0), AV.int IntKind.i64 (0), AV.nilsl]⟩ := by kernel_rfl
theorem ti49 : ti Try.prog 49 = some ⟨TK.slice 42, 1, 24, some [AV.nilsl]⟩ := by kernel_rfl
theorem ti50 : ti Try.prog 50 = some ⟨TK.struct [(49, 0), (48, 1)], 4, 64, some [AV.nilsl, AV.int IntKind.i64 (0), AV.int IntKind.i64 (0), AV.nilsl]⟩ := by kernel_rfl
theorem ti51 : ti Try.prog 51 = some ⟨TK.struct [(49, 0), (48, 1)], 4, 64, some [AV.nilsl, AV.int IntKind.i64 (0), AV.int IntKind.i64 (0), AV.nilsl]⟩ := by kernel_rfl
theorem ti52 : ti Try.prog 52 = some ⟨TK.slice 4, 1, 24, some [AV.nilsl]⟩ := by kernel_rfl
theorem ti53 : ti Try.prog 53 = some ⟨TK.func, 1, 8, some [AV.nilfn]⟩ := by kernel_rfl
theorem ti54 : ti Try.prog 54 = some ⟨TK.func, 1, 8, some [AV.nilfn]⟩ := by kernel_rfl
theorem ti55 : ti Try.prog 55 = some ⟨TK.func, 1, 8, some [AV.nilfn]⟩ := by kernel_rfl
theorem ti56 : ti Try.prog 56 = some ⟨TK.func, 1, 8, some [AV.nilfn]⟩ := by kernel_rfl
theorem ti57 : ti Try.prog 57 = some ⟨TK.func, 1, 8, some [AV.nilfn]⟩ := by kernel_rfl
theorem ti58 : ti Try.prog 58 = some ⟨TK.func, 1, 8, some [AV.nilfn]⟩ := by kernel_rfl
theorem ti59 : ti Try.prog 59 = some ⟨TK.slice 23, 1, 24, some [AV.nilsl]⟩ := by kernel_rfl
theorem ti60 : ti Try.prog 60 = some ⟨TK.struct [(3, 0), (3, 1), (42, 2), (23, 9), (23, 10), (59, 11)], 12, 176, some [AV.int IntKind.i64 (0), AV.int IntKind.i64 (0), AV.int IntKind.i64 (0), AV.int IntKind.i64 (0), AV.int IntKind.i64 (0), AV.int IntKind.i64 (0), AV.int IntKind.i64 (0), AV.nilsl, AV.nilsl, AV.nilsl, AV.nilsl, AV.nilsl]⟩ := by kernel_rfl
theorem ti61 : ti Try.prog 61 = some ⟨TK.struct [(3, 0), (3, 1), (42, 2), (23, 9), (23, 10), (59, 11)], 12, 176, some [AV.int IntKind.i64 (0), AV.int IntKind.i64 (0), AV.int IntKind.i64 (0), AV.int IntKind.i64 (0), AV.int IntKind.i64 (0), AV.int IntKind.i64 (0), AV.int IntKind.i64 (0), AV.nilsl, AV.nilsl, AV.nilsl, AV.nilsl, AV.nilsl]⟩ := by kernel_rfl
theorem ti62 : ti Try.prog 62 = some ⟨TK.func, 1, 8, some [AV.nilfn]⟩ := by kernel_rfl
theorem ti63 : ti Try.prog 63 = some ⟨TK.func, 1, 8, some [AV.nilfn]⟩ := by kernel_rfl
theorem ti64 : ti Try.prog 64 = some ⟨TK.func, 1, 8, some [AV.nilfn]⟩ := by kernel_rfl
theorem ti65 : ti Try.prog 65 = some ⟨TK.struct [(29, 0)], 1, 8, some [AV.int IntKind.i64 (0)]⟩ := by kernel_rfl
theorem ti66 : ti Try.prog 66 = some ⟨TK.struct [(29, 0)], 1, 8, some [AV.int IntKind.i64 (0)]⟩ := by kernel_rfl
theorem ti67 : ti Try.prog 67 = some ⟨TK.other, 1, 0, none⟩ := by kernel_rfl
theorem ti68 : ti Try.prog 68 = some ⟨TK.ptr, 1, 8, some [AV.nilp]⟩ := by kernel_rfl
theorem ti69 : ti Try.prog 69 = some ⟨TK.func, 1, 8, some [AV.nilfn]⟩ := by kernel_rfl
theorem ti70 : ti Try.prog 70 = some ⟨TK.func, 1, 8, some [AV.nilfn]⟩ := by kernel_rfl
theorem ti71 : ti Try.prog 71 = some ⟨TK.func, 1, 8, some [AV.nilfn]⟩ := by kernel_rfl
theorem ti72 : ti Try.prog 72 = some ⟨TK.map 3 84, 1, 8, some [AV.nilmap]⟩ := by kernel_rfl
theorem ti73 : ti Try.prog 73 = some ⟨TK.struct [(28, 0), (3, 1), (72, 2)], 3, 40, some [AV.nilsl, AV.int IntKind.i64 (0), AV.nilmap]⟩ := by kernel_rfl
theorem ti74 : ti Try.prog 74 = some ⟨TK.struct [(28, 0), (3, 1), (72, 2)], 3, 40, some [AV.nilsl, AV.int IntKind.i64 (0), AV.nilmap]⟩ := by kernel_rfl
theorem ti75 : ti Try.prog 75 = some ⟨TK.ptr, 1, 8, some [AV.nilp]⟩ := by kernel_rfl
theorem ti76 : ti Try.prog 76 = some ⟨TK.struct [(28, 0)], 1, 24, some [AV.nilsl]⟩ := by kernel_rfl
theorem ti77 : ti Try.prog 77 = some ⟨TK.struct [(28, 0)], 1, 24, some [AV.nilsl]⟩ := by kernel_rfl
theorem ti78 : ti Try.prog 78 = some ⟨TK.func, 1, 8, some [AV.nilfn]⟩ := by kernel_rfl
theorem ti79 : ti Try.prog 79 = some ⟨TK.func, 1, 8, some [AV.nilfn]⟩ := by kernel_rfl
theorem ti80 : ti Try.prog 80 = some ⟨TK.func, 1, 8, some [AV.nilfn]⟩ := by kernel_rfl
theorem ti81 : ti Try.prog 81 = some ⟨TK.func, 1, 8, some [AV.nilfn]⟩ := by kernel_rfl
theorem ti82 : ti Try.prog 82 = some ⟨TK.func, 1, 8, some [AV.nilfn]⟩ := by kernel_rfl
theorem ti83 : ti Try.prog 83 = some ⟨TK.func, 1, 8, some [AV.nilfn]⟩ := by kernel_rfl
theorem ti84 : ti Try.prog 84 = some ⟨TK.func, 1, 8, some [AV.nilfn]⟩ := by kernel_rfl
theorem ti85 : ti Try.prog 85 = some ⟨TK.func, 1, 8, some [AV.nilfn]⟩ := by kernel_rfl
theorem ti86 : ti Try.prog 86 = some ⟨TK.other, 1, 0, none⟩ := by kernel_rfl
theorem ti87 : ti Try.prog 87 = some ⟨TK.func, 1, 8, some [AV.nilfn]⟩ := by kernel_rfl
theorem ti88 : ti Try.prog 88 = some ⟨TK.struct [(3, 0), (3, 1), (22, 2)], 3, 40, some [AV.int IntKind.i64 (0), AV.int IntKind.i64 (0), AV.nilsl]⟩ := by kernel_rfl
theorem ti89 : ti Try.prog 89 = some ⟨TK.struct [(3, 0), (3, 1), (22, 2)], 3, 40, some [AV.int IntKind.i64 (0), AV.int IntKind.i64 (0), AV.nilsl]⟩ := by kernel_rfl
theorem ti90 : ti Try.prog 90 = some ⟨TK.ptr, 1, 8, some [AV.nilp]⟩ := by kernel_rfl
theorem ti91 : ti Try.prog 91 = some ⟨TK.func, 1, 8, some [AV.nilfn]⟩ := by kernel_rfl
theorem ti92 : ti Try.prog 92 = some ⟨TK.func, 1, 8, some [AV.nilfn]⟩ := by kernel_rfl
theorem ti93 : ti Try.prog 93 = some ⟨TK.func, 1, 8, some [AV.nilfn]⟩ := by kernel_rfl
theorem ti94 : ti Try.prog 94 = some ⟨TK.func, 1, 8, some [AV.nilfn]⟩ := by kernel_rfl
theorem ti95 : ti Try.prog 95 = some ⟨TK.func, 1, 8, some [AV.nilfn]⟩ := by kernel_rfl
theorem ti96 : ti Try.prog 96 = some ⟨TK.struct [(17, 0), (17, 1), (17, 2), (9, 3)], 4, 40, some [AV.nilp, AV.nilp, AV.nilp, AV.str ⟨#[]⟩]⟩ := by kernel_rfl
theorem ti97 : ti Try.prog 97 = some ⟨TK.struct [(17, 0), (17, 1), (17, 2), (9, 3)], 4, 40, some [AV.nilp, AV.nilp, AV.nilp, AV.str ⟨#[]⟩]⟩ := by kernel_rfl
theorem ti98 : ti Try.prog 98 = some ⟨TK.array 0 16, 0, 0, some []⟩ := by kernel_rfl
theorem ti99 : ti Try.prog 99 = some ⟨TK.struct [(98, 0)], 0, 0, some []⟩ := by kernel_rfl
theorem ti100 : ti Try.prog 100 = some ⟨TK.struct [(98, 0)], 0, 0, some []⟩ := by kernel_rfl
theorem ti101 : ti Try.prog 101 = some ⟨TK.int IntKind.u32, 1, 4, some [AV.int IntKind.u32 (0)]⟩ := by kernel_rfl
theorem ti102 : ti Try.prog 102 = some ⟨TK.int IntKind.u8, 1, 1, some [AV.int IntKind.u8 (0)]⟩ := by kernel_rfl
theorem ti103 : ti Try.prog 103 = some ⟨TK.int IntKind.u8, 1, 1, some [AV.int IntKind.u8 (0)]⟩ := by kernel_rfl
theorem ti104 : ti Try.prog 104 = some ⟨TK.func, 1, 8, some [AV.nilfn]⟩ := by kernel_rfl
theorem ti105 : ti Try.prog 105 = some ⟨TK.ptr, 1, 8, some [AV.nilp]⟩ := by kernel_rfl
theorem ti106 : ti Try.prog 106 = some ⟨TK.int IntKind.i32, 1, 4, some [AV.int IntKind.i32 (0)]⟩ := by kernel_rfl
theorem ti107 : ti Try.prog 107 = some ⟨TK.int IntKind.i32, 1, 4, some [AV.int IntKind.i32 (0)]⟩ := by kernel_rfl
theorem ti108 : ti Try.prog 108 = some ⟨TK.struct [(12, 0), (12, 1), (101, 2), (102, 3), (5, 4), (5, 5), (103, 6), (104, 7), (105, 8), (106, 9), (107, 10)], 11, 48, some [AV.int IntKind.u64 (0), AV.int IntKind.u64 (0), AV.int IntKind.u32 (0), AV.int IntKind.u8 (0), AV.int IntKind.u8 (0), AV.int IntKind.u8 (0), AV.int IntKind.u8 (0), AV.nilfn, AV.nilp, AV.int IntKind.i32 (0), AV.int IntKind.i32 (0)]⟩ := by kernel_rfl
theorem ti109 : ti Try.prog 109 = some ⟨TK.struct [(12, 0), (12, 1), (101, 2), (102, 3), (5, 4), (5, 5), (103, 6), (104, 7), (105, 8), (106, 9), (107, 10)], 11, 48, some [AV.int IntKind.u64 (0), AV.int IntKind.u64 (0), AV.int IntKind.u32 (0), AV.int IntKind.u8 (0), AV.int IntKind.u8 (0), AV.int IntKind.u8 (0), AV.int IntKind.u8 (0), AV.nilfn, AV.nilp, AV.int IntKind.i32 (0), AV.int IntKind.i32 (0)]⟩ := by kernel_rfl
theorem ti110 : ti Try.prog 110 = some ⟨TK.other, 1, 8, some [AV.nilp]⟩ := by kernel_rfl
theorem zv84 : zv Try.prog 84 = some (AV.nilfn) := by kernel_rfl
theorem fl7_0 : flT Try.prog 7 0 = some 0 := by kernel_rfl
theorem fl7_1 : flT Try.prog 7 1 = some 1 := by kernel_rfl
theorem fl7_2 : flT Try.prog 7 2 = some 2 := by kernel_rfl
theorem fl7_3 : flT Try.prog 7 3 = some 3 := by kernel_rfl
theorem fl8_0 : flT Try.prog 8 0 = some 0 := by kernel_rfl
theorem fl8_1 : flT Try.prog 8 1 = some 1 := by kernel_rfl
theorem fl8_2 : flT Try.prog 8 2 = some 2 := by kernel_rfl
theorem fl8_3 : flT Try.prog 8 3 = some 3 := by kernel_rfl
theorem fl13_0 : flT Try.prog 13 0 = some 0 := by kernel_rfl
theorem fl13_1 : flT Try.prog 13 1 = some 1 := by kernel_rfl
theorem fl14_0 : flT Try.prog 14 0 = some 0 := by kernel_rfl
theorem fl14_1 : flT Try.prog 14 1 = some 1 := by kernel_rfl
theorem fl18_0 : flT Try.prog 18 0 = some 0 := by kernel_rfl
theorem fl19_0 : flT Try.prog 19 0 = some 0 := by kernel_rfl
theorem el22 : elT Try.prog 22 = some 3 := by kernel_rfl
theorem el23 : elT Try.prog 23 = some 12 := by kernel_rfl
theorem fl24_0 : flT Try.prog 24 0 = some 0 := by kernel_rfl
theorem fl24_1 : flT Try.prog 24 1 = some 1 := by kernel_rfl
theorem fl25_0 : flT Try.prog 25 0 = some 0 := by kernel_rfl
theorem fl25_1 : flT Try.prog 25 1 = some 1 := by kernel_rfl
theorem el28 : elT Try.prog 28 = some 4 := by kernel_rfl
theorem el33 : elT Try.prog 33 = some 1 := by kernel_rfl
theorem el35 : elT Try.prog 35 = some 9 := by kernel_rfl
theorem fl36_0 : flT Try.prog 36 0 = some 0 := by kernel_rfl
theorem fl36_1 : flT Try.prog 36 1 = some 1 := by kernel_rfl
theorem fl36_2 : flT Try.prog 36 2 = some 2 := by kernel_rfl
theorem fl36_3 : flT Try.prog 36 3 = some 3 := by kernel_rfl
theorem fl37_0 : flT Try.prog 37 0 = some 0 := by kernel_rfl
theorem fl37_1 : flT Try.prog 37 1 = some 1 := by kernel_rfl
theorem fl37_2 : flT Try.prog 37 2 = some 2 := by kernel_rfl
theorem fl37_3 : flT Try.prog 37 3 = some 3 := by kernel_rfl
theorem el40 : elT Try.prog 40 = some 1 := by kernel_rfl
theorem fl41_0 : flT Try.prog 41 0 = some 0 := by kernel_rfl
theorem fl41_1 : flT Try.prog 41 1 = some 1 := by kernel_rfl
theorem fl41_2 : flT Try.prog 41 2 = some 2 := by kernel_rfl
theorem fl41_3 : flT Try.prog 41 3 = some 3 := by kernel_rfl
theorem fl41_4 : flT Try.prog 41 4 = some 4 := by kernel_rfl
theorem fl41_5 : flT Try.prog 41 5 = some 5 := by kernel_rfl
theorem fl41_6 : flT Try.prog 41 6 = some 6 := by kernel_rfl
theorem fl42_0 : flT Try.prog 42 0 = some 0 := by kernel_rfl
theorem fl42_1 : flT Try.prog 42 1 = some 1 := by kernel_rfl
theorem fl42_2 : flT Try.prog 42 2 = some 2 := by kernel_rfl
theorem fl42_3 : flT Try.prog 42 3 = some 3 := by kernel_rfl
theorem fl42_4 : flT Try.prog 42 4 = some 4 := by kernel_rfl
theorem fl42_5 : flT Try.prog 42 5 = some 5 := by kernel_rfl
theorem fl42_6 : flT Try.prog 42 6 = some 6 := by kernel_rfl
theorem fl43_0 : flT Try.prog 43 0 = some 0 := by kernel_rfl
theorem fl43_1 : flT Try.prog 43 1 = some 7 := by kernel_rfl
theorem fl43_2 : flT Try.prog 43 2 = some 8 := by kernel_rfl
theorem fl44_0 : flT Try.prog 44 0 = some 0 := by kernel_rfl
theorem fl44_1 : flT Try.prog 44 1 = some 7 := by kernel_rfl
theorem fl44_2 : flT Try.prog 44 2 = some 8 := by kernel_rfl
theorem fl47_0 : flT Try.prog 47 0 = some 0 := by kernel_rfl
theorem fl47_1 : flT Try.prog 47 1 = some 1 := by kernel_rfl
theorem fl47_2 : flT Try.prog 47 2 = some 2 := by kernel_rfl
theorem fl48_0 : flT Try.prog 48 0 = some 0 := by kernel_rfl
theorem fl48_1 : flT Try.prog 48 1 = some 1 := by kernel_rfl
theorem fl48_2 : flT Try.prog 48 2 = some 2 := by kernel_rfl
theorem el49 : elT Try.prog 49 = some 7 := by kernel_rfl
theorem fl50_0 : flT Try.prog 50 0 = some 0 := by kernel_rfl
theorem fl50_1 : flT Try.prog 50 1 = some 1 := by kernel_rfl
theorem fl51_0 : flT Try.prog 51 0 = some 0 := by kernel_rfl
theorem fl51_1 : flT Try.prog 51 1 = some 1 := by kernel_rfl
theorem el52 : elT Try.prog 52 = some 1 := by kernel_rfl
theorem el59 : elT Try.prog 59 = some 1 := by kernel_rfl
theorem fl60_0 : flT Try.prog 60 0 = some 0 := by kernel_rfl
theorem fl60_1 : flT Try.prog 60 1 = some 1 := by kernel_rfl
theorem fl60_2 : flT Try.prog 60 2 = some 2 := by kernel_rfl
theorem fl60_3 : flT Try.prog 60 3 = some 9 := by kernel_rfl
theorem fl60_4 : flT Try.prog 60 4 = some 10 := by kernel_rfl
theorem fl60_5 : flT Try.prog 60 5 = some 11 := by kernel_rfl
theorem fl61_0 : flT Try.prog 61 0 = some 0 := by kernel_rfl
theorem fl61_1 : flT Try.prog 61 1 = some 1 := by kernel_rfl
theorem fl61_2 : flT Try.prog 61 2 = some 2 := by kernel_rfl
theorem fl61_3 : flT Try.prog 61 3 = some 9 := by kernel_rfl
theorem fl61_4 : flT Try.prog 61 4 = some 10 := by kernel_rfl
theorem fl61_5 : flT Try.prog 61 5 = some 11 := by kernel_rfl
theorem fl65_0 : flT Try.prog 65 0 = some 0 := by kernel_rfl
theorem fl66_0 : flT Try.prog 66 0 = some 0 := by kernel_rfl
theorem mp72 : mpT Try.prog 72 = some 84 := by kernel_rfl
theorem mz72 : mpZ Try.prog 72 = some (AV.nilfn) := by kernel_rfl
theorem fl73_0 : flT Try.prog 73 0 = some 0 := by kernel_rfl
theorem fl73_1 : flT Try.prog 73 1 = some 1 := by kernel_rfl
theorem fl73_2 : flT Try.prog 73 2 = some 2 := by kernel_rfl
theorem fl74_0 : flT Try.prog 74 0 = some 0 := by kernel_rfl
theorem fl74_1 : flT Try.prog 74 1 = some 1 := by kernel_rfl
theorem fl74_2 : flT Try.prog 74 2 = some 2 := by kernel_rfl
theorem fl76_0 : flT Try.prog 76 0 = some 0 := by kernel_rfl
theorem fl77_0 : flT Try.prog 77 0 = some 0 := by kernel_rfl
theorem fl88_0 : flT Try.prog 88 0 = some 0 := by kernel_rfl
theorem fl88_1 : flT Try.prog 88 1 = some 1 := by kernel_rfl
theorem fl88_2 : flT Try.prog 88 2 = some 2 := by kernel_rfl
theorem fl89_0 : flT Try.prog 89 0 = some 0 := by kernel_rfl
theorem fl89_1 : flT Try.prog 89 1 = some 1 := by kernel_rfl
theorem fl89_2 : flT Try.prog 89 2 = some 2 := by kernel_rfl
theorem fl96_0 : flT Try.prog 96 0 = some 0 := by kernel_rfl
theorem fl96_1 : flT Try.prog 96 1 = some 1 := by kernel_rfl
theorem fl96_2 : flT Try.prog 96 2 = some 2 := by kernel_rfl
theorem fl96_3 : flT Try.prog 96 3 = some 3 := by kernel_rfl
theorem fl97_0 : flT Try.prog 97 0 = some 0 := by kernel_rfl
theorem fl97_1 : flT Try.prog 97 1 = some 1 := by kernel_rfl
theorem fl97_2 : flT Try.prog 97 2 = some 2 := by kernel_rfl
theorem fl97_3 : flT Try.prog 97 3 = some 3 := by kernel_rfl
theorem fl108_0 : flT Try.prog 108 0 = some 0 := by kernel_rfl
theorem fl108_1 : flT Try.prog 108 1 = some 1 := by kernel_rfl
theorem fl108_2 : flT Try.prog 108 2 = some 2 := by kernel_rfl
theorem fl108_3 : flT Try.prog 108 3 = some 3 := by kernel_rfl
theorem fl108_4 : flT Try.prog 108 4 = some 4 := by kernel_rfl
theorem fl108_5 : flT Try.prog 108 5 = some 5 := by kernel_rfl
theorem fl108_6 : flT Try.prog 108 6 = some 6 := by kernel_rfl
theorem fl108_7 : flT Try.prog 108 7 = some 7 := by kernel_rfl
theorem fl108_8 : flT Try.prog 108 8 = some 8 := by kernel_rfl
theorem fl108_9 : flT Try.prog 108 9 = some 9 := by kernel_rfl
theorem fl108_10 : flT Try.prog 108 10 = some 10 := by kernel_rfl
theorem fl109_0 : flT Try.prog 109 0 = some 0 := by kernel_rfl
theorem fl109_1 : flT Try.prog 109 1 = some 1 := by kernel_rfl
theorem fl109_2 : flT Try.prog 109 2 = some 2 := by kernel_rfl
theorem fl109_3 : flT Try.prog 109 3 = some 3 := by kernel_rfl
theorem fl109_4 : flT Try.prog 109 4 = some 4 := by kernel_rfl
theorem fl109_5 : flT Try.prog 109 5 = some 5 := by kernel_rfl
theorem fl109_6 : flT Try.prog 109 6 = some 6 := by kernel_rfl
theorem fl109_7 : flT Try.prog 109 7 = some 7 := by kernel_rfl
theorem fl109_8 : flT Try.prog 109 8 = some 8 := by kernel_rfl
theorem fl109_9 : flT Try.prog 109 9 = some 9 := by kernel_rfl
theorem fl109_10 : flT Try.prog 109 10 = some 10 := by kernel_rfl
theorem isf2 : isFn Try.prog 2 = true := by kernel_rfl
theorem isf3 : isFn Try.prog 3 = true := by kernel_rfl
theorem isf4 : isFn Try.prog 4 = true := by kernel_rfl
theorem isf5 : isFn Try.prog 5 = true := by kernel_rfl
theorem isf6 : isFn Try.prog 6 = true := by kernel_rfl
theorem isf7 : isFn Try.prog 7 = true := by kernel_rfl
theorem isf8 : isFn Try.prog 8 = true := by kernel_rfl
theorem isf9 : isFn Try.prog 9 = true := by kernel_rfl
theorem isf10 : isFn Try.prog 10 = true := by kernel_rfl
theorem isf11 : isFn Try.prog 11 = true := by kernel_rfl
theorem isf12 : isFn Try.prog 12 = true := by kernel_rfl
theorem isf13 : isFn Try.prog 13 = true := by kernel_rfl
theorem isf14 : isFn Try.prog 14 = true := by kernel_rfl
theorem isf15 : isFn Try.prog 15 = true := by kernel_rfl
theorem isf16 : isFn Try.prog 16 = true := by kernel_rfl
theorem isf17 : isFn Try.prog 17 = true := by kernel_rfl
theorem isf18 : isFn Try.prog 18 = true := by kernel_rfl
theorem isf19 : isFn Try.prog 19 = true := by kernel_rfl
theorem isf20 : isFn Try.prog 20 = true := by kernel_rfl
theorem isf21 : isFn Try.prog 21 = true := by kernel_rfl
theorem isf22 : isFn Try.prog 22 = true := by kernel_rfl
theorem isf23 : isFn Try.prog 23 = true := by kernel_rfl
theorem isf24 : isFn Try.prog 24 = true := by kernel_rfl
theorem isf25 : isFn Try.prog 25 = true := by kernel_rfl
theorem isf26 : isFn Try.prog 26 = true := by kernel_rfl
theorem isf27 : isFn Try.prog 27 = true := by kernel_rfl
theorem isf28 : isFn Try.prog 28 = true := by kernel_rfl
theorem isf29 : isFn Try.prog 29 = true := by kernel_rfl
theorem isf30 : isFn Try.prog 30 = true := by kernel_rfl
theorem isf31 : isFn Try.prog 31 = true := by kernel_rfl
theorem isf32 : isFn Try.prog 32 = true := by kernel_rfl
theorem isf33 : isFn Try.prog 33 = true := by kernel_rfl
theorem isf34 : isFn Try.prog 34 = true := by kernel_rfl
theorem isf35 : isFn Try.prog 35 = true := by kernel_rfl
theorem isf36 : isFn Try.prog 36 = true := by kernel_rfl
theorem isf37 : isFn Try.prog 37 = true := by kernel_rfl
theorem isf38 : isFn Try.prog 38 = true := by kernel_rfl
theorem isf39 : isFn Try.prog 39 = true := by kernel_rfl
theorem isf40 : isFn Try.prog 40 = true := by kernel_rfl
theorem isf41 : isFn Try.prog 41 = true := by kernel_rfl
theorem isf42 : isFn Try.prog 42 = true := by kernel_rfl
theorem isf43 : isFn Try.prog 43 = true := by kernel_rfl
theorem isf44 : isFn Try.prog 44 = true := by kernel_rfl
theorem isf45 : isFn Try.prog 45 = true := by kernel_rfl
theorem isf46 : isFn Try.prog 46 = true := by kernel_rfl
theorem isf47 : isFn Try.prog 47 = true := by kernel_rfl
theorem isf48 : isFn Try.prog 48 = true := by kernel_rfl
theorem isf49 : isFn Try.prog 49 = true := by kernel_rfl
theorem isf50 : isFn Try.prog 50 = true := by kernel_rfl
theorem isf51 : isFn Try.prog 51 = true := by kernel_rfl
theorem mixed : Try.prog.follows .mixedOrders = true := by kernel_rfl
attribute [go_sem] ti0 ti1 ti2 ti3 ti4 ti5 ti6 ti7 ti8 ti9 ti10 ti11 ti12 ti13 ti14 ti15 ti16 ti17 ti18 ti19 ti20 ti21 ti22 ti23 ti24 ti25 ti26 ti27 ti28 ti29 ti30 ti31 ti32 ti33 ti34 ti35 ti36 ti37 ti38 ti39 ti40 ti41 ti42 ti43 ti44 ti45 ti46 ti47 ti48 ti49 ti50 ti51 ti52 ti53 ti54 ti55 ti56 ti57 ti58 ti59 ti60 ti61 ti62 ti63 ti64 ti65 ti66 ti67 ti68 ti69 ti70 ti71 ti72 ti73 ti74 ti75 ti76 ti77 ti78 ti79 ti80 ti81 ti82 ti83 ti84 ti85 ti86 ti87 ti88 ti89 ti90 ti91 ti92 ti93 ti94 ti95 ti96 ti97 ti98 ti99 ti100 ti101 ti102 ti103 ti104 ti105 ti106 ti107 ti108 ti109 ti110 zv84 fl7_0 fl7_1 fl7_2 fl7_3 fl8_0 fl8_1 fl8_2 fl8_3 fl13_0 fl13_1 fl14_0 fl14_1 fl18_0 fl19_0 el22 el23 fl24_0 fl24_1 fl25_0 fl25_1 el28 el33 el35 fl36_0 fl36_1 fl36_2 fl36_3 fl37_0 fl37_1 fl37_2 fl37_3 el40 fl41_0 fl41_1 fl41_2 fl41_3 fl41_4 fl41_5 fl41_6 fl42_0 fl42_1 fl42_2 fl42_3 fl42_4 fl42_5 fl42_6 fl43_0 fl43_1 fl43_2 fl44_0 fl44_1 fl44_2 fl47_0 fl47_1 fl47_2 fl48_0 fl48_1 fl48_2 el49 fl50_0 fl50_1 fl51_0 fl51_1 el52 el59 fl60_0 fl60_1 fl60_2 fl60_3 fl60_4 fl60_5 fl61_0 fl61_1 fl61_2 fl61_3 fl61_4 fl61_5 fl65_0 fl66_0 mp72 mz72 fl73_0 fl73_1 fl73_2 fl74_0 fl74_1 fl74_2 fl76_0 fl77_0 fl88_0 fl88_1 fl88_2 fl89_0 fl89_1 fl89_2 fl96_0 fl96_1 fl96_2 fl96_3 fl97_0 fl97_1 fl97_2 fl97_3 fl108_0 fl108_1 fl108_2 fl108_3 fl108_4 fl108_5 fl108_6 fl108_7 fl108_8 fl108_9 fl108_10 fl109_0 fl109_1 fl109_2 fl109_3 fl109_4 fl109_5 fl109_6 fl109_7 fl109_8 fl109_9 fl109_10
end Go.Proofs.Ytdheeecpkkjfiaa

/- Chapter 10: the memory of a lowering. -/
set_option linter.unusedVariables false
set_option linter.unusedSimpArgs false
namespace Go.Low
open Go Go.Am

mutual
theorem ren_clo (m : Nat → Nat) : ∀ x : AV, x.clo = true → x.ren m = x
  | .ptr _ _, h | .rptr _ _ _ _, h | .rw _, h | .mp _, h => by simp [AV.clo] at h
  | .fn f a b, h => by
    simp only [AV.clo, Bool.and_eq_true] at h
    simp only [AV.ren, renL_clo m a h.1, renL_clo m b h.2]
  | .iface t v, h => by
    simp only [AV.clo] at h
    simp only [AV.ren, ren_clo m v h]
  | .agg l, h => by
    simp only [AV.clo] at h
    simp only [AV.ren, renL_clo m l h]
  | .tup l, h => by
    simp only [AV.clo] at h
    simp only [AV.ren, renL_clo m l h]
  | .bool _, _ | .int _ _, _ | .str _, _ | .nilp, _ | .eptr _ _, _ | .nilsl, _ | .sl _, _ | .nilmap, _ | .nilfn, _ | .nilif, _ => rfl
theorem renL_clo (m : Nat → Nat) : ∀ l : List AV, AV.cloL l = true → AV.renL m l = l
  | [], _ => rfl
  | x :: l, h => by
    simp only [AV.cloL, Bool.and_eq_true] at h
    simp only [AV.renL, ren_clo m x h.1, renL_clo m l h.2]
end

mutual
theorem ids_clo (p : Nat → Prop) : ∀ x : AV, x.clo = true → x.ids p
  | .ptr _ _, h | .rptr _ _ _ _, h | .rw _, h | .mp _, h => by simp [AV.clo] at h
  | .fn f a b, h => by
    simp only [AV.clo, Bool.and_eq_true] at h
    exact ⟨idsL_clo p a h.1, idsL_clo p b h.2⟩
  | .iface t v, h => ids_clo p v h
  | .agg l, h => idsL_clo p l h
  | .tup l, h => idsL_clo p l h
  | .bool _, _ | .int _ _, _ | .str _, _ | .nilp, _ | .eptr _ _, _ | .nilsl, _ | .sl _, _ | .nilmap, _ | .nilfn, _ | .nilif, _ => trivial
theorem idsL_clo (p : Nat → Prop) : ∀ l : List AV, AV.cloL l = true → AV.idsL p l
  | [], _ => trivial
  | x :: l, h => by
    simp only [AV.cloL, Bool.and_eq_true] at h
    exact ⟨ids_clo p x h.1, idsL_clo p l h.2⟩
end

mutual
theorem ids_mono {p q : Nat → Prop} : ∀ x : AV, (∀ i, p i → q i) → x.ids p → x.ids q
  | .ptr _ _, h, hx | .rptr _ _ _ _, h, hx | .rw _, h, hx | .mp _, h, hx => h _ hx
  | .fn f a b, h, hx => ⟨idsL_mono a h hx.1, idsL_mono b h hx.2⟩
  | .iface t v, h, hx => ids_mono v h hx
  | .agg l, h, hx => idsL_mono l h hx
  | .tup l, h, hx => idsL_mono l h hx
  | .bool _, _, _ | .int _ _, _, _ | .str _, _, _ | .nilp, _, _ | .eptr _ _, _, _ | .nilsl, _, _ | .sl _, _, _ | .nilmap, _, _ | .nilfn, _, _ | .nilif, _, _ => trivial
theorem idsL_mono {p q : Nat → Prop} : ∀ l : List AV, (∀ i, p i → q i) → AV.idsL p l → AV.idsL q l
  | [], _, _ => trivial
  | x :: l, h, hx => ⟨ids_mono x h hx.1, idsL_mono l h hx.2⟩
end

theorem objids_mono {p q : Nat → Prop} (ob : AObj) (h : ∀ i, p i → q i) (hx : ob.ids p) : ob.ids q := by
  cases ob with
  | cells l => exact idsL_mono l h hx
  | row sz l => exact idsL_mono l h hx
  | map es => exact fun r hr => ⟨ids_mono _ h (hx r hr).1, ids_mono _ h (hx r hr).2⟩

theorem renL_eq (m : Nat → Nat) : ∀ l : List AV, AV.renL m l = l.map (AV.ren m)
  | [] => rfl
  | x :: l => by simp only [AV.renL, List.map_cons, renL_eq m l]

theorem idsL_eq (p : Nat → Prop) : ∀ l : List AV, (∀ x, x ∈ l → x.ids p) → AV.idsL p l
  | [], _ => trivial
  | x :: l, h => ⟨h x (by simp), idsL_eq p l fun y hy => h y (List.mem_cons_of_mem _ hy)⟩

theorem cloL_eq : ∀ l : List AV, (∀ x, x ∈ l → x.clo = true) → AV.cloL l = true
  | [], _ => rfl
  | x :: l, h => by simp only [AV.cloL, Bool.and_eq_true]; exact ⟨h x (by simp), cloL_eq l fun y hy => h y (List.mem_cons_of_mem _ hy)⟩

/-- A block: its instructions, its end, its targets, if any were laid. -/
structure Blk where
  code : List AV
  kind : Int
  a : Int
  tg : Option (List Int)

def tgAV : Option (List Int) → AV
  | none => .nilsl
  | some l => .sl (l.map AV.i)

def cAV (c : Nat) (b : Blk) : AV := if b.code = [] then .nilsl else .rw c

def blkAV (c : Nat) (b : Blk) : AV := .agg [cAV c b, .i b.kind, .i b.a, tgAV b.tg]

def blksAV (c : Nat) : List Blk → List AV
  | [] => []
  | b :: l => blkAV c b :: blksAV (c + 1) l

theorem blksAV_len : ∀ (l : List Blk) (c : Nat), (blksAV c l).length = l.length
  | [], _ => rfl
  | b :: l, c => by simp [blksAV, blksAV_len l]

theorem blksAV_get? : ∀ (l : List Blk) (c i : Nat), (blksAV c l)[i]? = (l[i]?).map (blkAV (c + i))
  | [], c, i => by simp [blksAV]
  | b :: l, c, 0 => by simp [blksAV]
  | b :: l, c, i + 1 => by
    simp only [blksAV, List.getElem?_cons_succ, blksAV_get? l]
    rw [show c + 1 + i = c + (i + 1) by omega]

theorem blksAV_app : ∀ (l l' : List Blk) (c : Nat), blksAV c (l ++ l') = blksAV c l ++ blksAV (c + l.length) l'
  | [], l', c => rfl
  | b :: l, l', c => by
    simp only [List.cons_append, blksAV, blksAV_app l l', List.length_cons]
    rw [show c + 1 + l.length = c + (l.length + 1) by omega]

def codeObj (l : List Blk) (k : Nat) : Option AObj :=
  match l[k]? with
  | some b => if b.code = [] then none else some (.row 7 b.code)
  | none => none

/-- What a lowering is besides its blocks: how many of its objects stay (1, or 2), the object 1, the cells of its struct. -/
structure Hs where
  np : Nat
  o1 : Option AObj
  cs : Int → Nat → List AV

/-- The memory of a lowering: the blocks' row has the number o, their instructions' rows the next ones. -/
def lowHp (md : Hs) (o : Nat) (bl : List Blk) (cur : Int) (id : Nat) : Option AObj :=
  if id = 0 then some (.cells (md.cs cur o))
  else if id = 1 then md.o1
  else if id = o then some (.row 4 (blksAV (o + 1) bl))
  else if o < id then codeObj bl (id - o - 1)
  else none

/-- No instruction names an object. -/
def OkB (bl : List Blk) : Prop := ∀ b, b ∈ bl → ∀ x, x ∈ b.code → x.clo = true
structure OkM (md : Hs) : Prop where
  np : md.np = 1 ∨ md.np = 2 ∧ md.o1 ≠ none
  ob : ∀ ob, md.o1 = some ob → md.np = 2 ∧ (∀ m, ob.ren m = ob) ∧ ∀ p : Nat → Prop, ob.ids p
  ren : ∀ (m : Nat → Nat) cur o, (md.np = 2 → m 1 = 1) → AV.renL m (md.cs cur o) = md.cs cur (m o)
  ids : ∀ (p : Nat → Prop) cur o, p o → p 1 → AV.idsL p (md.cs cur o)

theorem cAV_ren (m : Nat → Nat) (c : Nat) (b : Blk) : (cAV c b).ren m = cAV (m c) b := by
  unfold cAV; split <;> rfl
theorem tgAV_clo (t : Option (List Int)) : (tgAV t).clo = true := by cases t <;> rfl
theorem blkAV_ren (m : Nat → Nat) (c : Nat) (b : Blk) : (blkAV c b).ren m = blkAV (m c) b := by
  simp only [blkAV, AV.ren, AV.renL, cAV_ren, ren_clo m _ (tgAV_clo b.tg)]
theorem blksAV_ren (m : Nat → Nat) (d : Nat) : ∀ (l : List Blk) (c : Nat), (∀ k, k < l.length → m (c + k) = d + (c + k)) → AV.renL m (blksAV c l) = blksAV (d + c) l
  | [], _, _ => rfl
  | b :: l, c, h => by
    simp only [blksAV, AV.renL, blkAV_ren]
    rw [show m c = d + c from h 0 (by simp), blksAV_ren m d l (c + 1) (fun k hk => by have := h (k + 1) (by simpa using hk); rw [show c + 1 + k = c + (k + 1) by omega]; exact this)]
    rfl
theorem blksAV_ren' (m : Nat → Nat) : ∀ (l : List Blk) (c c' : Nat), (∀ k, k < l.length → m (c + k) = c' + k) → AV.renL m (blksAV c l) = blksAV c' l
  | [], _, _, _ => rfl
  | b :: l, c, c', h => by
    simp only [blksAV, AV.renL, blkAV_ren]
    rw [show m c = c' from h 0 (by simp), blksAV_ren' m l (c + 1) (c' + 1) (fun k hk => by have := h (k + 1) (by simpa using hk); rw [show c + 1 + k = c + (k + 1) by omega, this]; omega)]

theorem blksAV_ids (p : Nat → Prop) : ∀ (l : List Blk) (c : Nat), (∀ k, k < l.length → p (c + k)) → AV.idsL p (blksAV c l)
  | [], _, _ => trivial
  | b :: l, c, h => by
    refine ⟨⟨?_, trivial, trivial, ids_clo p _ (tgAV_clo b.tg), trivial⟩, blksAV_ids p l (c + 1) (fun k hk => by have := h (k + 1) (by simpa using hk); rw [show c + 1 + k = c + (k + 1) by omega]; exact this)⟩
    unfold cAV
    split
    · trivial
    · exact h 0 (by simp)

theorem map_clo_ren (m : Nat → Nat) {md : List (AV × AV)} (h : ∀ p, p ∈ md → p.1.clo = true ∧ p.2.clo = true) : (AObj.map md).ren m = .map md := by
  simp only [AObj.ren]
  congr 1
  have : ∀ l : List (AV × AV), (∀ p, p ∈ l → p.1.clo = true ∧ p.2.clo = true) → l.map (fun p => (p.1.ren m, p.2.ren m)) = l := by
    intro l
    induction l with
    | nil => intro _; rfl
    | cons p l ih =>
      intro h
      rw [List.map_cons, ih (fun q hq => h q (List.mem_cons_of_mem _ hq)), ren_clo m _ (h p (by simp)).1, ren_clo m _ (h p (by simp)).2]
  exact this md h

theorem code_clo_ren (m : Nat → Nat) {l : List AV} (h : ∀ x, x ∈ l → x.clo = true) : (AObj.row 7 l).ren m = .row 7 l := by
  simp only [AObj.ren, renL_clo m l (cloL_eq l h)]

theorem codeObj_some {l : List Blk} {k : Nat} {o : AObj} (h : codeObj l k = some o) : ∃ b, l[k]? = some b ∧ b.code ≠ [] ∧ o = .row 7 b.code ∧ k < l.length := by
  unfold codeObj at h
  cases hb : l[k]? with
  | none => simp [hb] at h
  | some b =>
    simp only [hb] at h
    split at h
    · cases h
    · rename_i hne
      cases h
      refine ⟨b, rfl, hne, rfl, ?_⟩
      rcases Nat.lt_or_ge k l.length with h | h
      · exact h
      · rw [List.getElem?_eq_none h] at hb; cases hb

/-- The cases of the memory. -/
theorem lowHp_cases {md : Hs} {o : Nat} {bl : List Blk} {cur : Int} {id : Nat} {ob : AObj} (ho : 2 ≤ o) (h : lowHp md o bl cur id = some ob) :
    (id = 0 ∧ ob = .cells (md.cs cur o)) ∨ (id = 1 ∧ md.o1 = some ob) ∨ (id = o ∧ ob = .row 4 (blksAV (o + 1) bl)) ∨ (∃ k b, id = o + 1 + k ∧ k < bl.length ∧ bl[k]? = some b ∧ b.code ≠ [] ∧ ob = .row 7 b.code) := by
  unfold lowHp at h
  split at h
  · cases h; exact .inl ⟨‹_›, rfl⟩
  · split at h
    · exact .inr (.inl ⟨‹_›, h⟩)
    · split at h
      · cases h; exact .inr (.inr (.inl ⟨‹_›, rfl⟩))
      · split at h
        · obtain ⟨b, h1, h2, h3, h4⟩ := codeObj_some h
          exact .inr (.inr (.inr ⟨_, b, by omega, h4, h1, h2, h3⟩))
        · cases h

theorem lowHp_lt {md : Hs} {o : Nat} {bl : List Blk} {cur : Int} {id : Nat} {ob : AObj} (ho : 2 ≤ o) (hb : OkB bl) (hm : OkM md) (h : lowHp md o bl cur id = some ob) : id < o + 1 + bl.length ∧ ob.ids (· < o + 1 + bl.length) := by
  rcases lowHp_cases ho h with ⟨rfl, rfl⟩ | ⟨rfl, ho1⟩ | ⟨rfl, rfl⟩ | ⟨k, b, rfl, hk, h1, h2, rfl⟩
  · exact ⟨by omega, hm.ids _ _ _ (show _ < _ by omega) (show _ < _ by omega)⟩
  · exact ⟨by omega, (hm.ob _ ho1).2.2 _⟩
  · exact ⟨by omega, blksAV_ids _ bl _ fun k hk => by omega⟩
  · exact ⟨by omega, idsL_clo _ _ (cloL_eq _ (hb b (List.mem_of_getElem? h1)))⟩

theorem lowHp_none {md : Hs} {o : Nat} {bl : List Blk} {cur : Int} {id : Nat} (h2 : 2 ≤ id) (h : id < o ∨ o + bl.length < id) : lowHp md o bl cur id = none := by
  unfold lowHp
  rw [if_neg (by omega), if_neg (by omega)]
  rcases h with h | h
  · rw [if_neg (by omega), if_neg (by omega)]
  · rw [if_neg (by omega), if_pos (by omega)]
    unfold codeObj
    rw [List.getElem?_eq_none (by omega)]

theorem lowHp_code {md : Hs} {o : Nat} {bl : List Blk} {cur : Int} {id k : Nat} {b : Blk} (hid : id = o + 1 + k ∧ 2 ≤ o) (hk : bl[k]? = some b) (hc : b.code ≠ []) : lowHp md o bl cur id = some (.row 7 b.code) := by
  obtain ⟨rfl, ho⟩ := hid
  unfold lowHp
  rw [if_neg (by omega), if_neg (by omega), if_neg (by omega), if_pos (by omega), show o + 1 + k - o - 1 = k by omega]
  unfold codeObj
  rw [hk]
  simp only
  rw [if_neg hc]

theorem blksAV_rep : ∀ (n c : Nat), blksAV c (List.replicate n ⟨[], 0, 0, none⟩) = List.replicate n (.agg [.nilsl, .i 0, .i 0, .nilsl])
  | 0, _ => rfl
  | n + 1, c => by rw [List.replicate_succ, List.replicate_succ, blksAV, blksAV_rep n]; rfl

/-- A memory that holds that of a lowering. -/
def LowIn (hp : Nat → Option AObj) (md : Hs) (o : Nat) (bl : List Blk) (cur : Int) : Prop := ∀ id ob, lowHp md o bl cur id = some ob → hp id = some ob

theorem lowHp_cur {md : Hs} {o : Nat} {bl : List Blk} {cur cur' : Int} {id : Nat} (h : id ≠ 0) : lowHp md o bl cur id = lowHp md o bl cur' id := by
  unfold lowHp; rw [if_neg h, if_neg h]

theorem LowIn.upd {hp : Nat → Option AObj} {md : Hs} {o : Nat} {bl : List Blk} {cur : Int} {i : Nat} {x : Option AObj} (h : LowIn hp md o bl cur) (hi : lowHp md o bl cur i = none) : LowIn (updo hp i x) md o bl cur := by
  intro id ob hid
  simp only [updo]
  split
  · rename_i e; rw [e, hi] at hid; cases hid
  · exact h id ob hid

theorem LowIn.cur {hp : Nat → Option AObj} {md : Hs} {o : Nat} {bl : List Blk} {cur : Int} {cur' : Int} (h : LowIn hp md o bl cur) : LowIn (updo hp 0 (some (.cells (md.cs cur' o)))) md o bl cur' := by
  intro id ob hid
  simp only [updo]
  split
  · rename_i e; subst e; exact hid
  · rename_i e; exact h id ob (by rw [lowHp_cur e]; exact hid)

theorem blksAV_set : ∀ (l : List Blk) (c k : Nat) (b : Blk), (blksAV c l).set k (blkAV (c + k) b) = blksAV c (l.set k b)
  | [], _, _, _ => rfl
  | x :: l, c, 0, b => rfl
  | x :: l, c, k + 1, b => by
    simp only [blksAV, List.set_cons_succ]
    rw [← blksAV_set l (c + 1) k b, show c + 1 + k = c + (k + 1) by omega]

theorem codeObj_set {l : List Blk} {k : Nat} {b b' : Blk} (h : l[k]? = some b) (hc : b'.code = b.code) (j : Nat) : codeObj (l.set k b') j = codeObj l j := by
  unfold codeObj
  have hlt : k < l.length := (List.getElem?_eq_some_iff.1 h).1
  by_cases e : j = k
  · subst e
    rw [List.getElem?_set_self hlt, h]
    simp only [hc]
  · rw [List.getElem?_set_ne (Ne.symm e)]

theorem LowIn.set {hp : Nat → Option AObj} {md : Hs} {o : Nat} {bl : List Blk} {cur : Int} (h : LowIn hp md o bl cur) (ho : 2 ≤ o) {k : Nat} {b b' : Blk} (hk : bl[k]? = some b) (hc : b'.code = b.code) :
    LowIn (updo hp o (some (.row 4 (blksAV (o + 1) (bl.set k b'))))) md o (bl.set k b') cur := by
  intro id ob hid
  have e : lowHp md o (bl.set k b') cur id = if id = o then some (.row 4 (blksAV (o + 1) (bl.set k b'))) else lowHp md o bl cur id := by
    unfold lowHp
    rw [codeObj_set hk hc]
    by_cases h0 : id = 0
    · rw [if_pos h0, if_pos h0, if_neg (by omega)]
    · by_cases h1 : id = 1
      · rw [if_neg h0, if_neg h0, if_pos h1, if_pos h1, if_neg (by omega)]
      · rw [if_neg h0, if_neg h0, if_neg h1, if_neg h1]
        by_cases h2 : id = o
        · rw [if_pos h2, if_pos h2]
        · rw [if_neg h2, if_neg h2, if_neg h2]
  rw [e] at hid
  simp only [updo]
  split
  · rename_i h2; rw [if_pos h2] at hid; exact hid
  · rename_i h2; rw [if_neg h2] at hid; exact h id ob hid

theorem OkB.set {bl : List Blk} (h : OkB bl) {k : Nat} {b b' : Blk} (hk : bl[k]? = some b) (hc : b'.code = b.code) : OkB (bl.set k b') := by
  intro x hx
  rcases List.mem_or_eq_of_mem_set hx with hx | rfl
  · exact h x hx
  · rw [hc]; exact h b (List.mem_of_getElem? hk)

/-- The contract of a method of a lowering. -/
def LCall (P : Program) (f : FuncId) (vs : List AV) (md : Hs) (bl : List Blk) (cur : Int) (F Fp : AV → List Blk → Int → Prop) : Prop :=
  ACall P f (.ptr 0 0 :: vs) (lowHp md 2 bl cur) (3 + bl.length) md.np (fun r hp' => ∃ bl' cur', F r bl' cur' ∧ r.clo = true ∧ OkB bl' ∧ bl'.length ≤ 500000 ∧ hp' = lowHp md 2 bl' cur')
    (fun x hp' => ∃ bl' cur', Fp x bl' cur' ∧ x.clo = true ∧ OkB bl' ∧ bl'.length ≤ 500000 ∧ hp' = lowHp md 2 bl' cur')

def low2 (o : Nat) (j : Nat) : Nat := if j < 2 then j else o + (j - 2)

theorem low2_obj {md : Hs} {o : Nat} {bl : List Blk} {cur : Int} {j : Nat} {ob : AObj} {m : Nat → Nat} (ho : 2 ≤ o) (hb : OkB bl) (hm : OkM md) (hmj : ∀ j, (j = 1 → md.np = 2) → m j = low2 o j) (h : lowHp md 2 bl cur j = some ob) : lowHp md o bl cur (m j) = some (ob.ren m) := by
  rcases lowHp_cases (Nat.le_refl 2) h with ⟨rfl, rfl⟩ | ⟨rfl, ho1⟩ | ⟨rfl, rfl⟩ | ⟨k, b, rfl, hk, h1, h2, rfl⟩
  · rw [show m 0 = 0 from hmj 0 (by simp)]
    show some _ = some (AObj.cells (AV.renL m (md.cs cur 2)))
    rw [hm.ren m cur 2 (fun h2 => hmj 1 (fun _ => h2)), show m 2 = o from hmj 2 (by simp)]
  · rw [show m 1 = 1 from hmj 1 (fun _ => (hm.ob _ ho1).1), (hm.ob _ ho1).2.1 m]; exact ho1
  · rw [show m 2 = o from hmj 2 (by simp)]
    unfold lowHp
    rw [if_neg (by omega), if_neg (by omega), if_pos rfl]
    simp only [AObj.ren]
    rw [blksAV_ren' m bl (2 + 1) (o + 1) (fun k hk => by rw [hmj _ (by omega)]; unfold low2; rw [if_neg (by omega)]; omega)]
  · rw [show m (2 + 1 + k) = o + 1 + k by rw [hmj _ (by omega)]; unfold low2; rw [if_neg (by omega)]; omega, code_clo_ren m (hb b (List.mem_of_getElem? h1))]
    unfold lowHp
    rw [if_neg (by omega), if_neg (by omega), if_neg (by omega), if_pos (by omega), show o + 1 + k - o - 1 = k by omega]
    unfold codeObj
    rw [h1]
    simp only
    rw [if_neg h2]

theorem low2_onto {md : Hs} {o : Nat} {bl : List Blk} {cur : Int} {id : Nat} {ob : AObj} (ho : 2 ≤ o) (h : lowHp md o bl cur id = some ob) : ∃ j ob', lowHp md 2 bl cur j = some ob' ∧ low2 o j = id := by
  rcases lowHp_cases ho h with ⟨rfl, rfl⟩ | ⟨rfl, ho1⟩ | ⟨rfl, rfl⟩ | ⟨k, b, rfl, hk, h1, h2, rfl⟩
  · exact ⟨0, _, rfl, rfl⟩
  · exact ⟨1, _, ho1, rfl⟩
  · exact ⟨2, _, rfl, by simp [low2]⟩
  · refine ⟨3 + k, .row 7 b.code, ?_, ?_⟩
    · unfold lowHp
      rw [if_neg (by omega), if_neg (by omega), if_neg (by omega), if_pos (by omega), show 3 + k - 2 - 1 = k by omega]
      unfold codeObj
      rw [h1]
      simp only
      rw [if_neg h2]
    · unfold low2
      rw [if_neg (by omega)]; omega

variable {P : Program} {E : En} {Q : AEx → St → Prop} {σ : St}

theorem LCall.use {f : FuncId} {vs : List AV} {md : Hs} {bl : List Blk} {cur : Int} {F Fp : AV → List Blk → Int → Prop} (hA : LCall P f vs md bl cur F Fp) (hvs : AV.cloL vs = true) (hm : OkM md) (hb : OkB bl) {o : Nat} (ho : 2 ≤ o) (hσ : LowIn σ.hp md o bl cur)
    {k : Nat} {d : Option Nat} {K : St → Prop} {Kp : AV → St → Prop} (hnx : 2 ≤ σ.nx)
    (hK : ∀ r bl' cur' σ', F r bl' cur' → r.clo = true → OkB bl' → bl'.length ≤ 500000 → σ'.nx = σ.nx → σ'.fr = (σ.put d r).fr → LowIn σ'.hp md (σ.nx + 1048576 * k + (2 - md.np)) bl' cur' → (∀ id ob, σ.hp id = some ob → lowHp md o bl cur id = none → σ'.hp id = some ob) → K σ')
    (hKp : ∀ x bl' cur' σ', Fp x bl' cur' → x.clo = true → OkB bl' → bl'.length ≤ 500000 → σ'.nx = σ.nx → σ'.fr = σ.fr → LowIn σ'.hp md (σ.nx + 1048576 * k + (2 - md.np)) bl' cur' → (∀ id ob, σ.hp id = some ob → lowHp md o bl cur id = none → σ'.hp id = some ob) → Kp x σ') :
    CallB P f (.ptr 0 0 :: vs) σ k d K Kp := by
  have hback : ∀ j, (j = 1 → md.np = 2) → backM (low2 o) md.np (σ.nx + 1048576 * k) j = low2 (σ.nx + 1048576 * k + (2 - md.np)) j := by
    intro j hj
    unfold backM low2
    rcases hm.np with h2 | ⟨h2, _⟩
    · rw [h2]
      by_cases h : j = 0
      · simp [h]
      · have : j ≠ 1 := fun e => by have := hj e; omega
        rw [if_neg (by omega), if_neg (by omega)]; omega
    · rw [h2]
      by_cases h : j < 2
      · simp [h]
      · simp [h]
  have hlow : ∀ σ' bl' cur' r, OkB bl' → Back σ σ' (low2 o) (lowHp md 2 bl cur) md.np (σ.nx + 1048576 * k) d r (lowHp md 2 bl' cur') → LowIn σ'.hp md (σ.nx + 1048576 * k + (2 - md.np)) bl' cur' ∧ (∀ id ob, σ.hp id = some ob → lowHp md o bl cur id = none → σ'.hp id = some ob) := by
    intro σ' bl' cur' r hb' hB
    refine ⟨fun id ob hid => ?_, fun id ob h1 h2 => hB.old id ob h1 fun j hj e => ?_⟩
    · obtain ⟨j, ob', h1, h2⟩ := low2_onto (by omega) hid
      have h3 := hB.obj j ob' h1
      have hj1 : j = 1 → md.np = 2 := by
        rintro rfl
        exact (hm.ob ob' (by simpa [lowHp] using h1)).1
      have h4 := low2_obj (o := σ.nx + 1048576 * k + (2 - md.np)) (by omega) hb' hm hback h1
      rw [hback j hj1, h2] at h3 h4
      rw [hid] at h4
      rw [h3, Option.some.inj h4]
    · cases ho' : lowHp md 2 bl cur j with
      | none => exact hj ho'
      | some ob' =>
        have := low2_obj (o := o) ho hb hm (m := low2 o) (fun _ _ => rfl) ho'
        rw [e, h2] at this
        cases this
  refine CallB.of_A hA (low2 o) ?_ ?_ ?_ ?_ ?_ ?_ ?_ ?_ ?_
  · simp only [AV.renL, AV.ren, renL_clo _ _ hvs]; rfl
  · exact ⟨show 0 < _ by omega, idsL_clo _ _ hvs⟩
  · intro id ob hid
    have h1 := lowHp_lt (Nat.le_refl 2) hb hm hid
    exact ⟨hσ _ _ (low2_obj ho hb hm (fun _ _ => rfl) hid), h1⟩
  · intro id id' o1 o2 _ _ e
    unfold low2 at e
    split at e <;> split at e <;> omega
  · intro id hid
    rcases hm.np with h2 | ⟨h2, h3⟩
    · obtain rfl : id = 0 := by omega
      exact ⟨by omega, by simp [lowHp]⟩
    · have : id = 0 ∨ id = 1 := by omega
      rcases this with rfl | rfl
      · exact ⟨by omega, by simp [lowHp]⟩
      · exact ⟨by omega, by simpa [lowHp] using h3⟩
  · rintro r hp' ⟨bl', cur', h1, h2, h3, h4, rfl⟩
    refine ⟨ids_clo _ _ h2, fun id ob hid => ?_⟩
    have h5 := lowHp_lt (Nat.le_refl 2) h3 hm hid
    have := hm.np
    exact ⟨by omega, objids_mono _ (fun i hi => by omega) h5.2⟩
  · rintro r hp' ⟨bl', cur', h1, h2, h3, h4, rfl⟩
    refine ⟨ids_clo _ _ h2, fun id ob hid => ?_⟩
    have h5 := lowHp_lt (Nat.le_refl 2) h3 hm hid
    have := hm.np
    exact ⟨by omega, objids_mono _ (fun i hi => by omega) h5.2⟩
  · rintro r hp' σ' ⟨bl', cur', h1, h2, h3, h4, rfl⟩ hB
    have h5 := hlow σ' bl' cur' _ h3 hB
    exact hK r bl' cur' σ' h1 h2 h3 h4 hB.nx (by rw [hB.fr]; simp only [ren_clo _ r h2]) h5.1 h5.2
  · rintro r hp' σ' ⟨bl', cur', h1, h2, h3, h4, rfl⟩ hB
    have h5 := hlow σ' bl' cur' _ h3 hB
    rw [ren_clo _ r h2]
    exact hKp r bl' cur' σ' h1 h2 h3 h4 hB.nx hB.fr h5.1 h5.2

/-- Some objects laid on others. -/
def hpOn : List (Nat × AObj) → (Nat → Option AObj) → Nat → Option AObj
  | [], h => h
  | (i, o) :: l, h => updo (hpOn l h) i (some o)

/-- The state of a method: known slots, known objects of its own, the memory of the lowering. -/
def lowSt (fr : List (Nat × AV)) (loc : List (Nat × AObj)) (md : Hs) (bl : List Blk) (cur : Int) : St := ⟨mkFr fr, hpOn loc (lowHp md 10 bl cur), 1000000⟩

def lowM (q : Nat → Nat) (base : Nat) (id : Nat) : Nat := if id < 2 then id else if id < 10 then q id else base + (id - 10)

theorem mkFr_mem {fr : List (Nat × AV)} {t : Nat} {x : AV} (h : mkFr fr t = some x) : (t, x) ∈ fr := by
  induction fr with
  | nil => cases h
  | cons p fr ih =>
    obtain ⟨t', x'⟩ := p
    simp only [mkFr, upd] at h
    split at h
    · rename_i e; cases h; simp [e]
    · exact List.mem_cons_of_mem _ (ih h)

theorem hpOn_mem {loc : List (Nat × AObj)} {hp : Nat → Option AObj} {i : Nat} {x : AObj} (h : hpOn loc hp i = some x) : (i, x) ∈ loc ∨ hp i = some x := by
  induction loc with
  | nil => exact .inr h
  | cons p loc ih =>
    obtain ⟨t', x'⟩ := p
    simp only [hpOn, updo] at h
    split at h
    · rename_i e; cases h; simp [e]
    · exact (ih h).imp (List.mem_cons_of_mem _) (fun h => h)

theorem lowM_obj {md : Hs} {o : Nat} {bl : List Blk} {cur : Int} {j : Nat} {ob : AObj} {m : Nat → Nat} (ho : 2 ≤ o) (hb : OkB bl) (hm : OkM md) (m0 : m 0 = 0) (m1 : m 1 = 1) (hmj : ∀ k, m (10 + k) = o + k) (h : lowHp md 10 bl cur j = some ob) : lowHp md o bl cur (m j) = some (ob.ren m) := by
  rcases lowHp_cases (by omega) h with ⟨rfl, rfl⟩ | ⟨rfl, ho1⟩ | ⟨rfl, rfl⟩ | ⟨k, b, rfl, hk, h1, h2, rfl⟩
  · rw [m0]
    show some _ = some (AObj.cells (AV.renL m (md.cs cur 10)))
    rw [hm.ren m cur 10 (fun _ => m1), show m 10 = o from hmj 0]
  · rw [m1, (hm.ob _ ho1).2.1 m]; exact ho1
  · rw [show m 10 = o from hmj 0]
    unfold lowHp
    rw [if_neg (by omega), if_neg (by omega), if_pos rfl]
    simp only [AObj.ren]
    rw [blksAV_ren' m bl (10 + 1) (o + 1) (fun k hk => by rw [show 10 + 1 + k = 10 + (1 + k) by omega, hmj]; omega)]
  · rw [show m (10 + 1 + k) = o + 1 + k by rw [show 10 + 1 + k = 10 + (1 + k) by omega, hmj]; omega, code_clo_ren m (hb b (List.mem_of_getElem? h1))]
    unfold lowHp
    rw [if_neg (by omega), if_neg (by omega), if_neg (by omega), if_pos (by omega), show o + 1 + k - o - 1 = k by omega]
    unfold codeObj
    rw [h1]
    simp only
    rw [if_neg h2]

/-- What is known can be brought into the form of a method's state. -/
theorem ent_low {fr : List (Nat × AV)} {loc : List (Nat × AObj)} {md : Hs} {bl : List Blk} {cur : Int} {base : Nat} (q : Nat → Nat) (hb : OkB bl) (hlen : bl.length ≤ 500000) (hm : OkM md) (hbase : 2 ≤ base) (hl : LowIn σ.hp md base bl cur)
    (h1 : ∀ p, p ∈ fr → σ.fr p.1 = some (p.2.ren (lowM q base)) ∧ p.2.ids (· < 1000000))
    (h2 : ∀ p, p ∈ loc → 2 ≤ p.1 ∧ p.1 < 10 ∧ σ.hp (q p.1) = some (p.2.ren (lowM q base)) ∧ p.2.ids (· < 1000000) ∧ lowHp md base bl cur (q p.1) = none) (h3 : loc.Pairwise fun a b => q a.1 ≠ q b.1) :
    Ent md.np (lowM q base) σ (lowSt fr loc md bl cur) := by
  have m0 : lowM q base 0 = 0 := rfl
  have m1 : lowM q base 1 = 1 := rfl
  have mk : ∀ k, lowM q base (10 + k) = base + k := by
    intro k
    unfold lowM
    rw [if_neg (by omega), if_neg (by omega)]; omega
  refine ⟨fun t x hx => h1 _ (mkFr_mem hx), fun id o ho => ?_, fun id id' o o' ho ho' he => ?_, fun id hid => ⟨?_, ?_⟩⟩
  · rcases hpOn_mem ho with h | h
    · have g := h2 _ h
      have e : lowM q base id = q id := by
        unfold lowM
        rw [if_neg (by have := g.1; simp only at this; omega), if_pos g.2.1]
      rw [e]
      exact ⟨g.2.2.1, by have := g.2.1; show id < 1000000; simp only at this; omega, g.2.2.2.1⟩
    · have g := lowHp_lt (by omega) hb hm h
      exact ⟨hl _ _ (lowM_obj hbase hb hm m0 m1 mk h), by show id < 1000000; omega, objids_mono _ (fun i hi => by show i < 1000000; omega) g.2⟩
  · have key : ∀ {i o}, (i, o) ∈ loc → lowM q base i = q i := by
      intro i o h
      have g := h2 _ h
      simp only at g
      unfold lowM
      rw [if_neg (by omega), if_pos g.2.1]
    have mix : ∀ {i o j ob}, (i, o) ∈ loc → lowHp md 10 bl cur j = some ob → lowM q base i = lowM q base j → False := by
      intro i o j ob h g e
      rw [key h] at e
      have g2 := lowM_obj (m := lowM q base) hbase hb hm m0 m1 mk g
      rw [← e, (h2 _ h).2.2.2.2] at g2
      cases g2
    rcases hpOn_mem ho with h | h <;> rcases hpOn_mem ho' with h' | h'
    · by_cases e : id = id'
      · exact e
      · exfalso
        rw [key h, key h'] at he
        have pw : ∀ (l : List (Nat × AObj)), l.Pairwise (fun a b => q a.1 ≠ q b.1) → (id, o) ∈ l → (id', o') ∈ l → False := by
          intro l
          induction l with
          | nil => intro _ h; cases h
          | cons p l ih =>
            intro hp g g'
            rw [List.pairwise_cons] at hp
            rcases List.mem_cons.1 g with e1 | g1 <;> rcases List.mem_cons.1 g' with e2 | g2
            · rw [← e1] at e2; exact e (congrArg Prod.fst e2).symm
            · have := hp.1 _ g2; rw [← e1] at this; exact this he
            · have := hp.1 _ g1; rw [← e2] at this; exact this he.symm
            · exact ih hp.2 g1 g2
        exact pw loc h3 h h'
    · exact (mix h h' he).elim
    · exact (mix h' h he.symm).elim
    · have f1 : id < 2 ∨ 10 ≤ id := by rcases lowHp_cases (by omega) h with ⟨e1, _⟩ | ⟨e1, _⟩ | ⟨e1, _⟩ | ⟨k, b, e1, _⟩ <;> omega
      have f2 : id' < 2 ∨ 10 ≤ id' := by rcases lowHp_cases (by omega) h' with ⟨e1, _⟩ | ⟨e1, _⟩ | ⟨e1, _⟩ | ⟨k, b, e1, _⟩ <;> omega
      have g : ∀ i, 10 ≤ i → lowM q base i = base + (i - 10) := by
        intro i hi; unfold lowM; rw [if_neg (by omega), if_neg (by omega)]
      have g2 : ∀ i, i < 2 → lowM q base i = i := by
        intro i hi; unfold lowM; rw [if_pos hi]
      rcases f1 with f1 | f1 <;> rcases f2 with f2 | f2
      · rw [g2 _ f1, g2 _ f2] at he; exact he
      · rw [g2 _ f1, g _ f2] at he; omega
      · rw [g _ f1, g2 _ f2] at he; omega
      · rw [g _ f1, g _ f2] at he; omega
  · have := hm.np; unfold lowM; rw [if_pos (by omega)]
  · have := hm.np; show id < 1000000; omega

theorem ACall.of_body' {f : FuncId} {fn : Func} {c : Code} {vs : List AV} {hp : Nat → Option AObj} {nx np : Nat} {R Rp : AV → (Nat → Option AObj) → Prop} (hf : P.funcs[f]? = some fn) (hfn : isFn P f = true) (hb : fn.body = some c) (hn : vs.length ≤ fn.ntmps)
    (h : ∀ (E : En) (Q : AEx → St → Prop), E.nt = fn.ntmps → E.np = np → (∀ σ, (∃ r m hc nc, resA P fn.results.toList σ = some (r.ren m) ∧ r.ids (· < nc) ∧ Ent np m σ ⟨fun _ => none, hc, nc⟩ ∧ R r hc) → Q .ret σ ∧ Q .norm σ) →
      (∀ x σ, (∃ y m hc nc, x = y.ren m ∧ y.ids (· < nc) ∧ Ent np m σ ⟨fun _ => none, hc, nc⟩ ∧ Rp y hc) → Q (.pan x) σ) → AW P E c Q ⟨mkPar 0 vs, hp, nx⟩) : ACall P f vs hp nx np R Rp := by
  refine ⟨hfn, fun ρ V Z w args hh hnp hnx hsz hrel => ?_⟩
  have hsat := sat_start (nx := nx) hn hh hnp hsz hrel
  have hbody := h _ (fun e σ => match e with | .ret | .norm => ∃ r m hc nc, resA P fn.results.toList σ = some (r.ren m) ∧ r.ids (· < nc) ∧ Ent np m σ ⟨fun _ => none, hc, nc⟩ ∧ R r hc | .pan x => ∃ y m hc nc, x = y.ren m ∧ y.ids (· < nc) ∧ Ent np m σ ⟨fun _ => none, hc, nc⟩ ∧ Rp y hc | .exit _ => False) rfl rfl (fun σ hσ => ⟨hσ, hσ⟩) (fun x σ hσ => hσ) ρ V Z _ w hsat hnx
  refine calls_of_wp hf hb (Code.wp_mono ?_ hbody)
  rintro e a w' ⟨ρ', V', Z', σ, x, h1, h2, h3, h4⟩
  have hret : (∃ r m hc nc, resA P fn.results.toList σ = some (r.ren m) ∧ r.ids (· < nc) ∧ Ent np m σ ⟨fun _ => none, hc, nc⟩ ∧ R r hc) → a.defers = [] ∧ ∃ v, (results fn a.tmps).run P w' = .ok v w' ∧ ∃ ρ' V' Z' hp', HSat ρ' V' Z' w' hp' ∧ Ext w w' (OwnB ρ hp) ∧ (∀ id, id < np → V' id ∧ ρ' id = ρ id) ∧ (∀ b o, Z b o → Z' b o) ∧
      (∀ b o, Z' b o → Z b o ∨ w.heap.size ≤ b ∨ OwnB ρ hp b) ∧ (∀ id o b, hp' id = some o → (ρ' id).at b → b < w.heap.size → OwnB ρ hp b) ∧
      ((∃ u r, Ending.returned v = .returned u ∧ Rel ρ' V' Z' w' u r ∧ R r hp') ∨ ∃ u x, Ending.returned v = .panicked [{ v := u, recovered := false }] ∧ Rel ρ' V' Z' w' u x ∧ Rp x hp') := by
    rintro ⟨r, m, hc, nc, hr, hid, he, hR⟩
    obtain ⟨v, hv1, hv2⟩ := results_run h3 hr
    have h5 := h3.ent he
    exact ⟨h3.df, v, hv1, _, _, Z', hc, h5.hs, h5.ext, h5.pn, h5.z0, h5.zn, h5.ownd, .inl ⟨v, r, rfl, rel_ren m r v hid hv2, hR⟩⟩
  cases e <;> cases x <;> simp only [ExR] at h1
  · exact hret h2
  · exact h2.elim
  · exact hret h2
  · obtain ⟨v, rfl, hv⟩ := h1
    obtain ⟨y, m, hc, nc, rfl, hid, he, hR⟩ := h2
    have h5 := h3.ent he
    exact ⟨h3.df, _, _, Z', hc, h5.hs, h5.ext, h5.pn, h5.z0, h5.zn, h5.ownd, .inr ⟨v, y, rfl, rel_ren m y v hid hv, hR⟩⟩

theorem ent_out {md : Hs} {bl : List Blk} {cur : Int} {base : Nat} (hb : OkB bl) (hm : OkM md) (hbase : 2 ≤ base) (hl : LowIn σ.hp md base bl cur) : Ent md.np (low2 base) σ ⟨fun _ => none, lowHp md 2 bl cur, 3 + bl.length⟩ := by
  refine ⟨fun t x hx => (by cases hx), fun id o ho => ?_, fun id id' o o' ho ho' he => ?_, fun id hid => ⟨?_, ?_⟩⟩
  · have g := lowHp_lt (Nat.le_refl 2) hb hm ho
    exact ⟨hl _ _ (low2_obj hbase hb hm (fun _ _ => rfl) ho), by show id < 3 + bl.length; omega, objids_mono _ (fun i hi => by show i < 3 + bl.length; omega) g.2⟩
  · unfold low2 at he
    split at he <;> split at he <;> omega
  · have := hm.np; unfold low2; rw [if_pos (by omega)]
  · have := hm.np; show id < 3 + bl.length; omega

/-- The memory that a method leaves. -/
def Out (σ : St) (md : Hs) (bl : List Blk) (cur : Int) : Prop := OkB bl ∧ bl.length ≤ 500000 ∧ ∃ m, Ent md.np m σ ⟨fun _ => none, lowHp md 2 bl cur, 3 + bl.length⟩

/-- The contract of a method, out of its body. -/
theorem LCall.intro {f : FuncId} {fn : Func} {c : Code} {vs : List AV} {md : Hs} {bl : List Blk} {cur : Int} {F Fp : AV → List Blk → Int → Prop} (hf : P.funcs[f]? = some fn) (hb : fn.body = some c) (hfn : isFn P f = true) (hn : vs.length + 1 ≤ fn.ntmps) (hm : OkM md)
    (h : ∀ (E : En) (Q : AEx → St → Prop), E.nt = fn.ntmps → E.np = md.np → (∀ σ r bl' cur', resA P fn.results.toList σ = some r → F r bl' cur' → r.clo = true → Out σ md bl' cur' → Q .ret σ ∧ Q .norm σ) →
      (∀ x σ bl' cur', Fp x bl' cur' → x.clo = true → Out σ md bl' cur' → Q (.pan x) σ) → AW P E c Q ⟨mkPar 0 (.ptr 0 0 :: vs), lowHp md 2 bl cur, 3 + bl.length⟩) : LCall P f vs md bl cur F Fp := by
  refine ACall.of_body' hf hfn hb (by simpa using hn) fun E Q hE hN hQ hQp => h E Q hE hN ?_ ?_
  · rintro σ r bl' cur' h1 h2 h3 ⟨h4, h5, m, h6⟩
    exact hQ σ ⟨r, m, _, _, by rw [ren_clo _ r h3]; exact h1, ids_clo _ _ h3, h6, bl', cur', h2, h3, h4, h5, rfl⟩
  · rintro x σ bl' cur' h2 h3 ⟨h4, h5, m, h6⟩
    exact hQp x σ ⟨x, m, _, _, by rw [ren_clo _ x h3], ids_clo _ _ h3, h6, bl', cur', h2, h3, h4, h5, rfl⟩

theorem Out.of_in {md : Hs} {bl : List Blk} {cur : Int} {base : Nat} (hb : OkB bl) (hm : OkM md) (hbase : 2 ≤ base) (hl : LowIn σ.hp md base bl cur) (hlen : bl.length ≤ 500000) : Out σ md bl cur := ⟨hb, hlen, _, ent_out hb hm hbase hl⟩

theorem Out.gen {md : Hs} {bl : List Blk} {cur : Int} (m : Nat → Nat) (hb : OkB bl) (hm : OkM md) (hlen : bl.length ≤ 500000) (m0 : m 0 = 0) (m1 : m 1 = 1) (h0 : σ.hp 0 = some (.cells (md.cs cur (m 2)))) (h1 : ∀ ob, md.o1 = some ob → σ.hp 1 = some ob) (h2 : σ.hp (m 2) = some (.row 4 (AV.renL m (blksAV 3 bl))))
    (h3 : ∀ k b, bl[k]? = some b → b.code ≠ [] → σ.hp (m (3 + k)) = some (.row 7 b.code)) (inj : ∀ j j', j < 3 + bl.length → j' < 3 + bl.length → m j = m j' → j = j') : Out σ md bl cur := by
  refine ⟨hb, hlen, m, fun t x hx => (by cases hx), fun id o ho => ?_, fun id id' o o' ho ho' he => ?_, fun id hid => ⟨?_, ?_⟩⟩
  · have g := lowHp_lt (Nat.le_refl 2) hb hm ho
    refine ⟨?_, by show id < 3 + bl.length; omega, objids_mono _ (fun i hi => by show i < 3 + bl.length; omega) g.2⟩
    rcases lowHp_cases (Nat.le_refl 2) ho with ⟨rfl, rfl⟩ | ⟨rfl, ho1⟩ | ⟨rfl, rfl⟩ | ⟨k, b, rfl, hk, g1, g2, rfl⟩
    · rw [m0, h0]
      show _ = some (AObj.cells (AV.renL m (md.cs cur 2)))
      rw [hm.ren m cur 2 (fun _ => m1)]
    · rw [m1, h1 _ ho1, (hm.ob _ ho1).2.1 m]
    · exact h2
    · rw [h3 k b g1 g2, code_clo_ren m (hb b (List.mem_of_getElem? g1))]
  · exact inj _ _ (by have := (lowHp_lt (Nat.le_refl 2) hb hm ho).1; omega) (by have := (lowHp_lt (Nat.le_refl 2) hb hm ho').1; omega) he
  · have : id = 0 ∨ id = 1 := by have := hm.np; omega
    rcases this with rfl | rfl
    · exact m0
    · exact m1
  · have := hm.np; show id < 3 + bl.length; omega

/-- The blocks' row lies elsewhere. -/
theorem Out.row {md : Hs} {bl : List Blk} {cur : Int} (N : Nat) (hN : 1000000 ≤ N) (hb : OkB bl) (hm : OkM md) (hlen : bl.length ≤ 500000) (h0 : σ.hp 0 = some (.cells (md.cs cur N))) (h1 : ∀ ob, md.o1 = some ob → σ.hp 1 = some ob) (h2 : σ.hp N = some (.row 4 (blksAV 11 bl)))
    (h3 : ∀ k b, bl[k]? = some b → b.code ≠ [] → σ.hp (11 + k) = some (.row 7 b.code)) : Out σ md bl cur := by
  refine Out.gen (fun j => if j = 2 then N else if j < 2 then j else 8 + j) hb hm hlen rfl rfl h0 h1 ?_ ?_ ?_
  · refine h2.trans ?_
    rw [blksAV_ren' _ _ 3 11 (fun k hk => by rw [if_neg (by omega), if_neg (by omega)]; omega)]
  · intro k b hk hc
    rw [if_neg (by omega), if_neg (by omega), show 8 + (3 + k) = 11 + k by omega]
    exact h3 k b hk hc
  · intro j j' hj hj' he
    split at he <;> split at he <;> (try split at he) <;> (try split at he) <;> omega

@[go_sem] theorem hpOn_nil {h : Nat → Option AObj} : hpOn [] h = h := _root_.id rfl
@[go_sem] theorem hpOn_cons {i : Nat} {o : AObj} {l : List (Nat × AObj)} {h : Nat → Option AObj} : hpOn ((i, o) :: l) h = updo (hpOn l h) i (some o) := _root_.id rfl
@[go_sem] theorem lowHp_0 {md : Hs} {o : Nat} {bl : List Blk} {cur : Int} : lowHp md o bl cur 0 = some (.cells (md.cs cur o)) := _root_.id rfl
@[go_sem] theorem lowHp_1 {md : Hs} {o : Nat} {bl : List Blk} {cur : Int} : lowHp md o bl cur 1 = md.o1 := _root_.id rfl
@[go_sem] theorem lowHp_10 {md : Hs} {bl : List Blk} {cur : Int} : lowHp md 10 bl cur 10 = some (.row 4 (blksAV 11 bl)) := _root_.id rfl
@[go_sem] theorem lowSt_eq {fr : List (Nat × AV)} {loc : List (Nat × AObj)} {md : Hs} {bl : List Blk} {cur : Int} : lowSt fr loc md bl cur = ⟨mkFr fr, hpOn loc (lowHp md 10 bl cur), 1000000⟩ := _root_.id rfl

/-- Into the form of a method's state. -/
theorem K_low {c : Code} {fr : List (Nat × AV)} {loc : List (Nat × AObj)} {md : Hs} {bl : List Blk} {cur : Int} (base : Nat) (q : Nat → Nat) (hN : E.np = md.np) (hb : OkB bl) (hlen : bl.length ≤ 500000) (hm : OkM md) (hbase : 2 ≤ base) (hl : LowIn σ.hp md base bl cur)
    (h1 : ∀ p, p ∈ fr → σ.fr p.1 = some (p.2.ren (lowM q base)) ∧ p.2.ids (· < 1000000))
    (h2 : ∀ p, p ∈ loc → 2 ≤ p.1 ∧ p.1 < 10 ∧ σ.hp (q p.1) = some (p.2.ren (lowM q base)) ∧ p.2.ids (· < 1000000) ∧ lowHp md base bl cur (q p.1) = none) (h3 : loc.Pairwise fun a b => q a.1 ≠ q b.1)
    (h : AW P E c Q ⟨mkFr fr, hpOn loc (lowHp md 10 bl cur), 1000000⟩) : AW P E c Q σ :=
  AW.ent (lowM q base) (by rw [hN]; exact ent_low q hb hlen hm hbase hl h1 h2 h3) h

theorem LowIn.on {loc : List (Nat × AObj)} {md : Hs} {bl : List Blk} {cur : Int} (h : ∀ p, p ∈ loc → 2 ≤ p.1 ∧ p.1 < 10) : LowIn (hpOn loc (lowHp md 10 bl cur)) md 10 bl cur := by
  induction loc with
  | nil => exact fun _ _ h => h
  | cons p loc ih =>
    obtain ⟨i, o⟩ := p
    have g := h (i, o) (by simp)
    exact (ih fun p hp => h p (List.mem_cons_of_mem _ hp)).upd (lowHp_none g.1 (.inl g.2))

theorem Out.ins {md : Hs} {bl : List Blk} {cur : Int} {k v : Nat} {b : Blk} {x : AV} (hk : bl[k]? = some b) (hb : OkB bl) (hm : OkM md) (hx : x.clo = true) (hlen : bl.length ≤ 500000) (hv : 1000000 ≤ v)
    (h0 : σ.hp 0 = some (.cells (md.cs cur 10))) (h1 : ∀ ob, md.o1 = some ob → σ.hp 1 = some ob) (h10 : σ.hp 10 = some (.row 4 ((blksAV 11 bl).set k (.agg [.rw v, .i b.kind, .i b.a, tgAV b.tg])))) (h3 : σ.hp v = some (.row 7 (b.code ++ [x])))
    (ho : ∀ j, j ≠ k → j < bl.length → σ.hp (11 + j) = lowHp md 10 bl cur (11 + j)) : Out σ md (bl.set k ⟨b.code ++ [x], b.kind, b.a, b.tg⟩) cur := by
  have hlt : k < bl.length := (List.getElem?_eq_some_iff.1 hk).1
  have hne : b.code ++ [x] ≠ [] := by simp
  refine Out.gen (fun j => if j = 3 + k then v else if j < 2 then j else 8 + j) ?_ hm (by simpa using hlen) ?_ ?_ ?_ h1 ?_ ?_ ?_
  · intro y hy z hz
    rcases List.mem_or_eq_of_mem_set hy with hy | rfl
    · exact hb y hy z hz
    · rcases List.mem_append.1 hz with hz | hz
      · exact hb b (List.mem_of_getElem? hk) z hz
      · obtain rfl := List.mem_singleton.1 hz; exact hx
  · show (if 0 = 3 + k then v else _) = 0
    rw [if_neg (by omega)]; rfl
  · show (if 1 = 3 + k then v else _) = 1
    rw [if_neg (by omega)]; rfl
  · show σ.hp 0 = some (.cells (md.cs cur (if 2 = 3 + k then v else _)))
    rw [if_neg (by omega)]; exact h0
  · show σ.hp (if 2 = 3 + k then v else _) = _
    rw [if_neg (by omega)]
    refine h10.trans (congrArg (fun l => some (AObj.row 4 l)) ?_)
    refine List.ext_getElem? fun i => ?_
    rw [renL_eq, List.getElem?_map, blksAV_get?, List.getElem?_set, List.getElem?_set, blksAV_get?, blksAV_len]
    by_cases e : k = i
    · subst e
      rw [if_pos rfl, if_pos rfl, if_pos hlt, if_pos hlt]
      simp only [Option.map_some, blkAV_ren, blkAV, cAV, if_neg hne, if_true, AV.ren, AV.renL, ren_clo _ _ (tgAV_clo b.tg)]
    · rw [if_neg e, if_neg e]
      cases hi : bl[i]? with
      | none => rfl
      | some y =>
        simp only [Option.map_some, blkAV_ren]
        rw [if_neg (by omega), if_neg (by omega), show 8 + (3 + i) = 11 + i by omega]
  · intro j y hj hc
    by_cases e : k = j
    · subst e
      rw [List.getElem?_set_self hlt] at hj
      cases hj
      rw [if_pos rfl]; exact h3
    · rw [List.getElem?_set_ne e] at hj
      have hj2 : j < bl.length := (List.getElem?_eq_some_iff.1 hj).1
      rw [if_neg (by omega), if_neg (by omega), show 8 + (3 + j) = 11 + j by omega, ho j (Ne.symm e) hj2]
      exact lowHp_code (by omega) hj hc
  · intro j j' hj hj' he
    rw [List.length_set] at hj hj'
    split at he <;> split at he <;> (try split at he) <;> (try split at he) <;> omega

theorem CallB.nil4 {f : FuncId} {x y z v : AV} {k : Nat} {d : Option Nat} {K : St → Prop} {Kp : AV → St → Prop} (h : CallB P f [x, y, z, v, .sl []] σ k d K Kp) : CallB P f [x, y, z, v, .nilsl] σ k d K Kp := by
  refine CallB.frz (us' := [x, y, z, v, .sl []]) (σ' := σ) (fun _ => none) (fun _ _ h => by cases h) (fun t x' h => ⟨x', h, .inl rfl⟩) (fun id o' h => ⟨rfl, o', h, SnpO.refl _⟩) rfl rfl (fun i hi => ?_) h
  match i, hi with
  | 0, _ => exact .inl rfl
  | 1, _ => exact .inl rfl
  | 2, _ => exact .inl rfl
  | 3, _ => exact .inl rfl
  | 4, _ => exact .inr ⟨trivial, rfl⟩

/-- The last argument, nil, as a slice without elements. -/
theorem CallB.nil3 {f : FuncId} {x y z : AV} {k : Nat} {d : Option Nat} {K : St → Prop} {Kp : AV → St → Prop} (h : CallB P f [x, y, z, .sl []] σ k d K Kp) : CallB P f [x, y, z, .nilsl] σ k d K Kp := by
  refine CallB.frz (us' := [x, y, z, .sl []]) (σ' := σ) (fun _ => none) (fun _ _ h => by cases h) (fun t x' h => ⟨x', h, .inl rfl⟩) (fun id o' h => ⟨rfl, o', h, SnpO.refl _⟩) rfl rfl (fun i hi => ?_) h
  match i, hi with
  | 0, _ => exact .inl rfl
  | 1, _ => exact .inl rfl
  | 2, _ => exact .inl rfl
  | 3, _ => exact .inr ⟨trivial, rfl⟩

/-- The last argument, an owned row, as a slice. -/
theorem CallB.frzl {f : FuncId} (us : List AV) {id sz : Nat} {xs : List AV} {k : Nat} {d : Option Nat} {K : St → Prop} {Kp : AV → St → Prop} {fr : Nat → Option AV} {hp : Nat → Option AObj} {nx : Nat} (h : hp id = some (.row sz xs)) (hc : CloRow xs)
    (h2 : CallB P f (us ++ [.sl xs]) ⟨fr, updo hp id none, nx⟩ k d K Kp) : CallB P f (us ++ [.rw id]) ⟨fr, hp, nx⟩ k d K Kp := by
  refine CallB.frz (us' := us ++ [.sl xs]) (σ' := ⟨fr, updo hp id none, nx⟩) (fun i => if i = id then some (.row sz xs) else none) (fun i o h' => ?_) (fun t x' h' => ⟨x', h', .inl rfl⟩) (fun i o' h' => ?_) rfl (by simp) (fun i hi => ?_) h2
  · split at h'
    · rename_i e; cases h'; rw [e]; exact h
    · cases h'
  · simp only [updo] at h'
    split at h'
    · cases h'
    · rename_i e; exact ⟨if_neg e, o', h', SnpO.refl _⟩
  · rw [List.length_append, List.length_singleton] at hi
    by_cases e : i < us.length
    · have e1 : (us ++ [AV.rw id]).getD i default = us.getD i default := by simp only [List.getD_eq_getElem?_getD]; rw [List.getElem?_append_left e]
      have e2 : (us ++ [AV.sl xs]).getD i default = us.getD i default := by simp only [List.getD_eq_getElem?_getD]; rw [List.getElem?_append_left e]
      rw [e1, e2]; exact .inl rfl
    · obtain rfl : i = us.length := by omega
      have e1 : (us ++ [AV.rw id]).getD us.length default = .rw id := by simp
      have e2 : (us ++ [AV.sl xs]).getD us.length default = .sl xs := by simp
      rw [e1, e2]
      refine .inr ⟨?_, ?_⟩
      · rw [AV.snapOk]; simpa using hc
      · rw [AV.snap]; simp
theorem CallB.frz3 {f : FuncId} {x y : AV} {id sz : Nat} {xs : List AV} {k : Nat} {d : Option Nat} {K : St → Prop} {Kp : AV → St → Prop} {fr : Nat → Option AV} {hp : Nat → Option AObj} {nx : Nat} (h : hp id = some (.row sz xs)) (hc : CloRow xs)
    (h2 : CallB P f [x, y, .sl xs] ⟨fr, updo hp id none, nx⟩ k d K Kp) : CallB P f [x, y, .rw id] ⟨fr, hp, nx⟩ k d K Kp := CallB.frzl [x, y] h hc h2
theorem CallB.frz4 {f : FuncId} {x y z : AV} {id sz : Nat} {xs : List AV} {k : Nat} {d : Option Nat} {K : St → Prop} {Kp : AV → St → Prop} {fr : Nat → Option AV} {hp : Nat → Option AObj} {nx : Nat} (h : hp id = some (.row sz xs)) (hc : CloRow xs)
    (h2 : CallB P f [x, y, z, .sl xs] ⟨fr, updo hp id none, nx⟩ k d K Kp) : CallB P f [x, y, z, .rw id] ⟨fr, hp, nx⟩ k d K Kp := CallB.frzl [x, y, z] h hc h2
/-- An argument, an owned row, as a slice. -/
theorem CallB.frzm {f : FuncId} (us ws : List AV) {id sz : Nat} {xs : List AV} {k : Nat} {d : Option Nat} {K : St → Prop} {Kp : AV → St → Prop} {fr : Nat → Option AV} {hp : Nat → Option AObj} {nx : Nat} (h : hp id = some (.row sz xs)) (hc : CloRow xs)
    (h2 : CallB P f (us ++ .sl xs :: ws) ⟨fr, updo hp id none, nx⟩ k d K Kp) : CallB P f (us ++ .rw id :: ws) ⟨fr, hp, nx⟩ k d K Kp := by
  refine CallB.frz (us' := us ++ .sl xs :: ws) (σ' := ⟨fr, updo hp id none, nx⟩) (fun i => if i = id then some (.row sz xs) else none) (fun i o h' => ?_) (fun t x' h' => ⟨x', h', .inl rfl⟩) (fun i o' h' => ?_) rfl (by simp) (fun i hi => ?_) h2
  · split at h'
    · rename_i e; cases h'; rw [e]; exact h
    · cases h'
  · simp only [updo] at h'
    split at h'
    · cases h'
    · rename_i e; exact ⟨if_neg e, o', h', SnpO.refl _⟩
  · simp only [List.getD_eq_getElem?_getD]
    rcases Nat.lt_trichotomy i us.length with e | e | e
    · rw [List.getElem?_append_left e, List.getElem?_append_left e]; exact .inl rfl
    · subst e
      rw [List.getElem?_append_right (Nat.le_refl _), List.getElem?_append_right (Nat.le_refl _)]
      simp only [Nat.sub_self, List.getElem?_cons_zero, Option.getD_some]
      refine .inr ⟨?_, ?_⟩
      · rw [AV.snapOk]; simpa using hc
      · rw [AV.snap]; simp
    · rw [List.getElem?_append_right (by omega), List.getElem?_append_right (by omega)]
      obtain ⟨j, hj⟩ : ∃ j, i - us.length = j + 1 := ⟨i - us.length - 1, by omega⟩
      rw [hj, List.getElem?_cons_succ, List.getElem?_cons_succ]; exact .inl rfl
theorem CallB.frz5 {f : FuncId} {x y z v : AV} {id sz : Nat} {xs : List AV} {k : Nat} {d : Option Nat} {K : St → Prop} {Kp : AV → St → Prop} {fr : Nat → Option AV} {hp : Nat → Option AObj} {nx : Nat} (h : hp id = some (.row sz xs)) (hc : CloRow xs)
    (h2 : CallB P f [x, y, z, v, .sl xs] ⟨fr, updo hp id none, nx⟩ k d K Kp) : CallB P f [x, y, z, v, .rw id] ⟨fr, hp, nx⟩ k d K Kp := CallB.frzl [x, y, z, v] h hc h2
theorem CallB.frz32 {f : FuncId} {x z : AV} {id sz : Nat} {xs : List AV} {k : Nat} {d : Option Nat} {K : St → Prop} {Kp : AV → St → Prop} {fr : Nat → Option AV} {hp : Nat → Option AObj} {nx : Nat} (h : hp id = some (.row sz xs)) (hc : CloRow xs)
    (h2 : CallB P f [x, .sl xs, z] ⟨fr, updo hp id none, nx⟩ k d K Kp) : CallB P f [x, .rw id, z] ⟨fr, hp, nx⟩ k d K Kp := CallB.frzm [x] [z] h hc h2
theorem CloRow.all {xs : List AV} (h : ∀ x, x ∈ xs → (x.cells.all AV.clo) = true) : CloRow xs := fun x hx c hc => List.all_eq_true.1 (h x hx) c hc

theorem ints_clo (l : List Int) : AV.cloL (l.map AV.i) = true := cloL_eq _ (fun x hx => by obtain ⟨n, _, rfl⟩ := List.mem_map.1 hx; rfl)
theorem rowi_ren (m : Nat → Nat) (l : List Int) : (AObj.row 1 (l.map AV.i)).ren m = .row 1 (l.map AV.i) := by simp only [AObj.ren, renL_clo m _ (ints_clo l)]
theorem rowi_ids (p : Nat → Prop) (l : List Int) : (AObj.row 1 (l.map AV.i)).ids p := idsL_clo p _ (ints_clo l)

/-- The lowering of the program, with its methods. -/
def hsL (md : List (AV × AV)) : Hs := ⟨2, some (.map md), fun cur o => [.rw o, .i cur, .mp 1]⟩
/-- The lowering of the reference. -/
def hsR : Hs := ⟨1, none, fun _ o => [.rw o]⟩
theorem okL {md : List (AV × AV)} (h : ∀ p, p ∈ md → p.1.clo = true ∧ p.2.clo = true) : OkM (hsL md) :=
  ⟨.inr ⟨rfl, by simp [hsL]⟩, fun ob ho => by cases ho; exact ⟨rfl, fun m => map_clo_ren m h, fun p q hq => ⟨ids_clo _ _ (h q hq).1, ids_clo _ _ (h q hq).2⟩⟩,
    fun m cur o h1 => by simp only [hsL, AV.renL, AV.ren, h1 rfl], fun p cur o h1 h2 => ⟨h1, trivial, h2, trivial⟩⟩
theorem okR : OkM hsR := ⟨.inl rfl, fun ob ho => (by cases ho), fun m cur o h1 => (by simp only [hsR, AV.renL, AV.ren]), fun p cur o h1 h2 => ⟨h1, trivial⟩⟩
@[go_sem] theorem hsL_cs {md : List (AV × AV)} {cur : Int} {o : Nat} : (hsL md).cs cur o = [.rw o, .i cur, .mp 1] := _root_.id rfl
@[go_sem] theorem hsL_o1 {md : List (AV × AV)} : (hsL md).o1 = some (.map md) := _root_.id rfl
@[go_sem] theorem hsR_cs {cur : Int} {o : Nat} : hsR.cs cur o = [.rw o] := _root_.id rfl

/-- A memory that holds that of a lowering, but for its struct. -/
def LowB (hp : Nat → Option AObj) (md : Hs) (o : Nat) (bl : List Blk) : Prop := ∀ id ob, id ≠ 0 → lowHp md o bl 0 id = some ob → hp id = some ob
theorem LowB.base {md : Hs} {o : Nat} {bl : List Blk} {cur : Int} : LowB (lowHp md o bl cur) md o bl := fun id ob h0 h => by rw [lowHp_cur h0 (cur' := 0)]; exact h
theorem LowB.upd {hp : Nat → Option AObj} {md : Hs} {o : Nat} {bl : List Blk} {i : Nat} {x : Option AObj} (h : LowB hp md o bl) (hi : lowHp md o bl 0 i = none) : LowB (updo hp i x) md o bl := by
  intro id ob h0 hid
  simp only [updo]
  split
  · rename_i e; rw [e, hi] at hid; cases hid
  · exact h id ob h0 hid
theorem LowIn.curL {hp : Nat → Option AObj} {md : List (AV × AV)} {o : Nat} {bl : List Blk} {x : Int} (h : LowB hp (hsL md) o bl) : LowIn (updo hp 0 (some (.cells [.rw o, .i x, .mp 1]))) (hsL md) o bl x := by
  intro id ob hid
  simp only [updo]
  split
  · rename_i e; subst e; exact hid
  · rename_i e; exact h id ob e (by rw [lowHp_cur e (cur' := x)]; exact hid)

end Go.Low
