/- A part of the proof: an abstract machine for the walks, and what the walked functions compute. -/
import Derived.Test.YtdheeecpkkjfiaaProg
import Derived.KernelRfl
import Derived.Test.YtdheeecpkkjfiaaAae
set_option linter.unusedVariables false
set_option linter.unusedSimpArgs false
/- The types of the program, as the abstract machine asks for them; which numbers are Go functions with a body. -/
set_option maxRecDepth 100000
namespace Go.Proofs.Ytdheeecpkkjfiaa
open Go.Am
theorem ti0 : ti Try.prog 0 = some ⟨TK.other, 1, 0, none⟩ := by kernel_rfl
theorem ti1 : ti Try.prog 1 = some ⟨TK.func, 1, 8, some [AV.nilfn]⟩ := by kernel_rfl
theorem ti2 : ti Try.prog 2 = some ⟨TK.int IntKind.i64, 1, 8, some [AV.int IntKind.i64 (0)]⟩ := by kernel_rfl
theorem ti3 : ti Try.prog 3 = some ⟨TK.int IntKind.i64, 1, 8, some [AV.int IntKind.i64 (0)]⟩ := by kernel_rfl
theorem ti4 : ti Try.prog 4 = some ⟨TK.bool, 1, 1, some [AV.bool false]⟩ := by kernel_rfl
theorem ti5 : ti Try.prog 5 = some ⟨TK.int IntKind.u8, 1, 1, some [AV.int IntKind.u8 (0)]⟩ := by kernel_rfl
theorem ti6 : ti Try.prog 6 = some ⟨TK.int IntKind.u8, 1, 1, some [AV.int IntKind.u8 (0)]⟩ := by kernel_rfl
theorem ti7 : ti Try.prog 7 = some ⟨TK.struct [(2, 0), (3, 1), (4, 2), (6, 3)], 4, 24, some [AV.int IntKind.i64 (0), AV.int IntKind.i64 (0), AV.bool false, AV.int IntKind.u8 (0)]⟩ := by kernel_rfl
theorem ti8 : ti Try.prog 8 = some ⟨TK.struct [(2, 0), (3, 1), (4, 2), (6, 3)], 4, 24, some [AV.int IntKind.i64 (0), AV.int IntKind.i64 (0), AV.bool false, AV.int IntKind.u8 (0)]⟩ := by kernel_rfl
theorem ti9 : ti Try.prog 9 = some ⟨TK.str, 1, 16, some [AV.str ⟨#[]⟩]⟩ := by kernel_rfl
theorem ti10 : ti Try.prog 10 = some ⟨TK.str, 1, 16, some [AV.str ⟨#[]⟩]⟩ := by kernel_rfl
theorem ti11 : ti Try.prog 11 = some ⟨TK.str, 1, 16, some [AV.str ⟨#[]⟩]⟩ := by kernel_rfl
theorem ti12 : ti Try.prog 12 = some ⟨TK.int IntKind.u64, 1, 8, some [AV.int IntKind.u64 (0)]⟩ := by kernel_rfl
theorem ti13 : ti Try.prog 13 = some ⟨TK.struct [(9, 0), (12, 1)], 2, 24, some [AV.str ⟨#[]⟩, AV.int IntKind.u64 (0)]⟩ := by kernel_rfl
theorem ti14 : ti Try.prog 14 = some ⟨TK.struct [(9, 0), (12, 1)], 2, 24, some [AV.str ⟨#[]⟩, AV.int IntKind.u64 (0)]⟩ := by kernel_rfl
theorem ti15 : ti Try.prog 15 = some ⟨TK.ptr, 1, 8, some [AV.nilp]⟩ := by kernel_rfl
theorem ti16 : ti Try.prog 16 = some ⟨TK.ptr, 1, 8, some [AV.nilp]⟩ := by kernel_rfl
theorem ti17 : ti Try.prog 17 = some ⟨TK.ptr, 1, 8, some [AV.nilp]⟩ := by kernel_rfl
theorem ti18 : ti Try.prog 18 = some ⟨TK.struct [(17, 0)], 1, 8, some [AV.nilp]⟩ := by kernel_rfl
theorem ti19 : ti Try.prog 19 = some ⟨TK.struct [(17, 0)], 1, 8, some [AV.nilp]⟩ := by kernel_rfl
theorem ti20 : ti Try.prog 20 = some ⟨TK.iface, 1, 16, some [AV.nilif]⟩ := by kernel_rfl
theorem ti21 : ti Try.prog 21 = some ⟨TK.int IntKind.i32, 1, 4, some [AV.int IntKind.i32 (0)]⟩ := by kernel_rfl
theorem ti22 : ti Try.prog 22 = some ⟨TK.slice 89, 1, 24, some [AV.nilsl]⟩ := by kernel_rfl
theorem ti23 : ti Try.prog 23 = some ⟨TK.slice 61, 1, 24, some [AV.nilsl]⟩ := by kernel_rfl
theorem ti24 : ti Try.prog 24 = some ⟨TK.struct [(22, 0), (23, 1)], 2, 48, some [AV.nilsl, AV.nilsl]⟩ := by kernel_rfl
theorem ti25 : ti Try.prog 25 = some ⟨TK.struct [(22, 0), (23, 1)], 2, 48, some [AV.nilsl, AV.nilsl]⟩ := by kernel_rfl
theorem ti26 : ti Try.prog 26 = some ⟨TK.func, 1, 8, some [AV.nilfn]⟩ := by kernel_rfl
theorem ti27 : ti Try.prog 27 = some ⟨TK.func, 1, 8, some [AV.nilfn]⟩ := by kernel_rfl
theorem ti28 : ti Try.prog 28 = some ⟨TK.slice 51, 1, 24, some [AV.nilsl]⟩ := by kernel_rfl
theorem ti29 : ti Try.prog 29 = some ⟨TK.int IntKind.i64, 1, 8, some [AV.int IntKind.i64 (0)]⟩ := by kernel_rfl
theorem ti30 : ti Try.prog 30 = some ⟨TK.other, 1, 0, none⟩ := by kernel_rfl
theorem ti31 : ti Try.prog 31 = some ⟨TK.func, 1, 8, some [AV.nilfn]⟩ := by kernel_rfl
theorem ti32 : ti Try.prog 32 = some ⟨TK.func, 1, 8, some [AV.nilfn]⟩ := by kernel_rfl
theorem ti33 : ti Try.prog 33 = some ⟨TK.slice 5, 1, 24, some [AV.nilsl]⟩ := by kernel_rfl
theorem ti34 : ti Try.prog 34 = some ⟨TK.ptr, 1, 8, some [AV.nilp]⟩ := by kernel_rfl
theorem ti35 : ti Try.prog 35 = some ⟨TK.slice 44, 1, 24, some [AV.nilsl]⟩ := by kernel_rfl
theorem ti36 : ti Try.prog 36 = some ⟨TK.struct [(33, 0), (3, 1), (35, 2), (4, 3)], 4, 64, some [AV.nilsl, AV.int IntKind.i64 (0), AV.nilsl, AV.bool false]⟩ := by kernel_rfl
theorem ti37 : ti Try.prog 37 = some ⟨TK.struct [(33, 0), (3, 1), (35, 2), (4, 3)], 4, 64, some [AV.nilsl, AV.int IntKind.i64 (0), AV.nilsl, AV.bool false]⟩ := by kernel_rfl
theorem ti38 : ti Try.prog 38 = some ⟨TK.func, 1, 8, some [AV.nilfn]⟩ := by kernel_rfl
theorem ti39 : ti Try.prog 39 = some ⟨TK.func, 1, 8, some [AV.nilfn]⟩ := by kernel_rfl
theorem ti40 : ti Try.prog 40 = some ⟨TK.slice 3, 1, 24, some [AV.nilsl]⟩ := by kernel_rfl
theorem ti41 : ti Try.prog 41 = some ⟨TK.struct [(3, 0), (3, 1), (3, 2), (3, 3), (3, 4), (40, 5), (22, 6)], 7, 88, some [AV.int IntKind.i64 (0), AV.int IntKind.i64 (0), AV.int IntKind.i64 (0), AV.int IntKind.i64 (0), AV.int IntKind.i64 (0), AV.nilsl, AV.nilsl]⟩ := by kernel_rfl
theorem ti42 : ti Try.prog 42 = some ⟨TK.struct [(3, 0), (3, 1), (3, 2), (3, 3), (3, 4), (40, 5), (22, 6)], 7, 88, some [AV.int IntKind.i64 (0), AV.int IntKind.i64 (0), AV.int IntKind.i64 (0), AV.int IntKind.i64 (0), AV.int IntKind.i64 (0), AV.nilsl, AV.nilsl]⟩ := by kernel_rfl
theorem ti43 : ti Try.prog 43 = some ⟨TK.struct [(42, 0), (3, 7), (3, 8)], 9, 104, some [AV.int IntKind.i64 (0), AV.int IntKind.i64 (0), AV.int IntKind.i64 (0), AV.int IntKind.i64 (0), AV.int IntKind.i64 (0), AV.nilsl, AV.nilsl, AV.int IntKind.i64 (0), AV.int IntKind.i64 (0)]⟩ := by kernel_rfl
theorem ti44 : ti Try.prog 44 = some ⟨TK.struct [(42, 0), (3, 7), (3, 8)], 9, 104, some [AV.int IntKind.i64 (0), AV.int IntKind.i64 (0), AV.int IntKind.i64 (0), AV.int IntKind.i64 (0), AV.int IntKind.i64 (0), AV.nilsl, AV.nilsl, AV.int IntKind.i64 (0), AV.int IntKind.i64 (0)]⟩ := by kernel_rfl
theorem ti45 : ti Try.prog 45 = some ⟨TK.func, 1, 8, some [AV.nilfn]⟩ := by kernel_rfl
theorem ti46 : ti Try.prog 46 = some ⟨TK.func, 1, 8, some [AV.nilfn]⟩ := by kernel_rfl
theorem ti47 : ti Try.prog 47 = some ⟨TK.struct [(3, 0), (3, 1), (40, 2)], 3, 40, some [AV.int IntKind.i64 (0), AV.int IntKind.i64 (0), AV.nilsl]⟩ := by kernel_rfl
theorem ti48 : ti Try.prog 48 = some ⟨TK.struct [(3, 0), (3, 1), (40, 2)], 3, 40, some [AV.int IntKind.i64 (0), AV.int IntKind.i64 (0), AV.nilsl]⟩ := by kernel_rfl
theorem ti49 : ti Try.prog 49 = some ⟨TK.slice 42, 1, 24, some [AV.nilsl]⟩ := by kernel_rfl
theorem ti50 : ti Try.prog 50 = some ⟨TK.struct [(49, 0), (48, 1)], 4, 64, some [AV.nilsl, AV.int IntKind.i64 (0), AV.int IntKind.i64 (0), AV.nilsl]⟩ := by kernel_rfl
theorem ti51 : ti Try.prog 51 = some ⟨TK.struct [(49, 0), (48, 1)], 4, 64, some [AV.nilsl, AV.int IntKind.i64 (0), AV.int IntKind.i64 (0), AV.nilsl]⟩ := by kernel_rfl
theorem ti52 : ti Try.prog 52 = some ⟨TK.slice 4, 1, 24, some [AV.nilsl]⟩ := by kernel_rfl
theorem ti53 : ti Try.prog 53 = some ⟨TK.func, 1, 8, some [AV.nilfn]⟩ := by kernel_rfl
theorem ti54 : ti Try.prog 54 = some ⟨TK.func, 1, 8, some [AV.nilfn]⟩ := by kernel_rfl
theorem ti55 : ti Try.prog 55 = some ⟨TK.func, 1, 8, some [AV.nilfn]⟩ := by kernel_rfl
theorem ti56 : ti Try.prog 56 = some ⟨TK.func, 1, 8, some [AV.nilfn]⟩ := by kernel_rfl
theorem ti57 : ti Try.prog 57 = some ⟨TK.func, 1, 8, some [AV.nilfn]⟩ := by kernel_rfl
theorem ti58 : ti Try.prog 58 = some ⟨TK.func, 1, 8, some [AV.nilfn]⟩ := by kernel_rfl
theorem ti59 : ti Try.prog 59 = some ⟨TK.slice 23, 1, 24, some [AV.nilsl]⟩ := by kernel_rfl
theorem ti60 : ti Try.prog 60 = some ⟨TK.struct [(3, 0), (3, 1), (42, 2), (23, 9), (23, 10), (59, 11)], 12, 176, some [AV.int IntKind.i64 (0), AV.int IntKind.i64 (0), AV.int IntKind.i64 (0), AV.int IntKind.i64 (0), AV.int IntKind.i64 (0), AV.int IntKind.i64 (0), AV.int IntKind.i64 (0), AV.nilsl, AV.nilsl, AV.nilsl, AV.nilsl, AV.nilsl]⟩ := by kernel_rfl
theorem ti61 : ti Try.prog 61 = some ⟨TK.struct [(3, 0), (3, 1), (42, 2), (23, 9), (23, 10), (59, 11)], 12, 176, some [AV.int IntKind.i64 (0), AV.int IntKind.i64 (0), AV.int IntKind.i64 (0), AV.int IntKind.i64 (0), AV.int IntKind.i64 (0), AV.int IntKind.i64 (0), AV.int IntKind.i64 (0), AV.nilsl, AV.nilsl, AV.nilsl, AV.nilsl, AV.nilsl]⟩ := by kernel_rfl
theorem ti62 : ti Try.prog 62 = some ⟨TK.func, 1, 8, some [AV.nilfn]⟩ := by kernel_rfl
theorem ti63 : ti Try.prog 63 = some ⟨TK.func, 1, 8, some [AV.nilfn]⟩ := by kernel_rfl
theorem ti64 : ti Try.prog 64 = some ⟨TK.func, 1, 8, some [AV.nilfn]⟩ := by kernel_rfl
theorem ti65 : ti Try.prog 65 = some ⟨TK.struct [(29, 0)], 1, 8, some [AV.int IntKind.i64 (0)]⟩ := by kernel_rfl
theorem ti66 : ti Try.prog 66 = some ⟨TK.struct [(29, 0)], 1, 8, some [AV.int IntKind.i64 (0)]⟩ := by kernel_rfl
theorem ti67 : ti Try.prog 67 = some ⟨TK.other, 1, 0, none⟩ := by kernel_rfl
theorem ti68 : ti Try.prog 68 = some ⟨TK.ptr, 1, 8, some [AV.nilp]⟩ := by kernel_rfl
theorem ti69 : ti Try.prog 69 = some ⟨TK.func, 1, 8, some [AV.nilfn]⟩ := by kernel_rfl
theorem ti70 : ti Try.prog 70 = some ⟨TK.func, 1, 8, some [AV.nilfn]⟩ := by kernel_rfl
theorem ti71 : ti Try.prog 71 = some ⟨TK.func, 1, 8, some [AV.nilfn]⟩ := by kernel_rfl
theorem ti72 : ti Try.prog 72 = some ⟨TK.map 3 84, 1, 8, some [AV.nilmap]⟩ := by kernel_rfl
theorem ti73 : ti Try.prog 73 = some ⟨TK.struct [(28, 0), (3, 1), (72, 2)], 3, 40, some [AV.nilsl, AV.int IntKind.i64 (0), AV.nilmap]⟩ := by kernel_rfl
theorem ti74 : ti Try.prog 74 = some ⟨TK.struct [(28, 0), (3, 1), (72, 2)], 3, 40, some [AV.nilsl, AV.int IntKind.i64 (0), AV.nilmap]⟩ := by kernel_rfl
theorem ti75 : ti Try.prog 75 = some ⟨TK.ptr, 1, 8, some [AV.nilp]⟩ := by kernel_rfl
theorem ti76 : ti Try.prog 76 = some ⟨TK.struct [(28, 0)], 1, 24, some [AV.nilsl]⟩ := by kernel_rfl
theorem ti77 : ti Try.prog 77 = some ⟨TK.struct [(28, 0)], 1, 24, some [AV.nilsl]⟩ := by kernel_rfl
theorem ti78 : ti Try.prog 78 = some ⟨TK.func, 1, 8, some [AV.nilfn]⟩ := by kernel_rfl
theorem ti79 : ti Try.prog 79 = some ⟨TK.func, 1, 8, some [AV.nilfn]⟩ := by kernel_rfl
theorem ti80 : ti Try.prog 80 = some ⟨TK.func, 1, 8, some [AV.nilfn]⟩ := by kernel_rfl
theorem ti81 : ti Try.prog 81 = some ⟨TK.func, 1, 8, some [AV.nilfn]⟩ := by kernel_rfl
theorem ti82 : ti Try.prog 82 = some ⟨TK.func, 1, 8, some [AV.nilfn]⟩ := by kernel_rfl
theorem ti83 : ti Try.prog 83 = some ⟨TK.func, 1, 8, some [AV.nilfn]⟩ := by kernel_rfl
theorem ti84 : ti Try.prog 84 = some ⟨TK.func, 1, 8, some [AV.nilfn]⟩ := by kernel_rfl
theorem ti85 : ti Try.prog 85 = some ⟨TK.func, 1, 8, some [AV.nilfn]⟩ := by kernel_rfl
theorem ti86 : ti Try.prog 86 = some ⟨TK.other, 1, 0, none⟩ := by kernel_rfl
theorem ti87 : ti Try.prog 87 = some ⟨TK.func, 1, 8, some [AV.nilfn]⟩ := by kernel_rfl
theorem ti88 : ti Try.prog 88 = some ⟨TK.struct [(3, 0), (3, 1), (22, 2)], 3, 40, some [AV.int IntKind.i64 (0), AV.int IntKind.i64 (0), AV.nilsl]⟩ := by kernel_rfl
theorem ti89 : ti Try.prog 89 = some ⟨TK.struct [(3, 0), (3, 1), (22, 2)], 3, 40, some [AV.int IntKind.i64 (0), AV.int IntKind.i64 (0), AV.nilsl]⟩ := by kernel_rfl
theorem ti90 : ti Try.prog 90 = some ⟨TK.ptr, 1, 8, some [AV.nilp]⟩ := by kernel_rfl
theorem ti91 : ti Try.prog 91 = some ⟨TK.func, 1, 8, some [AV.nilfn]⟩ := by kernel_rfl
theorem ti92 : ti Try.prog 92 = some ⟨TK.func, 1, 8, some [AV.nilfn]⟩ := by kernel_rfl
theorem ti93 : ti Try.prog 93 = some ⟨TK.func, 1, 8, some [AV.nilfn]⟩ := by kernel_rfl
theorem ti94 : ti Try.prog 94 = some ⟨TK.func, 1, 8, some [AV.nilfn]⟩ := by kernel_rfl
theorem ti95 : ti Try.prog 95 = some ⟨TK.func, 1, 8, some [AV.nilfn]⟩ := by kernel_rfl
theorem ti96 : ti Try.prog 96 = some ⟨TK.struct [(17, 0), (17, 1), (17, 2), (9, 3)], 4, 40, some [AV.nilp, AV.nilp, AV.nilp, AV.str ⟨#[]⟩]⟩ := by kernel_rfl
theorem ti97 : ti Try.prog 97 = some ⟨TK.struct [(17, 0), (17, 1), (17, 2), (9, 3)], 4, 40, some [AV.nilp, AV.nilp, AV.nilp, AV.str ⟨#[]⟩]⟩ := by kernel_rfl
theorem ti98 : ti Try.prog 98 = some ⟨TK.array 0 16, 0, 0, some []⟩ := by kernel_rfl
theorem ti99 : ti Try.prog 99 = some ⟨TK.struct [(98, 0)], 0, 0, some []⟩ := by kernel_rfl
theorem ti100 : ti Try.prog 100 = some ⟨TK.struct [(98, 0)], 0, 0, some []⟩ := by kernel_rfl
theorem ti101 : ti Try.prog 101 = some ⟨TK.int IntKind.u32, 1, 4, some [AV.int IntKind.u32 (0)]⟩ := by kernel_rfl
theorem ti102 : ti Try.prog 102 = some ⟨TK.int IntKind.u8, 1, 1, some [AV.int IntKind.u8 (0)]⟩ := by kernel_rfl
theorem ti103 : ti Try.prog 103 = some ⟨TK.int IntKind.u8, 1, 1, some [AV.int IntKind.u8 (0)]⟩ := by kernel_rfl
theorem ti104 : ti Try.prog 104 = some ⟨TK.func, 1, 8, some [AV.nilfn]⟩ := by kernel_rfl
theorem ti105 : ti Try.prog 105 = some ⟨TK.ptr, 1, 8, some [AV.nilp]⟩ := by kernel_rfl
theorem ti106 : ti Try.prog 106 = some ⟨TK.int IntKind.i32, 1, 4, some [AV.int IntKind.i32 (0)]⟩ := by kernel_rfl
theorem ti107 : ti Try.prog 107 = some ⟨TK.int IntKind.i32, 1, 4, some [AV.int IntKind.i32 (0)]⟩ := by kernel_rfl
theorem ti108 : ti Try.prog 108 = some ⟨TK.struct [(12, 0), (12, 1), (101, 2), (102, 3), (5, 4), (5, 5), (103, 6), (104, 7), (105, 8), (106, 9), (107, 10)], 11, 48, some [AV.int IntKind.u64 (0), AV.int IntKind.u64 (0), AV.int IntKind.u32 (0), AV.int IntKind.u8 (0), AV.int IntKind.u8 (0), AV.int IntKind.u8 (0), AV.int IntKind.u8 (0), AV.nilfn, AV.nilp, AV.int IntKind.i32 (0), AV.int IntKind.i32 (0)]⟩ := by kernel_rfl
theorem ti109 : ti Try.prog 109 = some ⟨TK.struct [(12, 0), (12, 1), (101, 2), (102, 3), (5, 4), (5, 5), (103, 6), (104, 7), (105, 8), (106, 9), (107, 10)], 11, 48, some [AV.int IntKind.u64 (0), AV.int IntKind.u64 (0), AV.int IntKind.u32 (0), AV.int IntKind.u8 (0), AV.int IntKind.u8 (0), AV.int IntKind.u8 (0), AV.int IntKind.u8 (0), AV.nilfn, AV.nilp, AV.int IntKind.i32 (0), AV.int IntKind.i32 (0)]⟩ := by kernel_rfl
theorem ti110 : ti Try.prog 110 = some ⟨TK.other, 1, 8, some [AV.nilp]⟩ := by kernel_rfl
theorem zv84 : zv Try.prog 84 = some (AV.nilfn) := by kernel_rfl
theorem fl7_0 : flT Try.prog 7 0 = some 0 := by kernel_rfl
theorem fl7_1 : flT Try.prog 7 1 = some 1 := by kernel_rfl
theorem fl7_2 : flT Try.prog 7 2 = some 2 := by kernel_rfl
theorem fl7_3 : flT Try.prog 7 3 = some 3 := by kernel_rfl
theorem fl8_0 : flT Try.prog 8 0 = some 0 := by kernel_rfl
theorem fl8_1 : flT Try.prog 8 1 = some 1 := by kernel_rfl
theorem fl8_2 : flT Try.prog 8 2 = some 2 := by kernel_rfl
theorem fl8_3 : flT Try.prog 8 3 = some 3 := by kernel_rfl
theorem fl13_0 : flT Try.prog 13 0 = some 0 := by kernel_rfl
theorem fl13_1 : flT Try.prog 13 1 = some 1 := by kernel_rfl
theorem fl14_0 : flT Try.prog 14 0 = some 0 := by kernel_rfl
theorem fl14_1 : flT Try.prog 14 1 = some 1 := by kernel_rfl
theorem fl18_0 : flT Try.prog 18 0 = some 0 := by kernel_rfl
theorem fl19_0 : flT Try.prog 19 0 = some 0 := by kernel_rfl
theorem el22 : elT Try.prog 22 = some 3 := by kernel_rfl
theorem el23 : elT Try.prog 23 = some 12 := by kernel_rfl
theorem fl24_0 : flT Try.prog 24 0 = some 0 := by kernel_rfl
theorem fl24_1 : flT Try.prog 24 1 = some 1 := by kernel_rfl
theorem fl25_0 : flT Try.prog 25 0 = some 0 := by kernel_rfl
theorem fl25_1 : flT Try.prog 25 1 = some 1 := by kernel_rfl
theorem el28 : elT Try.prog 28 = some 4 := by kernel_rfl
theorem el33 : elT Try.prog 33 = some 1 := by kernel_rfl
theorem el35 : elT Try.prog 35 = some 9 := by kernel_rfl
theorem fl36_0 : flT Try.prog 36 0 = some 0 := by kernel_rfl
theorem fl36_1 : flT Try.prog 36 1 = some 1 := by kernel_rfl
theorem fl36_2 : flT Try.prog 36 2 = some 2 := by kernel_rfl
theorem fl36_3 : flT Try.prog 36 3 = some 3 := by kernel_rfl
theorem fl37_0 : flT Try.prog 37 0 = some 0 := by kernel_rfl
theorem fl37_1 : flT Try.prog 37 1 = some 1 := by kernel_rfl
theorem fl37_2 : flT Try.prog 37 2 = some 2 := by kernel_rfl
theorem fl37_3 : flT Try.prog 37 3 = some 3 := by kernel_rfl
theorem el40 : elT Try.prog 40 = some 1 := by kernel_rfl
theorem fl41_0 : flT Try.prog 41 0 = some 0 := by kernel_rfl
theorem fl41_1 : flT Try.prog 41 1 = some 1 := by kernel_rfl
theorem fl41_2 : flT Try.prog 41 2 = some 2 := by kernel_rfl
theorem fl41_3 : flT Try.prog 41 3 = some 3 := by kernel_rfl
theorem fl41_4 : flT Try.prog 41 4 = some 4 := by kernel_rfl
theorem fl41_5 : flT Try.prog 41 5 = some 5 := by kernel_rfl
theorem fl41_6 : flT Try.prog 41 6 = some 6 := by kernel_rfl
theorem fl42_0 : flT Try.prog 42 0 = some 0 := by kernel_rfl
theorem fl42_1 : flT Try.prog 42 1 = some 1 := by kernel_rfl
theorem fl42_2 : flT Try.prog 42 2 = some 2 := by kernel_rfl
theorem fl42_3 : flT Try.prog 42 3 = some 3 := by kernel_rfl
theorem fl42_4 : flT Try.prog 42 4 = some 4 := by kernel_rfl
theorem fl42_5 : flT Try.prog 42 5 = some 5 := by kernel_rfl
theorem fl42_6 : flT Try.prog 42 6 = some 6 := by kernel_rfl
theorem fl43_0 : flT Try.prog 43 0 = some 0 := by kernel_rfl
theorem fl43_1 : flT Try.prog 43 1 = some 7 := by kernel_rfl
theorem fl43_2 : flT Try.prog 43 2 = some 8 := by kernel_rfl
theorem fl44_0 : flT Try.prog 44 0 = some 0 := by kernel_rfl
theorem fl44_1 : flT Try.prog 44 1 = some 7 := by kernel_rfl
theorem fl44_2 : flT Try.prog 44 2 = some 8 := by kernel_rfl
theorem fl47_0 : flT Try.prog 47 0 = some 0 := by kernel_rfl
theorem fl47_1 : flT Try.prog 47 1 = some 1 := by kernel_rfl
theorem fl47_2 : flT Try.prog 47 2 = some 2 := by kernel_rfl
theorem fl48_0 : flT Try.prog 48 0 = some 0 := by kernel_rfl
theorem fl48_1 : flT Try.prog 48 1 = some 1 := by kernel_rfl
theorem fl48_2 : flT Try.prog 48 2 = some 2 := by kernel_rfl
theorem el49 : elT Try.prog 49 = some 7 := by kernel_rfl
theorem fl50_0 : flT Try.prog 50 0 = some 0 := by kernel_rfl
theorem fl50_1 : flT Try.prog 50 1 = some 1 := by kernel_rfl
theorem fl51_0 : flT Try.prog 51 0 = some 0 := by kernel_rfl
theorem fl51_1 : flT Try.prog 51 1 = some 1 := by kernel_rfl
theorem el52 : elT Try.prog 52 = some 1 := by kernel_rfl
theorem el59 : elT Try.prog 59 = some 1 := by kernel_rfl
theorem fl60_0 : flT Try.prog 60 0 = some 0 := by kernel_rfl
theorem fl60_1 : flT Try.prog 60 1 = some 1 := by kernel_rfl
theorem fl60_2 : flT Try.prog 60 2 = some 2 := by kernel_rfl
theorem fl60_3 : flT Try.prog 60 3 = some 9 := by kernel_rfl
theorem fl60_4 : flT Try.prog 60 4 = some 10 := by kernel_rfl
theorem fl60_5 : flT Try.prog 60 5 = some 11 := by kernel_rfl
theorem fl61_0 : flT Try.prog 61 0 = some 0 := by kernel_rfl
theorem fl61_1 : flT Try.prog 61 1 = some 1 := by kernel_rfl
theorem fl61_2 : flT Try.prog 61 2 = some 2 := by kernel_rfl
theorem fl61_3 : flT Try.prog 61 3 = some 9 := by kernel_rfl
theorem fl61_4 : flT Try.prog 61 4 = some 10 := by kernel_rfl
theorem fl61_5 : flT Try.prog 61 5 = some 11 := by kernel_rfl
theorem fl65_0 : flT Try.prog 65 0 = some 0 := by kernel_rfl
theorem fl66_0 : flT Try.prog 66 0 = some 0 := by kernel_rfl
theorem mp72 : mpT Try.prog 72 = some 84 := by kernel_rfl
theorem mz72 : mpZ Try.prog 72 = some (AV.nilfn) := by kernel_rfl
theorem fl73_0 : flT Try.prog 73 0 = some 0 := by kernel_rfl
theorem fl73_1 : flT Try.prog 73 1 = some 1 := by kernel_rfl
theorem fl73_2 : flT Try.prog 73 2 = some 2 := by kernel_rfl
theorem fl74_0 : flT Try.prog 74 0 = some 0 := by kernel_rfl
theorem fl74_1 : flT Try.prog 74 1 = some 1 := by kernel_rfl
theorem fl74_2 : flT Try.prog 74 2 = some 2 := by kernel_rfl
theorem fl76_0 : flT Try.prog 76 0 = some 0 := by kernel_rfl
theorem fl77_0 : flT Try.prog 77 0 = some 0 := by kernel_rfl
theorem fl88_0 : flT Try.prog 88 0 = some 0 := by kernel_rfl
theorem fl88_1 : flT Try.prog 88 1 = some 1 := by kernel_rfl
theorem fl88_2 : flT Try.prog 88 2 = some 2 := by kernel_rfl
theorem fl89_0 : flT Try.prog 89 0 = some 0 := by kernel_rfl
theorem fl89_1 : flT Try.prog 89 1 = some 1 := by kernel_rfl
theorem fl89_2 : flT Try.prog 89 2 = some 2 := by kernel_rfl
theorem fl96_0 : flT Try.prog 96 0 = some 0 := by kernel_rfl
theorem fl96_1 : flT Try.prog 96 1 = some 1 := by kernel_rfl
theorem fl96_2 : flT Try.prog 96 2 = some 2 := by kernel_rfl
theorem fl96_3 : flT Try.prog 96 3 = some 3 := by kernel_rfl
theorem fl97_0 : flT Try.prog 97 0 = some 0 := by kernel_rfl
theorem fl97_1 : flT Try.prog 97 1 = some 1 := by kernel_rfl
theorem fl97_2 : flT Try.prog 97 2 = some 2 := by kernel_rfl
theorem fl97_3 : flT Try.prog 97 3 = some 3 := by kernel_rfl
theorem fl108_0 : flT Try.prog 108 0 = some 0 := by kernel_rfl
theorem fl108_1 : flT Try.prog 108 1 = some 1 := by kernel_rfl
theorem fl108_2 : flT Try.prog 108 2 = some 2 := by kernel_rfl
theorem fl108_3 : flT Try.prog 108 3 = some 3 := by kernel_rfl
theorem fl108_4 : flT Try.prog 108 4 = some 4 := by kernel_rfl
theorem fl108_5 : flT Try.prog 108 5 = some 5 := by kernel_rfl
theorem fl108_6 : flT Try.prog 108 6 = some 6 := by kernel_rfl
theorem fl108_7 : flT Try.prog 108 7 = some 7 := by kernel_rfl
theorem fl108_8 : flT Try.prog 108 8 = some 8 := by kernel_rfl
theorem fl108_9 : flT Try.prog 108 9 = some 9 := by kernel_rfl
theorem fl108_10 : flT Try.prog 108 10 = some 10 := by kernel_rfl
theorem fl109_0 : flT Try.prog 109 0 = some 0 := by kernel_rfl
theorem fl109_1 : flT Try.prog 109 1 = some 1 := by kernel_rfl
theorem fl109_2 : flT Try.prog 109 2 = some 2 := by kernel_rfl
theorem fl109_3 : flT Try.prog 109 3 = some 3 := by kernel_rfl
theorem fl109_4 : flT Try.prog 109 4 = some 4 := by kernel_rfl
theorem fl109_5 : flT Try.prog 109 5 = some 5 := by kernel_rfl
theorem fl109_6 : flT Try.prog 109 6 = some 6 := by kernel_rfl
theorem fl109_7 : flT Try.prog 109 7 = some 7 := by kernel_rfl
theorem fl109_8 : flT Try.prog 109 8 = some 8 := by kernel_rfl
theorem fl109_9 : flT Try.prog 109 9 = some 9 := by kernel_rfl
theorem fl109_10 : flT Try.prog 109 10 = some 10 := by kernel_rfl
theorem isf2 : isFn Try.prog 2 = true := by kernel_rfl
theorem isf3 : isFn Try.prog 3 = true := by kernel_rfl
theorem isf4 : isFn Try.prog 4 = true := by kernel_rfl
theorem isf5 : isFn Try.prog 5 = true := by kernel_rfl
theorem isf6 : isFn Try.prog 6 = true := by kernel_rfl
theorem isf7 : isFn Try.prog 7 = true := by kernel_rfl
theorem isf8 : isFn Try.prog 8 = true := by kernel_rfl
theorem isf9 : isFn Try.prog 9 = true := by kernel_rfl
theorem isf10 : isFn Try.prog 10 = true := by kernel_rfl
theorem isf11 : isFn Try.prog 11 = true := by kernel_rfl
theorem isf12 : isFn Try.prog 12 = true := by kernel_rfl
theorem isf13 : isFn Try.prog 13 = true := by kernel_rfl
theorem isf14 : isFn Try.prog 14 = true := by kernel_rfl
theorem isf15 : isFn Try.prog 15 = true := by kernel_rfl
theorem isf16 : isFn Try.prog 16 = true := by kernel_rfl
theorem isf17 : isFn Try.prog 17 = true := by kernel_rfl
theorem isf18 : isFn Try.prog 18 = true := by kernel_rfl
theorem isf19 : isFn Try.prog 19 = true := by kernel_rfl
theorem isf20 : isFn Try.prog 20 = true := by kernel_rfl
theorem isf21 : isFn Try.prog 21 = true := by kernel_rfl
theorem isf22 : isFn Try.prog 22 = true := by kernel_rfl
theorem isf23 : isFn Try.prog 23 = true := by kernel_rfl
theorem isf24 : isFn Try.prog 24 = true := by kernel_rfl
theorem isf25 : isFn Try.prog 25 = true := by kernel_rfl
theorem isf26 : isFn Try.prog 26 = true := by kernel_rfl
theorem isf27 : isFn Try.prog 27 = true := by kernel_rfl
theorem isf28 : isFn Try.prog 28 = true := by kernel_rfl
theorem isf29 : isFn Try.prog 29 = true := by kernel_rfl
theorem isf30 : isFn Try.prog 30 = true := by kernel_rfl
theorem isf31 : isFn Try.prog 31 = true := by kernel_rfl
theorem isf32 : isFn Try.prog 32 = true := by kernel_rfl
theorem isf33 : isFn Try.prog 33 = true := by kernel_rfl
theorem isf34 : isFn Try.prog 34 = true := by kernel_rfl
theorem isf35 : isFn Try.prog 35 = true := by kernel_rfl
theorem isf36 : isFn Try.prog 36 = true := by kernel_rfl
theorem isf37 : isFn Try.prog 37 = true := by kernel_rfl
theorem isf38 : isFn Try.prog 38 = true := by kernel_rfl
theorem isf39 : isFn Try.prog 39 = true := by kernel_rfl
theorem isf40 : isFn Try.prog 40 = true := by kernel_rfl
theorem isf41 : isFn Try.prog 41 = true := by kernel_rfl
theorem isf42 : isFn Try.prog 42 = true := by kernel_rfl
theorem isf43 : isFn Try.prog 43 = true := by kernel_rfl
theorem isf44 : isFn Try.prog 44 = true := by kernel_rfl
theorem isf45 : isFn Try.prog 45 = true := by kernel_rfl
theorem isf46 : isFn Try.prog 46 = true := by kernel_rfl
theorem isf47 : isFn Try.prog 47 = true := by kernel_rfl
theorem isf48 : isFn Try.prog 48 = true := by kernel_rfl
theorem isf49 : isFn Try.prog 49 = true := by kernel_rfl
theorem isf50 : isFn Try.prog 50 = true := by kernel_rfl
theorem isf51 : isFn Try.prog 51 = true := by kernel_rfl
theorem mixed : Try.prog.follows .mixedOrders = true := by kernel_rfl
attribute [go_sem] ti0 ti1 ti2 ti3 ti4 ti5 ti6 ti7 ti8 ti9 ti10 ti11 ti12 ti13 ti14 ti15 ti16 ti17 ti18 ti19 ti20 ti21 ti22 ti23 ti24 ti25 ti26 ti27 ti28 ti29 ti30 ti31 ti32 ti33 ti34 ti35 ti36 ti37 ti38 ti39 ti40 ti41 ti42 ti43 ti44 ti45 ti46 ti47 ti48 ti49 ti50 ti51 ti52 ti53 ti54 ti55 ti56 ti57 ti58 ti59 ti60 ti61 ti62 ti63 ti64 ti65 ti66 ti67 ti68 ti69 ti70 ti71 ti72 ti73 ti74 ti75 ti76 ti77 ti78 ti79 ti80 ti81 ti82 ti83 ti84 ti85 ti86 ti87 ti88 ti89 ti90 ti91 ti92 ti93 ti94 ti95 ti96 ti97 ti98 ti99 ti100 ti101 ti102 ti103 ti104 ti105 ti106 ti107 ti108 ti109 ti110 zv84 fl7_0 fl7_1 fl7_2 fl7_3 fl8_0 fl8_1 fl8_2 fl8_3 fl13_0 fl13_1 fl14_0 fl14_1 fl18_0 fl19_0 el22 el23 fl24_0 fl24_1 fl25_0 fl25_1 el28 el33 el35 fl36_0 fl36_1 fl36_2 fl36_3 fl37_0 fl37_1 fl37_2 fl37_3 el40 fl41_0 fl41_1 fl41_2 fl41_3 fl41_4 fl41_5 fl41_6 fl42_0 fl42_1 fl42_2 fl42_3 fl42_4 fl42_5 fl42_6 fl43_0 fl43_1 fl43_2 fl44_0 fl44_1 fl44_2 fl47_0 fl47_1 fl47_2 fl48_0 fl48_1 fl48_2 el49 fl50_0 fl50_1 fl51_0 fl51_1 el52 el59 fl60_0 fl60_1 fl60_2 fl60_3 fl60_4 fl60_5 fl61_0 fl61_1 fl61_2 fl61_3 fl61_4 fl61_5 fl65_0 fl66_0 mp72 mz72 fl73_0 fl73_1 fl73_2 fl74_0 fl74_1 fl74_2 fl76_0 fl77_0 fl88_0 fl88_1 fl88_2 fl89_0 fl89_1 fl89_2 fl96_0 fl96_1 fl96_2 fl96_3 fl97_0 fl97_1 fl97_2 fl97_3 fl108_0 fl108_1 fl108_2 fl108_3 fl108_4 fl108_5 fl108_6 fl108_7 fl108_8 fl108_9 fl108_10 fl109_0 fl109_1 fl109_2 fl109_3 fl109_4 fl109_5 fl109_6 fl109_7 fl109_8 fl109_9 fl109_10
end Go.Proofs.Ytdheeecpkkjfiaa

/- The abstract machine: what follows a piece of code, as a list; plain facts that the walks use. -/
set_option linter.unusedVariables false
namespace Go.Am

attribute [go_sem] List.all_cons List.all_nil decide_true decide_false Bool.true_or Bool.or_true Bool.false_or List.range_zero Array.toList_append beq_self_eq_true Option.isSome_some Option.isSome_none List.zip_cons_cons List.zip_nil_left List.zip_nil_right true_or or_true false_or or_false List.length_replicate List.length_append List.take_zero List.take_succ_cons List.drop_zero List.drop_succ_cons List.take_nil List.drop_nil List.set_cons_zero List.set_cons_succ List.getElem?_cons_zero List.getElem?_cons_succ List.getElem?_nil Int.toNat_natCast List.getElem?_map Option.map_some Option.map_none Option.bind_some Option.bind_none Option.some.injEq List.length_cons List.length_nil List.length_map List.getD_cons_zero List.getD_cons_succ List.getD_nil List.map_cons List.map_nil
  List.cons_append List.nil_append and_true true_and Bool.false_eq_true Bool.and_true Bool.true_and Bool.and_false Bool.false_and Bool.not_true Bool.not_false and_false false_and ne_eq not_true_eq_false not_false_eq_true

variable {P : Program} {E : En} {Q : AEx → St → Prop} {σ : St}

@[congr] theorem on1_congr {x y : Option AV} {f : AV → Prop} (h : x = y) : on1 x f = on1 y f := by rw [h]
@[congr] theorem on2_congr {x y z u : Option AV} {f : AV → AV → Prop} (h : x = y) (h2 : z = u) : on2 x z f = on2 y u f := by rw [h, h2]
@[congr] theorem onL_congr {x y : Option (List AV)} {f : List AV → Prop} (h : x = y) : onL x f = onL y f := by rw [h]
@[congr] theorem onF_congr {x y : Option AV} {z u : Option (List AV)} {f : FuncId → List AV → Prop} (h : x = y) (h2 : z = u) : onF x z f = onF y u f := by rw [h, h2]
@[congr] theorem runE_congr {x y : Option (Prop × Ef)} {σ : St} {d : Option Nat} {id : Nat} {K : St → Prop} (h : x = y) : runE x σ d id K = runE y σ d id K := by rw [h]
@[congr] theorem goL_congr {bar : Bool} {bs : Option (List Nat)} {ds : List (Option Nat)} {l : List Oper} {k : Nat} {σ τ : St} {K : St → Prop} {Kp : AV → St → Prop} (h : σ = τ) : goL P bar bs ds l k σ K Kp = goL P bar bs ds l k τ K Kp := by rw [h]
@[congr] theorem goG_congr {bar : Bool} {bs : Option (List Nat)} {ds : List (Option Nat)} {o : Oper} {k : Nat} {σ τ : St} {K : St → Prop} {Kp : AV → St → Prop} (h : σ = τ) : goG P bar bs ds k o σ K Kp = goG P bar bs ds k o τ K Kp := by rw [h]

@[congr] theorem onG_congr {w : Bool} {c c' : Option (Option Bool)} {A B : Prop} {g : Tg (A ∧ B)} (h : c = c') : onG w c A B g = onG w c' A B g := by rw [h]
@[congr] theorem goX_congr {bar : Bool} {o : Oper} {k : Nat} {σ τ : St} {K : St → Prop} {Kp : AV → St → Prop} (h : σ = τ) : goX P bar k o σ K Kp = goX P bar k o τ K Kp := by rw [h]

theorem CallP_mk {g : FuncId} {vs us : List AV} {r : AV} {d : Option Nat} {K : St → Prop} (hu : AV.snapL σ.hp vs = us) (h : PCall P g us r) (hs : AV.snapOkL σ.hp vs) (hf : r.flatR = true ∨ vs.all AV.noRw = true) (hk : K (σ.put d r)) {tg : Tg (CallP P g vs σ d K)} : Hold (CallP P g vs σ d K) tg :=
  ⟨hs, r, by rw [hu]; exact h, hf, hk⟩

theorem onG_split_t {c : Bool} {A B : Prop} {g : Tg (A ∧ B)} (h1 : c = true → A) (h2 : c = false → B) : onG true (some (some c)) A B g := by
  cases c
  · exact h2 rfl
  · exact h1 rfl
theorem onG_split_f {c : Bool} {A B : Prop} {g : Tg (A ∧ B)} (h1 : c = true → B) (h2 : c = false → A) : onG false (some (some c)) A B g := by
  cases c
  · exact h2 rfl
  · exact h1 rfl

inductive Fm where
  | code (c : Code)
  | blk (id : Nat)
  | lp (I : St → Prop)

/-- What must hold at an exit, for the rest to lead to Q. -/
def Kq (P : Program) (E : En) : List Fm → (AEx → St → Prop) → AEx → St → Prop
  | [], Q => Q
  | .code c :: fs, Q => thenQ (AW P E c (Kq P E fs Q)) (Kq P E fs Q)
  | .blk id :: fs, Q => blockQ id (Kq P E fs Q)
  | .lp I :: fs, Q => thenQ I (Kq P E fs Q)

theorem Kq_norm_nil (h : Q .norm σ) : Kq P E [] Q .norm σ := h
theorem Kq_norm_code {c : Code} {fs : List Fm} (h : AW P E c (Kq P E fs Q) σ) : Kq P E (.code c :: fs) Q .norm σ := h
theorem Kq_norm_blk {id : Nat} {fs : List Fm} (h : Kq P E fs Q .norm σ) : Kq P E (.blk id :: fs) Q .norm σ := h
theorem Kq_norm_lp {I : St → Prop} {fs : List Fm} (h : I σ) : Kq P E (.lp I :: fs) Q .norm σ := h
theorem Kq_ret_nil (h : Q .ret σ) : Kq P E [] Q .ret σ := h
theorem Kq_ret_cons {f : Fm} {fs : List Fm} (h : Kq P E fs Q .ret σ) : Kq P E (f :: fs) Q .ret σ := by cases f <;> exact h
theorem Kq_exit_code {c : Code} {fs : List Fm} {j : Nat} (h : Kq P E fs Q (.exit j) σ) : Kq P E (.code c :: fs) Q (.exit j) σ := h
theorem Kq_exit_lp {I : St → Prop} {fs : List Fm} {j : Nat} (h : Kq P E fs Q (.exit j) σ) : Kq P E (.lp I :: fs) Q (.exit j) σ := h
theorem Kq_exit_blk {id : Nat} {fs : List Fm} (h : Kq P E fs Q .norm σ) : Kq P E (.blk id :: fs) Q (.exit id) σ := by
  simp only [Kq, blockQ, if_true]; exact h
theorem Kq_exit_ne {id j : Nat} {fs : List Fm} (hj : j ≠ id) (h : Kq P E fs Q (.exit j) σ) : Kq P E (.blk id :: fs) Q (.exit j) σ := by
  simp only [Kq, blockQ]; rw [if_neg hj]; exact h
theorem Kq_pan_nil {x : AV} (h : Q (.pan x) σ) : Kq P E [] Q (.pan x) σ := h
theorem Kq_pan_cons {x : AV} {f : Fm} {fs : List Fm} (h : Kq P E fs Q (.pan x) σ) : Kq P E (f :: fs) Q (.pan x) σ := by cases f <;> exact h

theorem K_seq {x y : Code} {fs : List Fm} (h : AW P E x (Kq P E (.code y :: fs) Q) σ) : AW P E (.seq x y) (Kq P E fs Q) σ := AW_seq h
theorem K_blk {id : Nat} {x : Code} {fs : List Fm} (h : AW P E x (Kq P E (.blk id :: fs) Q) σ) : AW P E (.block id x) (Kq P E fs Q) σ := AW_block h
theorem K_start {x : Code} (h : AW P E x (Kq P E [] Q) σ) : AW P E x Q σ := h
theorem K_ret {fs : List Fm} (h : Q .ret σ) : AW P E .ret (Kq P E fs Q) σ := by
  refine AW_ret ?_
  induction fs with
  | nil => exact h
  | cons f fs ih => exact Kq_ret_cons ih
theorem Kq_pan {x : AV} : ∀ {fs : List Fm}, Q (.pan x) σ → Kq P E fs Q (.pan x) σ
  | [], h => h
  | _ :: _, h => Kq_pan_cons (Kq_pan h)
theorem K_reg {id : Nat} {l : List Oper} {fs : List Fm} {n : Nat} {ds : List (Option Nat)} {fr : Nat → Option AV} {hp : Nat → Option AObj} {nx : Nat} (hd : dstOk E.nt l.toArray = true) (hn : l.length = n) (hds : l.map (·.dst) = ds)
    (h : ∀ (K : St → Prop) (Kp : AV → St → Prop), (∀ σ', Kq P E fs Q .norm σ' → K σ') → (∀ x σ', Q (.pan x) σ' → Kp x σ') → goL P true none ds l 0 ⟨fr, hp, nx⟩ (fun σ' => K { σ' with nx := nx + 1048576 * n }) Kp) : AW P E (.region id l.toArray false) (Kq P E fs Q) ⟨fr, hp, nx⟩ := by
  subst hn
  subst hds
  exact AW_reg hd fun K Kp hK hKp => h K Kp hK fun x σ' h => hKp x σ' (Kq_pan h)
theorem K_drw {id : Nat} {l : List Oper} {fs : List Fm} {n : Nat} {ds : List (Option Nat)} {fr : Nat → Option AV} {hp : Nat → Option AObj} {nx : Nat} (bar : Bool) (hm : P.follows .mixedOrders = true) (hd : dstOk E.nt l.toArray = true) (hok : okStatic bar l.toArray = true) (hn : l.length = n) (hds : l.map (·.dst) = ds)
    (h : ∀ (K : St → Prop) (Kp : AV → St → Prop), (∀ σ', Kq P E fs Q .norm σ' → K σ') → (∀ x σ', Q (.pan x) σ' → Kp x σ') → ∀ bl, bl = ancL l.toArray → goL P bar (some bl) ds l 0 ⟨fr, hp, nx⟩ (fun σ' => K { σ' with nx := nx + 1048576 * n }) Kp) : AW P E (.region id l.toArray true) (Kq P E fs Q) ⟨fr, hp, nx⟩ := by
  subst hn
  subst hds
  exact AW_drw bar hm hd hok fun K Kp hK hKp => h K Kp hK fun x σ' h => hKp x σ' (Kq_pan h)
theorem K_cond {c : Operand} {x y : Code} {b : Bool} {fs : List Fm} (hc : evA σ c = some (.bool b)) (ht : b = true → AW P E x (Kq P E fs Q) σ) (hf : b = false → AW P E y (Kq P E fs Q) σ) : AW P E (.cond c x y) (Kq P E fs Q) σ := AW_cond hc ht hf
theorem K_loop {c : Code} {fs : List Fm} {X : Type} (R : X → Prop) (mk : X → St) (μ : X → Nat) (x0 : X) (h0 : R x0) (m0 : Nat → Nat) (e0 : Ent E.np m0 σ (mk x0))
    (round : ∀ x, R x → AW P E c (Kq P E (.lp (fun σ' => ∃ x', R x' ∧ μ x' < μ x ∧ ∃ m, Ent E.np m σ' (mk x')) :: fs) Q) (mk x)) : AW P E (.loop c) (Kq P E fs Q) σ := AW_loop R mk μ x0 h0 m0 e0 round

theorem K_regA {N : Nat} {id : Nat} {l : List Oper} {fs : List Fm} {n : Nat} {ds : List (Option Nat)} {fr : Nat → Option AV} {hp : Nat → Option AObj} {nx : Nat} (hE : E.nt = N)
    (h : ∀ (K : St → Prop) (Kp : AV → St → Prop), (∀ σ', Kq P E fs Q .norm σ' → K σ') → (∀ x σ', Q (.pan x) σ' → Kp x σ') → goL P true none ds l 0 ⟨fr, hp, nx⟩ (fun σ' => K { σ' with nx := nx + 1048576 * n }) Kp)
    (hd : dstOk N l.toArray = true := by rfl) (hn : l.length = n := by (simp only [List.length_cons, List.length_nil, Nat.reduceAdd]; rfl)) (hds : l.map (·.dst) = ds := by (simp only [List.map_cons, List.map_nil]; rfl)) : AW P E (.region id l.toArray false) (Kq P E fs Q) ⟨fr, hp, nx⟩ :=
  K_reg (by rw [hE]; exact hd) hn hds h
theorem K_drwA {N : Nat} {id : Nat} {l : List Oper} {fs : List Fm} {n : Nat} {ds : List (Option Nat)} {fr : Nat → Option AV} {hp : Nat → Option AObj} {nx : Nat} (bar : Bool) (hm : P.follows .mixedOrders = true) (hE : E.nt = N)
    (h : ∀ (K : St → Prop) (Kp : AV → St → Prop), (∀ σ', Kq P E fs Q .norm σ' → K σ') → (∀ x σ', Q (.pan x) σ' → Kp x σ') → ∀ bl, bl = ancL l.toArray → goL P bar (some bl) ds l 0 ⟨fr, hp, nx⟩ (fun σ' => K { σ' with nx := nx + 1048576 * n }) Kp)
    (hd : dstOk N l.toArray = true := by rfl) (hok : okStatic bar l.toArray = true := by rfl) (hn : l.length = n := by (simp only [List.length_cons, List.length_nil, Nat.reduceAdd]; rfl)) (hds : l.map (·.dst) = ds := by (simp only [List.map_cons, List.map_nil]; rfl)) : AW P E (.region id l.toArray true) (Kq P E fs Q) ⟨fr, hp, nx⟩ :=
  K_drw bar hm (by rw [hE]; exact hd) hok hn hds h
theorem K_condA {c : Operand} {x y : Code} {b : Bool} {fs : List Fm} (ht : b = true → AW P E x (Kq P E fs Q) σ) (hf : b = false → AW P E y (Kq P E fs Q) σ)
    (hc : evA σ c = some (.bool b) := by (simp only [go_sem, ↓reduceIte, Nat.reduceEqDiff]; rfl)) : AW P E (.cond c x y) (Kq P E fs Q) σ := AW_cond hc ht hf

attribute [irreducible] Kq

theorem resA_tmp {P : Program} {σ : St} {t : Nat} {r : AV} (h : σ.fr t = some r) : resA P [.tmp t] σ = some r := by
  simp [resA, rvA, h]

theorem resA_none {P : Program} {σ : St} : resA P [] σ = some (.tup []) := rfl

theorem wrap64 {n : Int} (h1 : -9223372036854775808 ≤ n) (h2 : n < 9223372036854775808) : IntKind.i64.wrap n = n := by
  rw [IntKind.wrap_i64]; omega

end Go.Am

/- The abstract machine: contracts of functions that own some objects. -/
set_option linter.unusedVariables false
set_option linter.unusedSimpArgs false
namespace Go.Am

variable {P : Program} {E : En} {ρ ρ' : Nat → Ref} {V V' : Nat → Prop} {Z : Nat → Nat → Prop} {σ : St} {a : Act} {w : World}

theorem fwd_list (m : Nat → Nat) {n : Nat} {l : List AV} {f : Nat → Value} (hp : AV.idsL (· < n) l) (ih : ∀ y, y ∈ l → ∀ v, y.ids (· < n) → Rel ρ V Z w v y → Rel ρ' V' Z w v (y.ren m))
    (h : ∀ i, i < l.length → Rel ρ V Z w (f i) (l.getD i default)) : ∀ i, i < (AV.renL m l).length → Rel ρ' V' Z w (f i) ((AV.renL m l).getD i default) := by
  intro i hi
  rw [renL_len] at hi
  rw [renL_getD m l i hi]
  have hm : l.getD i default ∈ l := by
    have : l.getD i default = l[i] := by simp [List.getD_eq_getElem?_getD, hi]
    rw [this]; exact List.getElem_mem hi
  exact ih _ hm _ (idsL_getD l i hi hp) (h i hi)

mutual
theorem rel_fwd (m : Nat → Nat) {n : Nat} (hm : ∀ id, id < n → V id → V' (m id) ∧ ρ' (m id) = ρ id) : ∀ (x : AV) (v : Value), x.ids (· < n) → Rel ρ V Z w v x → Rel ρ' V' Z w v (x.ren m)
  | .ptr id o, v, hp, h => by obtain ⟨rfl, h2⟩ := h.ptr_inv; have h3 := hm id hp h2; rw [← h3.2]; exact .ptr (m id) o h3.1
  | .rptr id sz i o, v, hp, h => by obtain ⟨rfl, h2⟩ := h.rptr_inv; have h3 := hm id hp h2; rw [← h3.2]; exact .rptr (m id) sz i o h3.1
  | .rw id, v, hp, h => by obtain ⟨rfl, h2⟩ := h.rw_inv; have h3 := hm id hp h2; rw [← h3.2]; exact .rw (m id) h3.1
  | .mp id, v, hp, h => by obtain ⟨rfl, h2⟩ := h.mp_inv; have h3 := hm id hp h2; rw [← h3.2]; exact .mp (m id) h3.1
  | .fn f a b, v, hp, h => by
    obtain ⟨fs, cs, rfl, h1, h2, h3, h4⟩ := h.fn_inv
    exact .fn f fs cs _ _ (by rw [renL_len]; exact h1) (by rw [renL_len]; exact h2) (fwd_list m hp.1 (fun y hy v => rel_fwdL m hm a y hy v) h3) (fwd_list m hp.2 (fun y hy v => rel_fwdL m hm b y hy v) h4)
  | .iface t y, v, hp, h => by
    obtain ⟨u, rfl, h1⟩ := h.iface_inv
    exact .iface t u _ (rel_fwd m hm y u hp h1)
  | .agg l, v, hp, h => by
    obtain ⟨cs, rfl, h1, h2, h3⟩ := h.agg_inv
    refine .agg cs _ (by rw [renL_len]; exact h1) (fun i hi => ?_) (fwd_list m hp (fun y hy v => rel_fwdL m hm l y hy v) h3)
    rw [renL_len] at hi
    rw [renL_getD m l i hi, ren_one]
    exact h2 i hi
  | .tup l, v, hp, h => by
    obtain ⟨cs, rfl, h1, h3⟩ := h.tup_inv
    exact .tup cs _ (by rw [renL_len]; exact h1) (fwd_list m hp (fun y hy v => rel_fwdL m hm l y hy v) h3)
  | .bool b, v, _, h => clo_rel h rfl _ _
  | .int k i, v, _, h => clo_rel h rfl _ _
  | .str s, v, _, h => clo_rel h rfl _ _
  | .nilp, v, _, h => clo_rel h rfl _ _
  | .eptr e o, v, _, h => clo_rel h rfl _ _
  | .nilsl, v, _, h => clo_rel h rfl _ _
  | .sl l, v, _, h => clo_rel h rfl _ _
  | .nilmap, v, _, h => clo_rel h rfl _ _
  | .nilfn, v, _, h => clo_rel h rfl _ _
  | .nilif, v, _, h => clo_rel h rfl _ _
theorem rel_fwdL (m : Nat → Nat) {n : Nat} (hm : ∀ id, id < n → V id → V' (m id) ∧ ρ' (m id) = ρ id) : ∀ (l : List AV) (y : AV), y ∈ l → ∀ (v : Value), y.ids (· < n) → Rel ρ V Z w v y → Rel ρ' V' Z w v (y.ren m)
  | [], y, hy, _, _, _ => absurd hy List.not_mem_nil
  | x :: l, y, hy, v, hp, h => by
    rcases List.mem_cons.1 hy with e | e
    · rw [e] at hp h ⊢; exact rel_fwd m hm x v hp h
    · exact rel_fwdL m hm l y e v hp h
end

theorem obj_fwd (m : Nat → Nat) {n id : Nat} {o : AObj} (hm : ∀ id, id < n → V id → V' (m id) ∧ ρ' (m id) = ρ id) (hid : id < n) (hv : V id) (hp : o.ids (· < n)) (h : ObjRel ρ V Z w id o) : ObjRel ρ' V' Z w (m id) (o.ren m) := by
  have hr := (hm id hid hv).2
  cases o with
  | cells l =>
    obtain ⟨h0, cs, ty, h1, h2, h3⟩ := h
    refine ⟨by rw [hr]; exact h0, cs, ty, by rw [hr]; exact h1, by rw [renL_len]; exact h2, fun i hi => ?_⟩
    rw [renL_len] at hi
    rw [renL_getD m l i hi, ren_one]
    exact ⟨(h3 i hi).1, rel_fwd m hm _ _ (idsL_getD l i hi hp) (h3 i hi).2⟩
  | row sz l =>
    rcases h with ⟨h0, h1⟩ | ⟨h0, cs, ty, h1, h2, h3, h4, h5, h6⟩
    · subst h1; exact .inl ⟨by rw [hr]; exact h0, rfl⟩
    · refine .inr ⟨by rw [hr]; exact h0, cs, ty, by rw [hr]; exact h1, by rw [hr, renL_len]; exact h2, by rw [hr, renL_len]; exact h3, by rw [hr]; exact h4, fun i hi => ?_, fun i j hi hj => ?_⟩
      · rw [renL_len] at hi
        rw [renL_getD m l i hi, ren_cells, renL_len]
        exact h5 i hi
      · rw [renL_len] at hi
        have hlen := h5 i hi
        rw [renL_getD m l i hi, ren_cells, renL_getD m _ j (by omega), ren_one]
        exact ⟨(h6 i j hi hj).1, rel_fwd m hm _ _ (idsL_getD _ j (by omega) (ids_cells (idsL_getD l i hi hp))) (h6 i j hi hj).2⟩
  | map es =>
    obtain ⟨h0, ents, clock, h1, h2, h3⟩ := h
    refine ⟨by rw [hr]; exact h0, ents, clock, by rw [hr]; exact h1, by rw [List.length_map]; exact h2, fun i hi => ?_⟩
    rw [List.length_map] at hi
    have e : (es.map fun p => (p.1.ren m, p.2.ren m)).getD i default = ((es.getD i default).1.ren m, (es.getD i default).2.ren m) := by
      simp [List.getD_eq_getElem?_getD, hi]
    rw [e]
    have hm' : es.getD i default ∈ es := by
      have : es.getD i default = es[i] := by simp [List.getD_eq_getElem?_getD, hi]
      rw [this]; exact List.getElem_mem hi
    exact ⟨rel_fwd m hm _ _ (hp _ hm').1 (h3 i hi).1, rel_fwd m hm _ _ (hp _ hm').2 (h3 i hi).2⟩

/-- The blocks of some objects. -/
def OwnB (ρ : Nat → Ref) (hp : Nat → Option AObj) (b : Nat) : Prop := ∃ id o, hp id = some o ∧ (ρ id).at b

/-- The contract of a function that owns some objects: what it returns, or panics with, and the objects then; those with numbers below np keep their place. -/
def ACall (P : Program) (f : FuncId) (vs : List AV) (hp : Nat → Option AObj) (nx np : Nat) (R Rp : AV → (Nat → Option AObj) → Prop) : Prop :=
  isFn P f = true ∧ ∀ (ρ : Nat → Ref) (V : Nat → Prop) (Z : Nat → Nat → Prop) (w : World) (args : Array Value), HSat ρ V Z w hp → (∀ id, id < np → V id) → (∀ id, V id → id < nx) → args.size = vs.length →
    (∀ i, i < vs.length → Rel ρ V Z w (args.getD i undef) (vs.getD i default)) →
    Calls P f args w fun e w' => ∃ ρ' V' Z' hp', HSat ρ' V' Z' w' hp' ∧ Ext w w' (OwnB ρ hp) ∧ (∀ id, id < np → V' id ∧ ρ' id = ρ id) ∧ (∀ b o, Z b o → Z' b o) ∧
      (∀ b o, Z' b o → Z b o ∨ w.heap.size ≤ b ∨ OwnB ρ hp b) ∧ (∀ id o b, hp' id = some o → (ρ' id).at b → b < w.heap.size → OwnB ρ hp b) ∧
      ((∃ v r, e = .returned v ∧ Rel ρ' V' Z' w' v r ∧ R r hp') ∨ ∃ v x, e = .panicked [{ v, recovered := false }] ∧ Rel ρ' V' Z' w' v x ∧ Rp x hp')

theorem getD_args {args : Array Value} {n t : Nat} (h : t < args.size) : (args ++ Array.replicate n undef).getD t undef = args.getD t undef := by
  simp only [Array.getD_eq_getD_getElem?]; rw [Array.getElem?_append_left h]

theorem sat_start {vs : List AV} {hp : Nat → Option AObj} {nx np n : Nat} {args : Array Value} (hn : vs.length ≤ n) (hh : HSat ρ V Z w hp) (hnp : ∀ id, id < np → V id) (hsz : args.size = vs.length)
    (hrel : ∀ i, i < vs.length → Rel ρ V Z w (args.getD i undef) (vs.getD i default)) :
    Sat ⟨n, [], w, OwnB ρ hp, Z, np, ρ⟩ ρ V Z ⟨mkPar 0 vs, hp, nx⟩ { tmps := args ++ Array.replicate (n - args.size) undef, defers := [] } w := by
  refine ⟨?_, rfl, fun t x hx => ?_, hh, ⟨fun _ _ _ => rfl, Nat.le_refl _, rfl, rfl, ?_⟩, fun id o b h1 h2 _ => ⟨id, o, h1, h2⟩, fun _ _ h => h, fun _ _ h => .inl h, fun id hid => ⟨hnp id hid, rfl⟩⟩
  · simp; omega
  · replace hx : mkPar 0 vs t = some x := hx
    rw [mkPar_eq] at hx
    simp only [Nat.zero_le, if_true, Nat.sub_zero] at hx
    have hlt : t < vs.length := by
      rcases Nat.lt_or_ge t vs.length with h' | h'
      · exact h'
      · rw [List.getElem?_eq_none h'] at hx; cases hx
    have h1 := hrel t hlt
    have e1 : vs.getD t default = x := by simp [List.getD_eq_getElem?_getD, hx]
    rw [e1] at h1
    show Rel ρ V Z w ((args ++ Array.replicate (n - args.size) undef).getD t undef) x
    rw [getD_args (by omega)]
    exact h1
  · intro b hb c t f hcf
    rcases hb with hb | ⟨id, o, h1, h2⟩
    · rw [Array.getElem?_eq_none hb] at hcf; cases hcf
    · have h3 := (hh.obj id o h1).2
      cases o with
      | cells l => obtain ⟨_, cs, ty, k1, _⟩ := h3; rw [h2.2, hcf] at k1; cases k1; rfl
      | row sz l =>
        rcases h3 with ⟨k0, _⟩ | ⟨_, cs, ty, k1, _⟩
        · rw [h2.1] at k0; cases k0
        · rw [h2.2, hcf] at k1; cases k1; rfl
      | map es => obtain ⟨_, cs, ty, k1, _⟩ := h3; rw [h2.2, hcf] at k1; cases k1

theorem ACall.of_body {f : FuncId} {fn : Func} {c : Code} {vs : List AV} {hp : Nat → Option AObj} {nx np : Nat} {R Rp : AV → (Nat → Option AObj) → Prop} (hf : P.funcs[f]? = some fn) (hfn : isFn P f = true) (hb : fn.body = some c) (hn : vs.length ≤ fn.ntmps)
    (h : ∀ (E : En) (Q : AEx → St → Prop), E.nt = fn.ntmps → E.np = np → (∀ σ, (∃ r, resA P fn.results.toList σ = some r ∧ R r σ.hp) → Q .ret σ ∧ Q .norm σ) → (∀ x σ, Rp x σ.hp → Q (.pan x) σ) → AW P E c Q ⟨mkPar 0 vs, hp, nx⟩) : ACall P f vs hp nx np R Rp := by
  refine ⟨hfn, fun ρ V Z w args hh hnp hnx hsz hrel => ?_⟩
  have hsat := sat_start (nx := nx) hn hh hnp hsz hrel
  have hbody := h _ (fun e σ => match e with | .ret | .norm => ∃ r, resA P fn.results.toList σ = some r ∧ R r σ.hp | .pan x => Rp x σ.hp | .exit _ => False) rfl rfl (fun σ hσ => ⟨hσ, hσ⟩) (fun x σ hσ => hσ) ρ V Z _ w hsat hnx
  refine calls_of_wp hf hb (Code.wp_mono ?_ hbody)
  rintro e a w' ⟨ρ', V', Z', σ, x, h1, h2, h3, h4⟩
  have hret : (∃ r, resA P fn.results.toList σ = some r ∧ R r σ.hp) → a.defers = [] ∧ ∃ v, (results fn a.tmps).run P w' = .ok v w' ∧ ∃ ρ' V' Z' hp', HSat ρ' V' Z' w' hp' ∧ Ext w w' (OwnB ρ hp) ∧ (∀ id, id < np → V' id ∧ ρ' id = ρ id) ∧ (∀ b o, Z b o → Z' b o) ∧
      (∀ b o, Z' b o → Z b o ∨ w.heap.size ≤ b ∨ OwnB ρ hp b) ∧ (∀ id o b, hp' id = some o → (ρ' id).at b → b < w.heap.size → OwnB ρ hp b) ∧
      ((∃ u r, Ending.returned v = .returned u ∧ Rel ρ' V' Z' w' u r ∧ R r hp') ∨ ∃ u x, Ending.returned v = .panicked [{ v := u, recovered := false }] ∧ Rel ρ' V' Z' w' u x ∧ Rp x hp') := by
    rintro ⟨r, hr, hR⟩
    obtain ⟨v, hv1, hv2⟩ := results_run h3 hr
    exact ⟨h3.df, v, hv1, ρ', V', Z', σ.hp, h3.hs, h3.ext, h3.pn, h3.z0, h3.zn, h3.ownd, .inl ⟨v, r, rfl, hv2, hR⟩⟩
  cases e <;> cases x <;> simp only [ExR] at h1
  · exact hret h2
  · exact h2.elim
  · exact hret h2
  · obtain ⟨v, rfl, hv⟩ := h1
    exact ⟨h3.df, ρ', V', Z', σ.hp, h3.hs, h3.ext, h3.pn, h3.z0, h3.zn, h3.ownd, .inr ⟨v, _, rfl, hv, h2⟩⟩

/-- A call of a function that changes nothing, where any call may stand. -/
theorem CallB.of_P {g : FuncId} {us : List AV} {k : Nat} {d : Option Nat} {K : St → Prop} {Kp : AV → St → Prop} (hc : CallP P g us σ d K) : CallB P g us σ k d K Kp := by
  obtain ⟨hok, r, ⟨hg, hp⟩, hfl, hk⟩ := hc
  refine ⟨hg, fun E ρ V Z a w args h hV hd hsz hargs => ?_⟩
  rcases hfl with hfl | hfl
  · have hlt : ∀ b o, ZR ρ Z σ b o → b < w.heap.size := by
      intro b o' hz
      rcases hz with hz | ⟨id, ob, h1, h2⟩
      · exact h.hs.lt b o' hz
      · exact (h.hs.obj id ob h1).2.lt b h2
    refine (hp ρ V (ZR ρ Z σ) w _ hlt (by rw [snapL_len]; exact hsz) (fun i hi => ?_)).mono ?_
    · rw [snapL_len] at hi
      rw [snapL_getD _ i hi]
      exact snap_rel h.hs (hargs i hi) (snapOkL_getD _ i hi hok)
    · rintro e w' ⟨v, Z', rfl, hr, hext, _, _⟩
      have hS : Sat E ρ V Z (σ.put d r) (a.put d v) w' := by
        refine h.step (hp' := σ.hp) (fun _ => False) hd (fun _ _ => rfl) (fun _ h => h) (fun _ _ h => h) (fun _ h => h.elim) (fun b hb _ => hext.old b hb (fun h => h)) hext.le hext.os hext.out ?_ ?_ ?_ (fun b o hz => .inl hz) (flatR_rel hr hfl _ _ _ _)
        · intro b hb c t f hcf
          rcases hb with hb | hb
          · exact hext.fresh b (.inl hb) c t f hcf
          · exact hb.elim
        · intro id o ho; exact .inl ⟨ho, fun _ _ h => h⟩
        · intro id id' o o' b ho ho' hb hb' _; exact h.hs.inj id id' o o' b ho ho' hb hb'
      exact ⟨ρ, V, Z, fun id hid => .inl hid, fun _ h => h, .inl ⟨v, _, rfl, St.put_nx _ _ _, hk, hS⟩⟩
  · refine (hp ρ V Z w _ h.hs.lt (by rw [snapL_len]; exact hsz) (fun i hi => ?_)).mono ?_
    · rw [snapL_len] at hi
      rw [snapL_getD _ i hi]
      rw [List.all_eq_true] at hfl
      refine snap_noRw h.hs (hargs i hi) (hfl _ ?_)
      have : us.getD i default = us[i] := by simp [List.getD_eq_getElem?_getD, hi]
      rw [this]; exact List.getElem_mem hi
    · rintro e w' ⟨v, Z', rfl, hr, hext, hz1, hz2⟩
      have hS : Sat E ρ V Z' (σ.put d r) (a.put d v) w' := by
        refine h.step (hp' := σ.hp) (fun _ => False) hd (fun _ _ => rfl) (fun _ h => h) hz1 (fun _ h => h.elim) (fun b hb _ => hext.old b hb (fun h => h)) hext.le hext.os hext.out ?_ ?_ ?_ (fun b o hz => ?_) hr
        · intro b hb c t f hcf
          rcases hb with hb | hb
          · exact hext.fresh b (.inl hb) c t f hcf
          · exact hb.elim
        · intro id o ho; exact .inl ⟨ho, fun _ _ h => h⟩
        · intro id id' o o' b ho ho' hb hb' _; exact h.hs.inj id id' o o' b ho ho' hb hb'
        · rcases hz2 b o hz with h1 | ⟨h1, h2⟩
          · exact .inl h1
          · exact .inr ⟨.inr h1, h2⟩
      exact ⟨ρ, V, Z', fun id hid => .inl hid, fun _ h => h, .inl ⟨v, _, rfl, St.put_nx _ _ _, hk, hS⟩⟩

theorem CallB_mk {g : FuncId} {vs us : List AV} {r : AV} {k : Nat} {d : Option Nat} {K : St → Prop} {Kp : AV → St → Prop} (hu : AV.snapL σ.hp vs = us) (h : PCall P g us r) (hs : AV.snapOkL σ.hp vs) (hf : r.flatR = true ∨ vs.all AV.noRw = true) (hk : K (σ.put d r)) {tg : Tg (CallB P g vs σ k d K Kp)} : Hold (CallB P g vs σ k d K Kp) tg :=
  CallB.of_P ⟨hs, r, by rw [hu]; exact h, hf, hk⟩

/-- Where the objects of a callee come to lie. -/
def backM (m : Nat → Nat) (np base : Nat) (j : Nat) : Nat := if j < np then m j else base + (j - np)

/-- What is known behind a call that owned some objects. -/
structure Back (σ σ' : St) (m : Nat → Nat) (hp : Nat → Option AObj) (np base : Nat) (d : Option Nat) (r : Option AV) (hp' : Nat → Option AObj) : Prop where
  nx : σ'.nx = σ.nx
  fr : σ'.fr = (match r with | some r => (σ.put d (r.ren (backM m np base))).fr | none => σ.fr)
  obj : ∀ j o, hp' j = some o → σ'.hp (backM m np base j) = some (o.ren (backM m np base))
  old : ∀ id o, σ.hp id = some o → (∀ j, hp j ≠ none → m j ≠ id) → σ'.hp id = some o

theorem CallB.of_A {f : FuncId} {vs : List AV} {hp : Nat → Option AObj} {nx np : Nat} {R Rp : AV → (Nat → Option AObj) → Prop} (hA : ACall P f vs hp nx np R Rp) (m : Nat → Nat) {us : List AV} {k : Nat} {d : Option Nat} {K : St → Prop} {Kp : AV → St → Prop}
    (hus : us = AV.renL m vs) (hids : AV.idsL (· < nx) vs) (h1 : ∀ id o, hp id = some o → σ.hp (m id) = some (o.ren m) ∧ id < nx ∧ o.ids (· < nx)) (h2 : ∀ id id' o o', hp id = some o → hp id' = some o' → m id = m id' → id = id')
    (h3 : ∀ id, id < np → id < nx ∧ hp id ≠ none)
    (hR : ∀ r hp', R r hp' → r.ids (· < np + 1048576) ∧ ∀ id o, hp' id = some o → id < np + 1048576 ∧ o.ids (· < np + 1048576))
    (hRp : ∀ r hp', Rp r hp' → r.ids (· < np + 1048576) ∧ ∀ id o, hp' id = some o → id < np + 1048576 ∧ o.ids (· < np + 1048576))
    (hK : ∀ r hp' σ', R r hp' → Back σ σ' m hp np (σ.nx + 1048576 * k) d (some r) hp' → K σ')
    (hKp : ∀ x hp' σ', Rp x hp' → Back σ σ' m hp np (σ.nx + 1048576 * k) d none hp' → Kp (x.ren (backM m np (σ.nx + 1048576 * k))) σ') : CallB P f us σ k d K Kp := by
  subst hus
  refine ⟨hA.1, fun E ρ V Z a w args hs hV hd hsz hrel => ?_⟩
  rw [renL_len] at hsz hrel
  have hh : HSat (fun i => ρ (m i)) (fun i => i < nx ∧ V (m i)) Z w hp := by
    refine ⟨fun id o ho => ?_, fun id id' o o' b ho ho' hb hb' => ?_, fun id o b ho hb => ?_, hs.hs.lt⟩
    · obtain ⟨g1, g2, g3⟩ := h1 id o ho
      obtain ⟨g4, g5⟩ := hs.hs.obj _ _ g1
      exact ⟨⟨g2, g4⟩, obj_ren m g3 g5⟩
    · exact h2 id id' o o' ho ho' (hs.hs.inj _ _ _ _ b (h1 id o ho).1 (h1 id' o' ho').1 hb hb')
    · exact hs.hs.sep _ _ b (h1 id o ho).1 hb
  have hpV : ∀ id, id < np → V (m id) := by
    intro id hid
    obtain ⟨g1, g2⟩ := h3 id hid
    cases ho : hp id with
    | none => exact absurd ho g2
    | some o => exact (hs.hs.obj _ _ (h1 id o ho).1).1
  refine (hA.2 _ _ Z w args hh (fun id hid => ⟨(h3 id hid).1, hpV id hid⟩) (fun id hid => hid.1) hsz ?_).mono ?_
  · intro i hi
    have := hrel i hi
    rw [renL_getD m vs i hi] at this
    exact rel_ren m _ _ (idsL_getD vs i hi hids) this
  rintro e w' ⟨ρ', V', Z', hp', k1, k2, k3, k4, k5, k6, k7⟩
  generalize hbase : σ.nx + 1048576 * k = base at *
  have hown : ∀ b, OwnB (fun i => ρ (m i)) hp b → b < E.w0.heap.size → E.own b := by
    rintro b ⟨id, o, g1, g2⟩ hb
    exact hs.ownd _ _ b (h1 id o g1).1 g2 hb
  have hownZ : ∀ b, OwnB (fun i => ρ (m i)) hp b → ∀ off, ¬ Z b off := by
    rintro b ⟨id, o, g1, g2⟩
    exact hs.hs.sep _ _ b (h1 id o g1).1 g2
  have hkeep : ∀ b, b < w.heap.size → ¬ OwnB (fun i => ρ (m i)) hp b → w'.heap[b]? = w.heap[b]? := k2.old
  have hcell : ∀ b o, Z b o → w'.cell? ⟨b, o, none⟩ = w.cell? ⟨b, o, none⟩ := fun b o hz => cell?_of_heap (hkeep b (hs.hs.lt b o hz) (fun hb => hownZ b hb o hz))
  let mm := backM m np base
  let ρn : Nat → Ref := fun id => if base ≤ id ∧ id < base + 1048576 then ρ' (id - base + np) else ρ id
  let Vn : Nat → Prop := fun id => V id ∨ (base ≤ id ∧ id < base + 1048576 ∧ V' (id - base + np))
  have hρV : ∀ id, V id → ρn id = ρ id := fun id hid => if_neg (hV id hid)
  have hm : ∀ j, j < np + 1048576 → V' j → Vn (mm j) ∧ ρn (mm j) = ρ' j := by
    intro j hj hv
    by_cases hlt : j < np
    · have e : mm j = m j := if_pos hlt
      rw [e]
      exact ⟨.inl (hpV j hlt), (hρV _ (hpV j hlt)).trans (k3 j hlt).2.symm⟩
    · have e : mm j = base + (j - np) := if_neg hlt
      rw [e]
      have e2 : base + (j - np) - base + np = j := by omega
      refine ⟨.inr ⟨by omega, by omega, by rw [e2]; exact hv⟩, ?_⟩
      show (if base ≤ base + (j - np) ∧ base + (j - np) < base + 1048576 then ρ' (base + (j - np) - base + np) else ρ _) = _
      rw [if_pos ⟨by omega, by omega⟩, e2]
  have hinj : ∀ j j', j < np + 1048576 → j' < np + 1048576 → mm j = mm j' → j = j' := by
    intro j j' hj hj' he
    by_cases hlt : j < np <;> by_cases hlt' : j' < np
    · rw [show mm j = m j from if_pos hlt, show mm j' = m j' from if_pos hlt'] at he
      obtain ⟨g1, g2⟩ := h3 j hlt
      obtain ⟨g3, g4⟩ := h3 j' hlt'
      cases ho : hp j with
      | none => exact absurd ho g2
      | some o =>
        cases ho' : hp j' with
        | none => exact absurd ho' g4
        | some o' => exact h2 j j' o o' ho ho' he
    · rw [show mm j = m j from if_pos hlt, show mm j' = base + (j' - np) from if_neg hlt'] at he
      exact absurd ⟨by omega, by omega⟩ (hV _ (hpV j hlt))
    · rw [show mm j = base + (j - np) from if_neg hlt, show mm j' = m j' from if_pos hlt'] at he
      exact absurd ⟨by omega, by omega⟩ (hV _ (hpV j' hlt'))
    · rw [show mm j = base + (j - np) from if_neg hlt, show mm j' = base + (j' - np) from if_neg hlt'] at he
      omega
  classical
  let hpn : Nat → Option AObj := fun id => if h : ∃ j o, hp' j = some o ∧ mm j = id then some (h.choose_spec.choose.ren mm) else if ∃ j, hp j ≠ none ∧ m j = id then none else if base ≤ id ∧ id < base + 1048576 then none else σ.hp id
  have key : (∀ id o, hp' id = some o → id < np + 1048576 ∧ o.ids (· < np + 1048576)) → ∀ (a2 : Act) (fr2 : Nat → Option AV), a2.tmps.size = E.nt → a2.defers = E.D → (∀ t x, fr2 t = some x → Rel ρn Vn Z' w' (a2.tmps.getD t undef) x) →
      Sat E ρn Vn Z' ⟨fr2, hpn, σ.nx⟩ a2 w' ∧ (∀ j o, hp' j = some o → hpn (mm j) = some (o.ren mm)) ∧ (∀ id o, σ.hp id = some o → (∀ j, hp j ≠ none → m j ≠ id) → hpn id = some o) := by
    intro hB a2 fr2 hnt2 hdf2 hfr2
    have hn1 : ∀ j o, hp' j = some o → hpn (mm j) = some (o.ren mm) := by
      intro j o ho
      have hex : ∃ j' o', hp' j' = some o' ∧ mm j' = mm j := ⟨j, o, ho, rfl⟩
      have g : hpn (mm j) = some (hex.choose_spec.choose.ren mm) := dif_pos hex
      have g2 := hex.choose_spec.choose_spec
      have g3 := hinj _ _ (hB _ _ g2.1).1 (hB _ _ ho).1 g2.2
      have g4 := g2.1.symm.trans ((congrArg hp' g3).trans ho)
      rw [g]
      exact congrArg some (congrArg (AObj.ren mm) (Option.some.inj g4))
    have hn2 : ∀ id o, hpn id = some o → (∃ j o', hp' j = some o' ∧ mm j = id ∧ o = o'.ren mm) ∨ (σ.hp id = some o ∧ ∀ j, hp j ≠ none → m j ≠ id) := by
      intro id o ho
      by_cases hex : ∃ j o', hp' j = some o' ∧ mm j = id
      · obtain ⟨j, o', g1, g2⟩ := hex
        have := hn1 j o' g1
        rw [g2, ho] at this
        exact .inl ⟨j, o', g1, g2, Option.some.inj this⟩
      · have g : hpn id = if ∃ j, hp j ≠ none ∧ m j = id then none else if base ≤ id ∧ id < base + 1048576 then none else σ.hp id := dif_neg hex
        rw [g] at ho
        by_cases hfp : ∃ j, hp j ≠ none ∧ m j = id
        · rw [if_pos hfp] at ho; cases ho
        · rw [if_neg hfp] at ho
          by_cases hrg : base ≤ id ∧ id < base + 1048576
          · rw [if_pos hrg] at ho; cases ho
          · rw [if_neg hrg] at ho
            exact .inr ⟨ho, fun j g1 g2 => hfp ⟨j, g1, g2⟩⟩
    have hoV : ∀ id o, σ.hp id = some o → V id := fun id o ho => (hs.hs.obj id o ho).1
    have hob : ∀ id o b, σ.hp id = some o → (∀ j, hp j ≠ none → m j ≠ id) → (ρ id).at b → b < w.heap.size ∧ ¬ OwnB (fun i => ρ (m i)) hp b := by
      intro id o b ho hne hb
      refine ⟨(hs.hs.obj id o ho).2.lt b hb, ?_⟩
      rintro ⟨j, o', g1, g2⟩
      exact hne j (by rw [g1]; simp) (hs.hs.inj _ _ _ _ b (h1 j o' g1).1 ho g2 hb)
    have hn3 : ∀ id o, σ.hp id = some o → (∀ j, hp j ≠ none → m j ≠ id) → hpn id = some o := by
      intro id o ho hne
      have hex : ¬ ∃ j o', hp' j = some o' ∧ mm j = id := by
        rintro ⟨j, o', g1, g2⟩
        by_cases hlt : j < np
        · rw [show mm j = m j from if_pos hlt] at g2
          exact hne j (h3 j hlt).2 g2
        · rw [show mm j = base + (j - np) from if_neg hlt] at g2
          have := (hB _ _ g1).1
          exact hV id (hoV id o ho) (by omega)
      have g : hpn id = if ∃ j, hp j ≠ none ∧ m j = id then none else if base ≤ id ∧ id < base + 1048576 then none else σ.hp id := dif_neg hex
      rw [g, if_neg (by rintro ⟨j, g1, g2⟩; exact hne j g1 g2), if_neg (hV id (hoV id o ho))]
      exact ho
    refine ⟨⟨hnt2, hdf2, hfr2, ⟨?_, ?_, ?_, k1.lt⟩, ⟨?_, Nat.le_trans hs.ext.le k2.le, k2.os.trans hs.ext.os, k2.out.trans hs.ext.out, ?_⟩, ?_, fun b o hz => k4 _ _ (hs.z0 b o hz), ?_, ?_⟩, hn1, hn3⟩
    · intro id o ho
      rcases hn2 id o ho with ⟨j, o', g1, rfl, rfl⟩ | ⟨g1, g2⟩
      · have g3 := k1.obj j o' g1
        have g4 := hB j o' g1
        exact ⟨(hm j g4.1 g3.1).1, obj_fwd mm hm g4.1 g3.1 g4.2 g3.2⟩
      · have g3 := hs.hs.obj id o g1
        exact ⟨.inl g3.1, g3.2.mono g3.1 hρV (fun _ h => .inl h) k4 hcell (fun b hb => hkeep b (hob id o b g1 g2 hb).1 (hob id o b g1 g2 hb).2)⟩
    · intro id id' o o' b ho ho' hb hb'
      have hmix : ∀ j o1 id2 o2, hp' j = some o1 → σ.hp id2 = some o2 → (∀ j, hp j ≠ none → m j ≠ id2) → (ρ' j).at b → (ρ id2).at b → False := by
        intro j o1 id2 o2 g1 g2 g3 g4 g5
        have g6 := hob id2 o2 b g2 g3 g5
        exact g6.2 (k6 j o1 b g1 g4 g6.1)
      rcases hn2 id o ho with ⟨j, o1, g1, rfl, rfl⟩ | ⟨g1, g2⟩ <;> rcases hn2 id' o' ho' with ⟨j', o1', g1', rfl, rfl⟩ | ⟨g1', g2'⟩
      · rw [(hm j (hB j o1 g1).1 (k1.obj j o1 g1).1).2] at hb
        rw [(hm j' (hB j' o1' g1').1 (k1.obj j' o1' g1').1).2] at hb'
        rw [k1.inj j j' o1 o1' b g1 g1' hb hb']
      · rw [(hm j (hB j o1 g1).1 (k1.obj j o1 g1).1).2] at hb
        rw [hρV _ (hoV _ _ g1')] at hb'
        exact (hmix j o1 id' o' g1 g1' g2' hb hb').elim
      · rw [(hm j' (hB j' o1' g1').1 (k1.obj j' o1' g1').1).2] at hb'
        rw [hρV _ (hoV _ _ g1)] at hb
        exact (hmix j' o1' id o g1' g1 g2 hb' hb).elim
      · rw [hρV _ (hoV _ _ g1)] at hb
        rw [hρV _ (hoV _ _ g1')] at hb'
        exact hs.hs.inj id id' o o' b g1 g1' hb hb'
    · intro id o b ho hb off hz
      rcases hn2 id o ho with ⟨j, o1, g1, rfl, rfl⟩ | ⟨g1, g2⟩
      · rw [(hm j (hB j o1 g1).1 (k1.obj j o1 g1).1).2] at hb
        exact k1.sep j o1 b g1 hb off hz
      · rw [hρV _ (hoV _ _ g1)] at hb
        have g3 := hob id o b g1 g2 hb
        rcases k5 b off hz with g | g | g
        · exact hs.hs.sep id o b g1 hb off g
        · omega
        · exact g3.2 g
    · intro b hb hno
      have hb' : b < w.heap.size := Nat.lt_of_lt_of_le hb hs.ext.le
      rw [hkeep b hb' (fun h => hno (hown b h hb))]
      exact hs.ext.old b hb hno
    · intro b hb c t f hcf
      by_cases g : w.heap.size ≤ b ∨ OwnB (fun i => ρ (m i)) hp b
      · exact k2.fresh b g c t f hcf
      · have g1 : b < w.heap.size := Nat.lt_of_not_le fun h => g (.inl h)
        rw [hkeep b g1 (fun h => g (.inr h))] at hcf
        exact hs.ext.fresh b hb c t f hcf
    · intro id o b ho hb hlt
      rcases hn2 id o ho with ⟨j, o1, g1, rfl, rfl⟩ | ⟨g1, g2⟩
      · rw [(hm j (hB j o1 g1).1 (k1.obj j o1 g1).1).2] at hb
        exact hown b (k6 j o1 b g1 hb (Nat.lt_of_lt_of_le hlt hs.ext.le)) hlt
      · rw [hρV _ (hoV _ _ g1)] at hb
        exact hs.ownd id o b g1 hb hlt
    · intro b o hz
      rcases k5 b o hz with g | g | g
      · exact hs.zn b o g
      · exact .inr (.inl (Nat.le_trans hs.ext.le g))
      · rcases Nat.lt_or_ge b E.w0.heap.size with g1 | g1
        · exact .inr (.inr (hown b g g1))
        · exact .inr (.inl g1)
    · intro id hid
      have g := hs.pn id hid
      exact ⟨.inl g.1, (hρV _ g.1).trans g.2⟩
  have hfrm : ∀ t x, σ.fr t = some x → Rel ρn Vn Z' w' (a.tmps.getD t undef) x := fun t x hx => (hs.fr t x hx).mono hρV (fun _ h => .inl h) k4 hcell
  refine ⟨ρn, Vn, Z', fun id hid => hid.imp (fun h => h) (fun h => ⟨h.1, h.2.1⟩), fun id hid => .inl hid, ?_⟩
  rcases k7 with ⟨v, r, rfl, hr, hRr⟩ | ⟨v, x, rfl, hr, hRr⟩
  · have hb := hR r hp' hRr
    have hrel2 := rel_fwd mm hm r v hb.1 hr
    obtain ⟨g1, g2, g3⟩ := key hb.2 (a.put d v) (σ.put d (r.ren mm)).fr (by rw [putS]; exact hs.nt) (by rw [putD]; exact hs.df) (put_fr (σ := σ) hfrm hrel2 (fun n hn => by rw [hs.nt]; exact hd n hn))
    exact .inl ⟨v, ⟨(σ.put d (r.ren mm)).fr, hpn, σ.nx⟩, rfl, rfl, hK r hp' ⟨(σ.put d (r.ren mm)).fr, hpn, σ.nx⟩ hRr ⟨rfl, rfl, g2, g3⟩, g1⟩
  · have hb := hRp x hp' hRr
    have hrel2 := rel_fwd mm hm x v hb.1 hr
    obtain ⟨g1, g2, g3⟩ := key hb.2 a σ.fr hs.nt hs.df hfrm
    exact .inr ⟨v, x.ren mm, ⟨σ.fr, hpn, σ.nx⟩, rfl, rfl, hKp x hp' ⟨σ.fr, hpn, σ.nx⟩ hRr ⟨rfl, rfl, g2, g3⟩, hrel2, g1⟩

end Go.Am

/- The abstract machine: owned rows that are given up and only read from then on. -/
set_option linter.unusedVariables false
set_option linter.unusedSimpArgs false
namespace Go.Am

variable {P : Program} {E : En} {ρ : Nat → Ref} {V : Nat → Prop} {Z : Nat → Nat → Prop} {σ : St} {a : Act} {w : World}

/-- A value as it was, or with rows that are only read. -/
def Snp (F : Nat → Option AObj) (x x' : AV) : Prop := x' = x ∨ (x.snapOk F ∧ x' = x.snap F)

def SnpO (F : Nat → Option AObj) : AObj → AObj → Prop
  | .cells l, .cells l' => l'.length = l.length ∧ ∀ i, i < l.length → Snp F (l.getD i default) (l'.getD i default)
  | .row sz l, .row sz' l' => sz' = sz ∧ l'.length = l.length ∧ ∀ i, i < l.length → Snp F (l.getD i default) (l'.getD i default)
  | .map es, .map es' => es' = es
  | _, _ => False

theorem SnpO.refl {F : Nat → Option AObj} (o : AObj) : SnpO F o o := by
  cases o with
  | cells l => exact ⟨rfl, fun i _ => .inl rfl⟩
  | row sz l => exact ⟨rfl, rfl, fun i _ => .inl rfl⟩
  | map es => rfl

theorem snap_cells {F : Nat → Option AObj} (x : AV) : (x.snap F).cells.length = x.cells.length ∧ ∀ j, j < x.cells.length → (x.snap F).cells.getD j default = (x.cells.getD j default).snap F := by
  by_cases h : ∃ l, x = .agg l
  · obtain ⟨l, rfl⟩ := h
    simp only [AV.snap, AV.cells]
    exact ⟨snapL_len l, fun j hj => snapL_getD l j hj⟩
  · have h' : ∀ l, x ≠ .agg l := fun l e => h ⟨l, e⟩
    have e1 : x.cells = [x] := by cases x <;> first | rfl | exact absurd rfl (h' _)
    have e2 : (x.snap F).cells = [x.snap F] := by
      cases x <;> first | rfl | exact absurd rfl (h' _) | (simp only [AV.snap]; split <;> rfl)
    rw [e1, e2]
    refine ⟨rfl, fun j hj => ?_⟩
    obtain rfl : j = 0 := by simpa using hj
    rfl

theorem snapOk_cells {F : Nat → Option AObj} {x : AV} (h : x.snapOk F) (ht : x.isTup = false) : ∀ j, j < x.cells.length → (x.cells.getD j default).snapOk F := by
  by_cases hx : ∃ l, x = .agg l
  · obtain ⟨l, rfl⟩ := hx
    exact fun j hj => snapOkL_getD l j hj h
  · have h' : ∀ l, x ≠ .agg l := fun l e => hx ⟨l, e⟩
    have e1 : x.cells = [x] := by cases x <;> first | rfl | exact absurd rfl (h' _)
    rw [e1]
    intro j hj
    obtain rfl : j = 0 := by simpa using hj
    exact h

theorem HSat.sub {hp F : Nat → Option AObj} (h : HSat ρ V Z w hp) (hF : ∀ id o, F id = some o → hp id = some o) : HSat ρ V Z w F :=
  ⟨fun id o ho => h.obj id o (hF id o ho), fun id id' o o' b h1 h2 => h.inj id id' o o' b (hF _ _ h1) (hF _ _ h2), fun id o b h1 => h.sep id o b (hF _ _ h1), h.lt⟩

theorem snp_rel {F : Nat → Option AObj} (hF : HSat ρ V Z w F) {v : Value} {x x' : AV} (h : Rel ρ V Z w v x) (hx : Snp F x x') : Rel ρ V (ZR ρ Z ⟨fun _ => none, F, 0⟩) w v x' := by
  rcases hx with rfl | ⟨h1, rfl⟩
  · exact h.mono (fun _ _ => rfl) (fun _ h => h) (fun _ _ h => .inl h) (fun _ _ _ => rfl)
  · exact snap_rel (σ := ⟨fun _ => none, F, 0⟩) hF h h1

theorem snp_one {F : Nat → Option AObj} {x x' : AV} (hx : Snp F x x') : x'.one = x.one := by
  rcases hx with rfl | ⟨_, rfl⟩
  · rfl
  · exact snap_one

theorem objrel_frz {F : Nat → Option AObj} (hF : HSat ρ V Z w F) {id : Nat} {o o' : AObj} (h : ObjRel ρ V Z w id o) (ho : SnpO F o o') : ObjRel ρ V (ZR ρ Z ⟨fun _ => none, F, 0⟩) w id o' := by
  have hm : ∀ {v x}, Rel ρ V Z w v x → Rel ρ V (ZR ρ Z ⟨fun _ => none, F, 0⟩) w v x := fun h => h.mono (fun _ _ => rfl) (fun _ h => h) (fun _ _ h => .inl h) (fun _ _ _ => rfl)
  cases o with
  | cells l =>
    cases o' <;> try exact ho.elim
    rename_i l'
    obtain ⟨e1, e2⟩ := ho
    obtain ⟨h0, cs, ty, h1, h2, h3⟩ := h
    exact ⟨h0, cs, ty, h1, by rw [h2, e1], fun i hi => by rw [e1] at hi; exact ⟨by rw [snp_one (e2 i hi)]; exact (h3 i hi).1, snp_rel hF (h3 i hi).2 (e2 i hi)⟩⟩
  | row sz l =>
    cases o' <;> try exact ho.elim
    rename_i sz' l'
    obtain ⟨rfl, e1, e2⟩ := ho
    rcases h with ⟨h0, h1⟩ | ⟨h0, cs, ty, h1, h2, h3, h4, h5, h6⟩
    · subst h1
      exact .inl ⟨h0, List.length_eq_zero_iff.1 e1⟩
    · have hc : ∀ i, i < l.length → (l'.getD i default).cells.length = (l.getD i default).cells.length ∧ ∀ j, j < (l.getD i default).cells.length → Snp F ((l.getD i default).cells.getD j default) ((l'.getD i default).cells.getD j default) := by
        intro i hi
        rcases e2 i hi with e | ⟨g1, g2⟩
        · rw [e]; exact ⟨rfl, fun j _ => .inl rfl⟩
        · rw [g2]
          refine ⟨(snap_cells _).1, fun j hj => .inr ⟨?_, (snap_cells _).2 j hj⟩⟩
          by_cases ht : (l.getD i default).isTup = false
          · exact snapOk_cells g1 ht j hj
          · exfalso
            have h7 := h5 i hi
            have : ∃ t, l.getD i default = .tup t := by
              revert ht
              cases l.getD i default <;> simp [AV.isTup]
            obtain ⟨t, e⟩ := this
            rw [e] at h7 hj
            simp only [AV.cells, List.length_cons, List.length_nil] at h7 hj
            have := (h6 i j hi (by omega)).1
            rw [e] at this
            obtain rfl : j = 0 := by omega
            simp [AV.cells, AV.one] at this
      refine .inr ⟨h0, cs, ty, h1, by rw [h2, e1], by rw [e1]; exact h3, h4, fun i hi => ?_, fun i j hi hj => ?_⟩
      · rw [e1] at hi
        rw [(hc i hi).1]; exact h5 i hi
      · rw [e1] at hi
        have hj' : j < (l.getD i default).cells.length := by rw [h5 i hi]; exact hj
        have := (hc i hi).2 j hj'
        exact ⟨by rw [snp_one this]; exact (h6 i j hi hj).1, snp_rel hF (h6 i j hi hj).2 this⟩
  | map es =>
    cases o' <;> try exact ho.elim
    rename_i es'
    obtain rfl : es' = es := ho
    obtain ⟨h0, ents, clock, h1, h2, h3⟩ := h
    exact ⟨h0, ents, clock, h1, h2, fun i hi => ⟨hm (h3 i hi).1, hm (h3 i hi).2⟩⟩

/-- Some rows are only read from here on. -/
theorem Sat.frz (h : Sat E ρ V Z σ a w) {F : Nat → Option AObj} (hF : ∀ id o, F id = some o → σ.hp id = some o) {σ' : St}
    (hfr : ∀ t x', σ'.fr t = some x' → ∃ x, σ.fr t = some x ∧ Snp F x x') (hhp : ∀ id o', σ'.hp id = some o' → F id = none ∧ ∃ o, σ.hp id = some o ∧ SnpO F o o') : Sat E ρ V (ZR ρ Z ⟨fun _ => none, F, 0⟩) σ' a w := by
  have hFs := h.hs.sub hF
  refine ⟨h.nt, h.df, fun t x' hx => ?_, ⟨fun id o' ho => ?_, fun id id' o o' b ho ho' => ?_, fun id o' b ho hb off hz => ?_, fun b off hz => ?_⟩, h.ext, fun id o' b ho => ?_, fun b o hz => .inl (h.z0 b o hz), fun b o hz => ?_, h.pn⟩
  · obtain ⟨x, h1, h2⟩ := hfr t x' hx
    exact snp_rel hFs (h.fr t x h1) h2
  · obtain ⟨h1, o, h2, h3⟩ := hhp id o' ho
    have h4 := h.hs.obj id o h2
    exact ⟨h4.1, objrel_frz hFs h4.2 h3⟩
  · obtain ⟨_, o1, h2, _⟩ := hhp id o ho
    obtain ⟨_, o2, h3, _⟩ := hhp id' o' ho'
    exact h.hs.inj id id' o1 o2 b h2 h3
  · obtain ⟨h1, o, h2, _⟩ := hhp id o' ho
    rcases hz with hz | ⟨id2, o2, g1, g2⟩
    · exact h.hs.sep id o b h2 hb off hz
    · have := h.hs.inj id id2 o o2 b h2 (hF _ _ g1) hb g2
      subst this
      replace g1 : F id = some o2 := g1
      rw [h1] at g1; cases g1
  · rcases hz with hz | ⟨id2, o2, g1, g2⟩
    · exact h.hs.lt b off hz
    · exact (h.hs.obj id2 o2 (hF _ _ g1)).2.lt b g2
  · obtain ⟨_, o1, h2, _⟩ := hhp id o' ho
    exact h.ownd id o1 b h2
  · rcases hz with hz | ⟨id2, o2, g1, g2⟩
    · exact h.zn b o hz
    · rcases Nat.lt_or_ge b E.w0.heap.size with g3 | g3
      · exact .inr (.inr (h.ownd id2 o2 b (hF _ _ g1) g2 g3))
      · exact .inr (.inl g3)

theorem AW.frz {c : Code} {Q : AEx → St → Prop} {σ' : St} (F : Nat → Option AObj) (hF : ∀ id o, F id = some o → σ.hp id = some o)
    (hfr : ∀ t x', σ'.fr t = some x' → ∃ x, σ.fr t = some x ∧ Snp F x x') (hhp : ∀ id o', σ'.hp id = some o' → F id = none ∧ ∃ o, σ.hp id = some o ∧ SnpO F o o') (hnx : σ'.nx = σ.nx) (h : AW P E c Q σ') : AW P E c Q σ :=
  fun ρ V Z a w hs hV => h _ _ _ a w (hs.frz hF hfr hhp) (fun id hid => by rw [hnx]; exact hV id hid)

theorem CallB.frz {g : FuncId} {us us' : List AV} {k : Nat} {d : Option Nat} {K : St → Prop} {Kp : AV → St → Prop} {σ' : St} (F : Nat → Option AObj) (hF : ∀ id o, F id = some o → σ.hp id = some o)
    (hfr : ∀ t x', σ'.fr t = some x' → ∃ x, σ.fr t = some x ∧ Snp F x x') (hhp : ∀ id o', σ'.hp id = some o' → F id = none ∧ ∃ o, σ.hp id = some o ∧ SnpO F o o') (hnx : σ'.nx = σ.nx)
    (hl : us'.length = us.length) (hus : ∀ i, i < us.length → Snp F (us.getD i default) (us'.getD i default)) (h : CallB P g us' σ' k d K Kp) : CallB P g us σ k d K Kp := by
  refine ⟨h.1, fun E ρ V Z a w args hs hV hd hsz hrel => ?_⟩
  refine (h.2 E ρ V _ a w args (hs.frz hF hfr hhp) (by rw [hnx]; exact hV) hd (by rw [hl]; exact hsz) (fun i hi => ?_)).mono ?_
  · rw [hl] at hi
    exact snp_rel (hs.hs.sub hF) (hrel i hi) (hus i hi)
  · rintro e w' ⟨ρ', V', Z', h1, h2, h3⟩
    rw [hnx] at h1
    refine ⟨ρ', V', Z', h1, h2, ?_⟩
    rcases h3 with ⟨v, σ2, e1, e2, h4⟩ | ⟨v, x, σ2, e1, e2, h4⟩
    · exact .inl ⟨v, σ2, e1, e2.trans hnx, h4⟩
    · exact .inr ⟨v, x, σ2, e1, e2.trans hnx, h4⟩

end Go.Am

/- The abstract machine: a nil slice in a cell, taken for an owned row without elements. -/
set_option linter.unusedVariables false
set_option linter.unusedSimpArgs false
namespace Go.Am
open Go

theorem Sat.cellrow {E : En} {ρ : Nat → Ref} {V : Nat → Prop} {Z : Nat → Nat → Prop} {σ : St} {a : Act} {w : World} (h : Sat E ρ V Z σ a w) {X id j : Nat} {l : List AV}
    (hX : σ.hp X = some (.cells l)) (hj : l[j]? = some .nilsl) (hid : V id) (hr : ρ id = nilRef) : Sat E ρ V Z { σ with hp := updo σ.hp X (some (.cells (l.set j (.rw id)))) } a w := by
  have hback : ∀ i o, updo σ.hp X (some (.cells (l.set j (.rw id)))) i = some o → ∃ o', σ.hp i = some o' := by
    intro i o ho
    by_cases e : i = X
    · subst e; exact ⟨_, hX⟩
    · simp only [updo, if_neg e] at ho; exact ⟨_, ho⟩
  refine ⟨h.nt, h.df, h.fr, ⟨fun i o ho => ?_, fun i i' o o' b ho ho' => ?_, fun i o b ho => ?_, h.hs.lt⟩, h.ext, fun i o b ho => ?_, h.z0, h.zn, h.pn⟩
  · by_cases e : i = X
    · subst e
      simp only [updo, if_true] at ho
      cases ho
      obtain ⟨hv, h0, cs, ty, h1, h2, h3⟩ := h.hs.obj _ _ hX
      refine ⟨hv, h0, cs, ty, h1, by simpa using h2, fun k hk => ?_⟩
      rw [List.length_set] at hk
      obtain ⟨g1, g2⟩ := h3 k hk
      by_cases e2 : k = j
      · subst e2
        have e3 : (l.set k (AV.rw id)).getD k default = .rw id := by simp [List.getD_eq_getElem?_getD, hk]
        have e4 : l.getD k default = .nilsl := by simp [List.getD_eq_getElem?_getD, hj]
        rw [e3]
        rw [e4] at g2
        refine ⟨rfl, ?_⟩
        have := Rel.rw (ρ := ρ) (V := V) (Z := Z) (w := w) id hid
        rw [g2.nilsl_inv]
        rw [hr] at this
        simpa [Ref.slice, nilRef] using this
      · have e3 : (l.set j (AV.rw id)).getD k default = l.getD k default := by simp only [List.getD_eq_getElem?_getD]; rw [List.getElem?_set_ne (fun e => e2 e.symm)]
        rw [e3]; exact ⟨g1, g2⟩
    · simp only [updo, if_neg e] at ho
      exact h.hs.obj _ _ ho
  · obtain ⟨_, g⟩ := hback _ _ ho
    obtain ⟨_, g'⟩ := hback _ _ ho'
    exact h.hs.inj _ _ _ _ b g g'
  · obtain ⟨_, g⟩ := hback _ _ ho
    exact h.hs.sep _ _ b g
  · obtain ⟨_, g⟩ := hback _ _ ho
    exact h.ownd _ _ b g

/-- A nil slice in a cell of an owned object may be taken for an owned row without elements. -/
theorem AW_nilc {P : Program} {E : En} {c : Code} {Q : AEx → St → Prop} {σ : St} (X j sz : Nat) {l : List AV} (hX : σ.hp X = some (.cells l)) (hj : l[j]? = some .nilsl)
    (h : AW P E c Q { fr := σ.fr, hp := updo (updo σ.hp σ.nx (some (.row sz []))) X (some (.cells (l.set j (.rw σ.nx)))), nx := σ.nx + 1 }) : AW P E c Q σ := by
  intro ρ V Z a w hs hV
  have hnv : ¬ V σ.nx := fun hv => by have := hV _ hv; omega
  have hXn : X ≠ σ.nx := fun e => hnv (e ▸ (hs.hs.obj _ _ hX).1)
  have h1 := hs.newnil (d := none) (fun n hn => by cases hn) hnv sz
  have h2 := h1.cellrow (X := X) (id := σ.nx) (j := j) (l := l) (by simp only [St.put, updo, if_neg hXn]; exact hX) hj (.inr rfl) (by simp)
  refine h _ _ Z a w (h2.nx _) (fun id hid => ?_)
  rcases hid with hid | hid
  · have := hV id hid; simp only; omega
  · simp only; omega
end Go.Am

/- The abstract machine: a drawn region by all its orders. -/
set_option linter.unusedVariables false
set_option linter.unusedSimpArgs false
namespace Go.Am
open Go
variable {P : Program} {E : En}

/-- Those of the remaining operations that may come next. -/
def readyR (r : List (Oper × Nat)) : List (Oper × Nat) := r.filter fun p => p.1.after.toList.all fun e => !Region.binds .any e || !(r.any fun q => q.2 == e.on)

def goAll (P : Program) (ds : List (Option Nat)) : Nat → List (Oper × Nat) → St → (St → Prop) → (AV → St → Prop) → Prop
  | 0, r, σ, K, Kp => r = [] ∧ K σ
  | n + 1, r, σ, K, Kp => if r = [] then K σ else ∀ p, p ∈ readyR r → goG P true none ds p.2 p.1 σ (fun σ' => goAll P ds n (r.filter fun q => q.2 != p.2) σ' K Kp) Kp

theorem rem_set' {ops : Array Oper} {listed : Array Bool} {i : Nat} (hi : i < listed.size) : rem ops (listed.setIfInBounds i true) = (rem ops listed).filter fun p => p.2 != i := by
  unfold rem
  rw [List.filter_filter]
  congr 1
  funext p
  by_cases e : p.2 = i
  · subst e; simp [Array.getD, hi]
  · have e2 : (listed.setIfInBounds i true).getD p.2 true = listed.getD p.2 true := by
      simp [Array.getD_eq_getD_getElem?, Array.getElem?_setIfInBounds_ne (Ne.symm e)]
    rw [e2]
    simp [e]

theorem wpAny_goAll {ops : Array Oper} (hback : okBack ops = true) (hdst : ∀ (i : Nat) (o : Oper), ops[i]? = some o → ∀ n, o.dst = some n → n < E.nt) {nx : Nat} {K : St → Prop} {Kp : AV → St → Prop} {Q : Exit → Act → World → Prop}
    (hfin : ∀ σ' a' w' ρ' V' Z', K σ' → σ'.nx = nx → Sat E ρ' V' Z' σ' a' w' → (∀ id, V' id → id < nx + 1048576 * ops.size) → Q .normal a' w')
    (hP : ∀ σ, σ.nx = nx → Panic' E σ Kp Q) : ∀ (fuel : Nat) (listed : Array Bool) (σ : St) (ρ : Nat → Ref) (V : Nat → Prop) (Z : Nat → Nat → Prop) (a : Act) (w : World), listed.size = ops.size → Sat E ρ V Z σ a w → σ.nx = nx →
      (∀ id, V id → id < nx + 1048576 * ops.size) → (∀ o k, (o, k) ∈ rem ops listed → ∀ id, V id → ¬ (nx + 1048576 * k ≤ id ∧ id < nx + 1048576 * k + 1048576)) →
      goAll P (ops.toList.map (·.dst)) fuel (rem ops listed) σ K Kp → wpAny P .any ops Q fuel listed a w := by
  have hnone : ∀ (listed : Array Bool), listed.size = ops.size → Region.ready .any ops listed = [] → rem ops listed = [] := by
    intro listed hs hr
    cases hrem : rem ops listed with
    | nil => rfl
    | cons p r =>
      exfalso
      obtain ⟨o, i⟩ := p
      have hm : (o, i) ∈ rem ops listed := by rw [hrem]; simp
      obtain ⟨h1, h2⟩ := (mem_rem hs).1 hm
      have hil : i < ops.size := by
        rcases Nat.lt_or_ge i ops.size with h' | h'
        · exact h'
        · rw [Array.getElem?_eq_none h'] at h1; cases h1
      have hin : i ∈ Region.ready .any ops listed := by
        refine mem_ready.2 ⟨hil, by simp [Array.getD_eq_getD_getElem?, h2], o, h1, fun e he hb => ?_⟩
        have hlt := okBack_spec hback h1 e he hb
        have hel : e.on < listed.size := by omega
        cases hv : listed.getD e.on false with
        | true => rfl
        | false =>
          exfalso
          have hl : listed[e.on]? = some false := by
            simp [Array.getD, hel] at hv
            rw [Array.getElem?_eq_getElem hel, hv]
          have hm2 : (ops[e.on]'(by omega), e.on) ∈ rem ops listed := (mem_rem hs).2 ⟨Array.getElem?_eq_getElem _, hl⟩
          have hsort := rem_sorted ops listed
          rw [hrem, List.pairwise_cons] at hsort
          rw [hrem] at hm2
          rcases List.mem_cons.1 hm2 with h5 | h5
          · have := congrArg Prod.snd h5; simp at this; omega
          · have := hsort.1 _ h5; simp at this; omega
      rw [hr] at hin
      cases hin
  have hmt : ∀ (listed : Array Bool) (i : Nat), listed.size = ops.size → i ∈ Region.ready .any ops listed → ∃ y, ops[i]? = some y ∧ (y, i) ∈ rem ops listed ∧ (y, i) ∈ readyR (rem ops listed) := by
    intro listed i hs hi
    obtain ⟨h1, h2, y, h3, h4⟩ := mem_ready.1 hi
    have hi2 : i < listed.size := by omega
    have hm : (y, i) ∈ rem ops listed := (mem_rem hs).2 ⟨h3, by
      simp [Array.getD, hi2] at h2
      rw [Array.getElem?_eq_getElem hi2, h2]⟩
    refine ⟨y, h3, hm, List.mem_filter.2 ⟨hm, ?_⟩⟩
    rw [List.all_eq_true]
    intro e he
    cases hb : Region.binds .any e with
    | false => rfl
    | true =>
      have hl := h4 e he hb
      simp only [Bool.not_true, Bool.false_or, Bool.not_eq_true', List.any_eq_false]
      intro q hq hqe
      simp only [beq_iff_eq] at hqe
      obtain ⟨o, j⟩ := q
      simp only at hqe
      subst hqe
      have := ((mem_rem hs).1 hq).2
      simp [Array.getD_eq_getD_getElem?, this] at hl
  intro fuel
  induction fuel with
  | zero =>
    intro listed σ ρ V Z a w hs h hnx hVb hVk hgo
    refine ⟨?_, hfin _ _ _ _ _ _ hgo.2 hnx h hVb⟩
    rw [List.eq_nil_iff_forall_not_mem]
    intro i hi
    obtain ⟨y, _, g, _⟩ := hmt listed i hs hi
    rw [hgo.1] at g
    cases g
  | succ fuel ih =>
    intro listed σ ρ V Z a w hs h hnx hVb hVk hgo
    refine ⟨fun hr => ?_, fun i hi => ?_⟩
    · rw [goAll, if_pos (hnone listed hs hr)] at hgo
      exact hfin _ _ _ _ _ _ hgo hnx h hVb
    · obtain ⟨y, h3, hm, hrd⟩ := hmt listed i hs hi
      have hi2 : i < listed.size := by
        have := (mem_ready.1 hi).1; omega
      rw [goAll, if_neg (fun e => by rw [e] at hm; cases hm)] at hgo
      have hfront := hgo _ hrd
      simp only at hfront
      refine goG_wp h h3 (fun id hid => by rw [hnx]; exact hVk y i hm id hid) (hdst i y h3) hfront ?_ (hP σ hnx)
      intro σ' a' w' ρ' V' Z' hgo' hnx' hS' hV1 hV2
      rw [hnx] at hV1 hnx'
      refine ih (listed.setIfInBounds i true) σ' ρ' V' Z' a' w' (by simpa using hs) hS' hnx' ?_ ?_ ?_
      · intro id hid
        rcases hV1 id hid with h5 | h5
        · exact hVb id h5
        · have := (mem_ready.1 hi).1; omega
      · intro o k hok' id hid
        rw [rem_set' hi2, List.mem_filter] at hok'
        have hki : k ≠ i := by simpa using hok'.2
        rcases hV1 id hid with h5 | h5
        · exact hVk o k hok'.1 id h5
        · omega
      · rw [rem_set' hi2]; exact hgo'

theorem AW_drawAll {id : Nat} {ops : Array Oper} {Q : AEx → St → Prop} {σ : St} (hm : P.follows .mixedOrders = true) (hd : dstOk E.nt ops = true) (hback : okBack ops = true)
    (h : goAll P (ops.toList.map (·.dst)) ops.size ops.toList.zipIdx σ (fun σ' => Q .norm { σ' with nx := σ.nx + 1048576 * ops.size }) (fun x σ' => Q (.pan x) σ')) : AW P E (.region id ops true) Q σ := by
  intro ρ V Z a w hs hV
  refine wp_region_any hm ?_
  have hs' := hs.drew (w' := { w with drawn := w.drawn + 1 }) rfl rfl rfl
  refine wpAny_goAll (E := E) (nx := σ.nx) (K := fun σ' => Q .norm { σ' with nx := σ.nx + 1048576 * ops.size }) (Kp := fun x σ' => Q (.pan x) σ') hback (dstOk_spec hd) ?_ ?_ _ _ σ ρ V Z a _ (by simp) hs' rfl (fun id hid => by have := hV id hid; omega) ?_ (by rw [rem_init]; exact h)
  · intro σ' a' w' ρ' V' Z' hK hnx hS hb
    exact ⟨ρ', V', Z', _, .norm, trivial, hK, hS.nx _, fun _ => hb⟩
  · intro σ1 hnx x v σ' ρ' V' Z' a' w' hK _ hr hS
    exact ⟨ρ', V', Z', σ', .pan x, ⟨v, rfl, hr⟩, hK, hS, fun hx => absurd rfl (hx x)⟩
  · intro o k _ id hid
    have := hV id hid
    omega
end Go.Am
