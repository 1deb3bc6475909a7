/- A part of the proof: an abstract machine for the walks, and what the walked functions compute. -/
import Derived.Test.YtlhhahocjfgmdaaProg
import Derived.KernelRfl
import Derived.Test.YtlhhahocjfgmdaaMe
import Derived.Test.YtlhhahocjfgmdaaPb
set_option linter.unusedVariables false
set_option linter.unusedSimpArgs false
set_option maxRecDepth 100000
namespace Go.Proofs.Ytlhhahocjfgmdaa
open Go.Am
theorem ti0 : ti Try.prog 0 = some ⟨TK.other, 1, 0, none⟩ := by kernel_rfl
theorem ti1 : ti Try.prog 1 = some ⟨TK.func, 1, 8, some [AV.nilfn]⟩ := by kernel_rfl
theorem ti2 : ti Try.prog 2 = some ⟨TK.int IntKind.i64, 1, 8, some [AV.int IntKind.i64 (0)]⟩ := by kernel_rfl
theorem ti3 : ti Try.prog 3 = some ⟨TK.int IntKind.i64, 1, 8, some [AV.int IntKind.i64 (0)]⟩ := by kernel_rfl
theorem ti4 : ti Try.prog 4 = some ⟨TK.bool, 1, 1, some [AV.bool false]⟩ := by kernel_rfl
theorem ti5 : ti Try.prog 5 = some ⟨TK.int IntKind.u8, 1, 1, some [AV.int IntKind.u8 (0)]⟩ := by kernel_rfl
theorem ti6 : ti Try.prog 6 = some ⟨TK.int IntKind.u8, 1, 1, some [AV.int IntKind.u8 (0)]⟩ := by kernel_rfl
theorem ti7 : ti Try.prog 7 = some ⟨TK.struct [(2, 0), (3, 1), (4, 2), (6, 3)], 4, 24, some [AV.int IntKind.i64 (0), AV.int IntKind.i64 (0), AV.bool false, AV.int IntKind.u8 (0)]⟩ := by kernel_rfl
theorem ti8 : ti Try.prog 8 = some ⟨TK.struct [(2, 0), (3, 1), (4, 2), (6, 3)], 4, 24, some [AV.int IntKind.i64 (0), AV.int IntKind.i64 (0), AV.bool false, AV.int IntKind.u8 (0)]⟩ := by kernel_rfl
theorem ti9 : ti Try.prog 9 = some ⟨TK.str, 1, 16, some [AV.str ⟨#[]⟩]⟩ := by kernel_rfl
theorem ti10 : ti Try.prog 10 = some ⟨TK.str, 1, 16, some [AV.str ⟨#[]⟩]⟩ := by kernel_rfl
theorem ti11 : ti Try.prog 11 = some ⟨TK.str, 1, 16, some [AV.str ⟨#[]⟩]⟩ := by kernel_rfl
theorem ti12 : ti Try.prog 12 = some ⟨TK.int IntKind.u64, 1, 8, some [AV.int IntKind.u64 (0)]⟩ := by kernel_rfl
theorem ti13 : ti Try.prog 13 = some ⟨TK.struct [(9, 0), (12, 1)], 2, 24, some [AV.str ⟨#[]⟩, AV.int IntKind.u64 (0)]⟩ := by kernel_rfl
theorem ti14 : ti Try.prog 14 = some ⟨TK.struct [(9, 0), (12, 1)], 2, 24, some [AV.str ⟨#[]⟩, AV.int IntKind.u64 (0)]⟩ := by kernel_rfl
theorem ti15 : ti Try.prog 15 = some ⟨TK.ptr, 1, 8, some [AV.nilp]⟩ := by kernel_rfl
theorem ti16 : ti Try.prog 16 = some ⟨TK.ptr, 1, 8, some [AV.nilp]⟩ := by kernel_rfl
theorem ti17 : ti Try.prog 17 = some ⟨TK.ptr, 1, 8, some [AV.nilp]⟩ := by kernel_rfl
theorem ti18 : ti Try.prog 18 = some ⟨TK.struct [(17, 0)], 1, 8, some [AV.nilp]⟩ := by kernel_rfl
theorem ti19 : ti Try.prog 19 = some ⟨TK.struct [(17, 0)], 1, 8, some [AV.nilp]⟩ := by kernel_rfl
theorem ti20 : ti Try.prog 20 = some ⟨TK.iface, 1, 16, some [AV.nilif]⟩ := by kernel_rfl
theorem ti21 : ti Try.prog 21 = some ⟨TK.int IntKind.i32, 1, 4, some [AV.int IntKind.i32 (0)]⟩ := by kernel_rfl
theorem ti22 : ti Try.prog 22 = some ⟨TK.slice 60, 1, 24, some [AV.nilsl]⟩ := by kernel_rfl
theorem ti23 : ti Try.prog 23 = some ⟨TK.slice 50, 1, 24, some [AV.nilsl]⟩ := by kernel_rfl
theorem ti24 : ti Try.prog 24 = some ⟨TK.slice 26, 1, 24, some [AV.nilsl]⟩ := by kernel_rfl
theorem ti25 : ti Try.prog 25 = some ⟨TK.struct [(3, 0), (3, 1), (24, 2)], 3, 40, some [AV.int IntKind.i64 (0), AV.int IntKind.i64 (0), AV.nilsl]⟩ := by kernel_rfl
theorem ti26 : ti Try.prog 26 = some ⟨TK.struct [(3, 0), (3, 1), (24, 2)], 3, 40, some [AV.int IntKind.i64 (0), AV.int IntKind.i64 (0), AV.nilsl]⟩ := by kernel_rfl
theorem ti27 : ti Try.prog 27 = some ⟨TK.slice 30, 1, 24, some [AV.nilsl]⟩ := by kernel_rfl
theorem ti28 : ti Try.prog 28 = some ⟨TK.slice 3, 1, 24, some [AV.nilsl]⟩ := by kernel_rfl
theorem ti29 : ti Try.prog 29 = some ⟨TK.struct [(3, 0), (3, 1), (3, 2), (3, 3), (27, 4), (4, 5), (28, 6), (28, 7)], 8, 112, some [AV.int IntKind.i64 (0), AV.int IntKind.i64 (0), AV.int IntKind.i64 (0), AV.int IntKind.i64 (0), AV.nilsl, AV.bool false, AV.nilsl, AV.nilsl]⟩ := by kernel_rfl
theorem ti30 : ti Try.prog 30 = some ⟨TK.struct [(3, 0), (3, 1), (3, 2), (3, 3), (27, 4), (4, 5), (28, 6), (28, 7)], 8, 112, some [AV.int IntKind.i64 (0), AV.int IntKind.i64 (0), AV.int IntKind.i64 (0), AV.int IntKind.i64 (0), AV.nilsl, AV.bool false, AV.nilsl, AV.nilsl]⟩ := by kernel_rfl
theorem ti31 : ti Try.prog 31 = some ⟨TK.func, 1, 8, some [AV.nilfn]⟩ := by kernel_rfl
theorem ti32 : ti Try.prog 32 = some ⟨TK.func, 1, 8, some [AV.nilfn]⟩ := by kernel_rfl
theorem ti33 : ti Try.prog 33 = some ⟨TK.int IntKind.i64, 1, 8, some [AV.int IntKind.i64 (0)]⟩ := by kernel_rfl
theorem ti34 : ti Try.prog 34 = some ⟨TK.func, 1, 8, some [AV.nilfn]⟩ := by kernel_rfl
theorem ti35 : ti Try.prog 35 = some ⟨TK.func, 1, 8, some [AV.nilfn]⟩ := by kernel_rfl
theorem ti36 : ti Try.prog 36 = some ⟨TK.func, 1, 8, some [AV.nilfn]⟩ := by kernel_rfl
theorem ti37 : ti Try.prog 37 = some ⟨TK.other, 1, 0, none⟩ := by kernel_rfl
theorem ti38 : ti Try.prog 38 = some ⟨TK.func, 1, 8, some [AV.nilfn]⟩ := by kernel_rfl
theorem ti39 : ti Try.prog 39 = some ⟨TK.func, 1, 8, some [AV.nilfn]⟩ := by kernel_rfl
theorem ti40 : ti Try.prog 40 = some ⟨TK.func, 1, 8, some [AV.nilfn]⟩ := by kernel_rfl
theorem ti41 : ti Try.prog 41 = some ⟨TK.slice 4, 1, 24, some [AV.nilsl]⟩ := by kernel_rfl
theorem ti42 : ti Try.prog 42 = some ⟨TK.func, 1, 8, some [AV.nilfn]⟩ := by kernel_rfl
theorem ti43 : ti Try.prog 43 = some ⟨TK.func, 1, 8, some [AV.nilfn]⟩ := by kernel_rfl
theorem ti44 : ti Try.prog 44 = some ⟨TK.func, 1, 8, some [AV.nilfn]⟩ := by kernel_rfl
theorem ti45 : ti Try.prog 45 = some ⟨TK.func, 1, 8, some [AV.nilfn]⟩ := by kernel_rfl
theorem ti46 : ti Try.prog 46 = some ⟨TK.func, 1, 8, some [AV.nilfn]⟩ := by kernel_rfl
theorem ti47 : ti Try.prog 47 = some ⟨TK.func, 1, 8, some [AV.nilfn]⟩ := by kernel_rfl
theorem ti48 : ti Try.prog 48 = some ⟨TK.slice 28, 1, 24, some [AV.nilsl]⟩ := by kernel_rfl
theorem ti49 : ti Try.prog 49 = some ⟨TK.struct [(3, 0), (28, 1), (48, 2)], 3, 56, some [AV.int IntKind.i64 (0), AV.nilsl, AV.nilsl]⟩ := by kernel_rfl
theorem ti50 : ti Try.prog 50 = some ⟨TK.struct [(3, 0), (28, 1), (48, 2)], 3, 56, some [AV.int IntKind.i64 (0), AV.nilsl, AV.nilsl]⟩ := by kernel_rfl
theorem ti51 : ti Try.prog 51 = some ⟨TK.func, 1, 8, some [AV.nilfn]⟩ := by kernel_rfl
theorem ti52 : ti Try.prog 52 = some ⟨TK.func, 1, 8, some [AV.nilfn]⟩ := by kernel_rfl
theorem ti53 : ti Try.prog 53 = some ⟨TK.func, 1, 8, some [AV.nilfn]⟩ := by kernel_rfl
theorem ti54 : ti Try.prog 54 = some ⟨TK.func, 1, 8, some [AV.nilfn]⟩ := by kernel_rfl
theorem ti55 : ti Try.prog 55 = some ⟨TK.func, 1, 8, some [AV.nilfn]⟩ := by kernel_rfl
theorem ti56 : ti Try.prog 56 = some ⟨TK.func, 1, 8, some [AV.nilfn]⟩ := by kernel_rfl
theorem ti57 : ti Try.prog 57 = some ⟨TK.func, 1, 8, some [AV.nilfn]⟩ := by kernel_rfl
theorem ti58 : ti Try.prog 58 = some ⟨TK.slice 63, 1, 24, some [AV.nilsl]⟩ := by kernel_rfl
theorem ti59 : ti Try.prog 59 = some ⟨TK.struct [(9, 0), (3, 1), (3, 2), (58, 3), (3, 4)], 5, 64, some [AV.str ⟨#[]⟩, AV.int IntKind.i64 (0), AV.int IntKind.i64 (0), AV.nilsl, AV.int IntKind.i64 (0)]⟩ := by kernel_rfl
theorem ti60 : ti Try.prog 60 = some ⟨TK.struct [(9, 0), (3, 1), (3, 2), (58, 3), (3, 4)], 5, 64, some [AV.str ⟨#[]⟩, AV.int IntKind.i64 (0), AV.int IntKind.i64 (0), AV.nilsl, AV.int IntKind.i64 (0)]⟩ := by kernel_rfl
theorem ti61 : ti Try.prog 61 = some ⟨TK.func, 1, 8, some [AV.nilfn]⟩ := by kernel_rfl
theorem ti62 : ti Try.prog 62 = some ⟨TK.struct [(9, 0), (24, 1)], 2, 40, some [AV.str ⟨#[]⟩, AV.nilsl]⟩ := by kernel_rfl
theorem ti63 : ti Try.prog 63 = some ⟨TK.struct [(9, 0), (24, 1)], 2, 40, some [AV.str ⟨#[]⟩, AV.nilsl]⟩ := by kernel_rfl
theorem ti64 : ti Try.prog 64 = some ⟨TK.func, 1, 8, some [AV.nilfn]⟩ := by kernel_rfl
theorem ti65 : ti Try.prog 65 = some ⟨TK.func, 1, 8, some [AV.nilfn]⟩ := by kernel_rfl
theorem ti66 : ti Try.prog 66 = some ⟨TK.func, 1, 8, some [AV.nilfn]⟩ := by kernel_rfl
theorem ti67 : ti Try.prog 67 = some ⟨TK.func, 1, 8, some [AV.nilfn]⟩ := by kernel_rfl
theorem ti68 : ti Try.prog 68 = some ⟨TK.func, 1, 8, some [AV.nilfn]⟩ := by kernel_rfl
theorem ti69 : ti Try.prog 69 = some ⟨TK.array 2 24, 2, 48, some [AV.nilsl, AV.nilsl]⟩ := by kernel_rfl
theorem ti70 : ti Try.prog 70 = some ⟨TK.func, 1, 8, some [AV.nilfn]⟩ := by kernel_rfl
theorem ti71 : ti Try.prog 71 = some ⟨TK.map 3 4, 1, 8, some [AV.nilmap]⟩ := by kernel_rfl
theorem ti72 : ti Try.prog 72 = some ⟨TK.func, 1, 8, some [AV.nilfn]⟩ := by kernel_rfl
theorem ti73 : ti Try.prog 73 = some ⟨TK.func, 1, 8, some [AV.nilfn]⟩ := by kernel_rfl
theorem ti74 : ti Try.prog 74 = some ⟨TK.func, 1, 8, some [AV.nilfn]⟩ := by kernel_rfl
theorem ti75 : ti Try.prog 75 = some ⟨TK.func, 1, 8, some [AV.nilfn]⟩ := by kernel_rfl
theorem ti76 : ti Try.prog 76 = some ⟨TK.func, 1, 8, some [AV.nilfn]⟩ := by kernel_rfl
theorem ti77 : ti Try.prog 77 = some ⟨TK.func, 1, 8, some [AV.nilfn]⟩ := by kernel_rfl
theorem ti78 : ti Try.prog 78 = some ⟨TK.func, 1, 8, some [AV.nilfn]⟩ := by kernel_rfl
theorem ti79 : ti Try.prog 79 = some ⟨TK.func, 1, 8, some [AV.nilfn]⟩ := by kernel_rfl
theorem ti80 : ti Try.prog 80 = some ⟨TK.func, 1, 8, some [AV.nilfn]⟩ := by kernel_rfl
theorem ti81 : ti Try.prog 81 = some ⟨TK.func, 1, 8, some [AV.nilfn]⟩ := by kernel_rfl
theorem ti82 : ti Try.prog 82 = some ⟨TK.func, 1, 8, some [AV.nilfn]⟩ := by kernel_rfl
theorem ti83 : ti Try.prog 83 = some ⟨TK.func, 1, 8, some [AV.nilfn]⟩ := by kernel_rfl
theorem ti84 : ti Try.prog 84 = some ⟨TK.func, 1, 8, some [AV.nilfn]⟩ := by kernel_rfl
theorem ti85 : ti Try.prog 85 = some ⟨TK.func, 1, 8, some [AV.nilfn]⟩ := by kernel_rfl
theorem ti86 : ti Try.prog 86 = some ⟨TK.func, 1, 8, some [AV.nilfn]⟩ := by kernel_rfl
theorem ti87 : ti Try.prog 87 = some ⟨TK.func, 1, 8, some [AV.nilfn]⟩ := by kernel_rfl
theorem ti88 : ti Try.prog 88 = some ⟨TK.func, 1, 8, some [AV.nilfn]⟩ := by kernel_rfl
theorem ti89 : ti Try.prog 89 = some ⟨TK.func, 1, 8, some [AV.nilfn]⟩ := by kernel_rfl
theorem ti90 : ti Try.prog 90 = some ⟨TK.func, 1, 8, some [AV.nilfn]⟩ := by kernel_rfl
theorem ti91 : ti Try.prog 91 = some ⟨TK.func, 1, 8, some [AV.nilfn]⟩ := by kernel_rfl
theorem ti92 : ti Try.prog 92 = some ⟨TK.func, 1, 8, some [AV.nilfn]⟩ := by kernel_rfl
theorem ti93 : ti Try.prog 93 = some ⟨TK.func, 1, 8, some [AV.nilfn]⟩ := by kernel_rfl
theorem ti94 : ti Try.prog 94 = some ⟨TK.func, 1, 8, some [AV.nilfn]⟩ := by kernel_rfl
theorem ti95 : ti Try.prog 95 = some ⟨TK.func, 1, 8, some [AV.nilfn]⟩ := by kernel_rfl
theorem ti96 : ti Try.prog 96 = some ⟨TK.func, 1, 8, some [AV.nilfn]⟩ := by kernel_rfl
theorem ti97 : ti Try.prog 97 = some ⟨TK.struct [(17, 0), (17, 1), (17, 2), (9, 3)], 4, 40, some [AV.nilp, AV.nilp, AV.nilp, AV.str ⟨#[]⟩]⟩ := by kernel_rfl
theorem ti98 : ti Try.prog 98 = some ⟨TK.struct [(17, 0), (17, 1), (17, 2), (9, 3)], 4, 40, some [AV.nilp, AV.nilp, AV.nilp, AV.str ⟨#[]⟩]⟩ := by kernel_rfl
theorem ti99 : ti Try.prog 99 = some ⟨TK.array 0 16, 0, 0, some []⟩ := by kernel_rfl
theorem ti100 : ti Try.prog 100 = some ⟨TK.struct [(99, 0)], 0, 0, some []⟩ := by kernel_rfl
theorem ti101 : ti Try.prog 101 = some ⟨TK.struct [(99, 0)], 0, 0, some []⟩ := by kernel_rfl
theorem ti102 : ti Try.prog 102 = some ⟨TK.func, 1, 8, some [AV.nilfn]⟩ := by kernel_rfl
theorem ti103 : ti Try.prog 103 = some ⟨TK.int IntKind.u32, 1, 4, some [AV.int IntKind.u32 (0)]⟩ := by kernel_rfl
theorem ti104 : ti Try.prog 104 = some ⟨TK.int IntKind.u8, 1, 1, some [AV.int IntKind.u8 (0)]⟩ := by kernel_rfl
theorem ti105 : ti Try.prog 105 = some ⟨TK.int IntKind.u8, 1, 1, some [AV.int IntKind.u8 (0)]⟩ := by kernel_rfl
theorem ti106 : ti Try.prog 106 = some ⟨TK.func, 1, 8, some [AV.nilfn]⟩ := by kernel_rfl
theorem ti107 : ti Try.prog 107 = some ⟨TK.ptr, 1, 8, some [AV.nilp]⟩ := by kernel_rfl
theorem ti108 : ti Try.prog 108 = some ⟨TK.int IntKind.i32, 1, 4, some [AV.int IntKind.i32 (0)]⟩ := by kernel_rfl
theorem ti109 : ti Try.prog 109 = some ⟨TK.int IntKind.i32, 1, 4, some [AV.int IntKind.i32 (0)]⟩ := by kernel_rfl
theorem ti110 : ti Try.prog 110 = some ⟨TK.struct [(12, 0), (12, 1), (103, 2), (104, 3), (5, 4), (5, 5), (105, 6), (106, 7), (107, 8), (108, 9), (109, 10)], 11, 48, some [AV.int IntKind.u64 (0), AV.int IntKind.u64 (0), AV.int IntKind.u32 (0), AV.int IntKind.u8 (0), AV.int IntKind.u8 (0), AV.int IntKind.u8 (0), AV.int IntKind.u8 (0), AV.nilfn, AV.nilp, AV.int IntKind.i32 (0), AV.int IntKind.i32 (0)]⟩ := by kernel_rfl
theorem ti111 : ti Try.prog 111 = some ⟨TK.struct [(12, 0), (12, 1), (103, 2), (104, 3), (5, 4), (5, 5), (105, 6), (106, 7), (107, 8), (108, 9), (109, 10)], 11, 48, some [AV.int IntKind.u64 (0), AV.int IntKind.u64 (0), AV.int IntKind.u32 (0), AV.int IntKind.u8 (0), AV.int IntKind.u8 (0), AV.int IntKind.u8 (0), AV.int IntKind.u8 (0), AV.nilfn, AV.nilp, AV.int IntKind.i32 (0), AV.int IntKind.i32 (0)]⟩ := by kernel_rfl
theorem ti112 : ti Try.prog 112 = some ⟨TK.other, 1, 8, some [AV.nilp]⟩ := by kernel_rfl
theorem zv4 : zv Try.prog 4 = some (AV.bool false) := by kernel_rfl
theorem fl7_0 : flT Try.prog 7 0 = some 0 := by kernel_rfl
theorem fl7_1 : flT Try.prog 7 1 = some 1 := by kernel_rfl
theorem fl7_2 : flT Try.prog 7 2 = some 2 := by kernel_rfl
theorem fl7_3 : flT Try.prog 7 3 = some 3 := by kernel_rfl
theorem fl8_0 : flT Try.prog 8 0 = some 0 := by kernel_rfl
theorem fl8_1 : flT Try.prog 8 1 = some 1 := by kernel_rfl
theorem fl8_2 : flT Try.prog 8 2 = some 2 := by kernel_rfl
theorem fl8_3 : flT Try.prog 8 3 = some 3 := by kernel_rfl
theorem fl13_0 : flT Try.prog 13 0 = some 0 := by kernel_rfl
theorem fl13_1 : flT Try.prog 13 1 = some 1 := by kernel_rfl
theorem fl14_0 : flT Try.prog 14 0 = some 0 := by kernel_rfl
theorem fl14_1 : flT Try.prog 14 1 = some 1 := by kernel_rfl
theorem fl18_0 : flT Try.prog 18 0 = some 0 := by kernel_rfl
theorem fl19_0 : flT Try.prog 19 0 = some 0 := by kernel_rfl
theorem el22 : elT Try.prog 22 = some 5 := by kernel_rfl
theorem el23 : elT Try.prog 23 = some 3 := by kernel_rfl
theorem el24 : elT Try.prog 24 = some 3 := by kernel_rfl
theorem fl25_0 : flT Try.prog 25 0 = some 0 := by kernel_rfl
theorem fl25_1 : flT Try.prog 25 1 = some 1 := by kernel_rfl
theorem fl25_2 : flT Try.prog 25 2 = some 2 := by kernel_rfl
theorem fl26_0 : flT Try.prog 26 0 = some 0 := by kernel_rfl
theorem fl26_1 : flT Try.prog 26 1 = some 1 := by kernel_rfl
theorem fl26_2 : flT Try.prog 26 2 = some 2 := by kernel_rfl
theorem el27 : elT Try.prog 27 = some 8 := by kernel_rfl
theorem el28 : elT Try.prog 28 = some 1 := by kernel_rfl
theorem fl29_0 : flT Try.prog 29 0 = some 0 := by kernel_rfl
theorem fl29_1 : flT Try.prog 29 1 = some 1 := by kernel_rfl
theorem fl29_2 : flT Try.prog 29 2 = some 2 := by kernel_rfl
theorem fl29_3 : flT Try.prog 29 3 = some 3 := by kernel_rfl
theorem fl29_4 : flT Try.prog 29 4 = some 4 := by kernel_rfl
theorem fl29_5 : flT Try.prog 29 5 = some 5 := by kernel_rfl
theorem fl29_6 : flT Try.prog 29 6 = some 6 := by kernel_rfl
theorem fl29_7 : flT Try.prog 29 7 = some 7 := by kernel_rfl
theorem fl30_0 : flT Try.prog 30 0 = some 0 := by kernel_rfl
theorem fl30_1 : flT Try.prog 30 1 = some 1 := by kernel_rfl
theorem fl30_2 : flT Try.prog 30 2 = some 2 := by kernel_rfl
theorem fl30_3 : flT Try.prog 30 3 = some 3 := by kernel_rfl
theorem fl30_4 : flT Try.prog 30 4 = some 4 := by kernel_rfl
theorem fl30_5 : flT Try.prog 30 5 = some 5 := by kernel_rfl
theorem fl30_6 : flT Try.prog 30 6 = some 6 := by kernel_rfl
theorem fl30_7 : flT Try.prog 30 7 = some 7 := by kernel_rfl
theorem el41 : elT Try.prog 41 = some 1 := by kernel_rfl
theorem el48 : elT Try.prog 48 = some 1 := by kernel_rfl
theorem fl49_0 : flT Try.prog 49 0 = some 0 := by kernel_rfl
theorem fl49_1 : flT Try.prog 49 1 = some 1 := by kernel_rfl
theorem fl49_2 : flT Try.prog 49 2 = some 2 := by kernel_rfl
theorem fl50_0 : flT Try.prog 50 0 = some 0 := by kernel_rfl
theorem fl50_1 : flT Try.prog 50 1 = some 1 := by kernel_rfl
theorem fl50_2 : flT Try.prog 50 2 = some 2 := by kernel_rfl
theorem el58 : elT Try.prog 58 = some 2 := by kernel_rfl
theorem fl59_0 : flT Try.prog 59 0 = some 0 := by kernel_rfl
theorem fl59_1 : flT Try.prog 59 1 = some 1 := by kernel_rfl
theorem fl59_2 : flT Try.prog 59 2 = some 2 := by kernel_rfl
theorem fl59_3 : flT Try.prog 59 3 = some 3 := by kernel_rfl
theorem fl59_4 : flT Try.prog 59 4 = some 4 := by kernel_rfl
theorem fl60_0 : flT Try.prog 60 0 = some 0 := by kernel_rfl
theorem fl60_1 : flT Try.prog 60 1 = some 1 := by kernel_rfl
theorem fl60_2 : flT Try.prog 60 2 = some 2 := by kernel_rfl
theorem fl60_3 : flT Try.prog 60 3 = some 3 := by kernel_rfl
theorem fl60_4 : flT Try.prog 60 4 = some 4 := by kernel_rfl
theorem fl62_0 : flT Try.prog 62 0 = some 0 := by kernel_rfl
theorem fl62_1 : flT Try.prog 62 1 = some 1 := by kernel_rfl
theorem fl63_0 : flT Try.prog 63 0 = some 0 := by kernel_rfl
theorem fl63_1 : flT Try.prog 63 1 = some 1 := by kernel_rfl
theorem mp71 : mpT Try.prog 71 = some 4 := by kernel_rfl
theorem mz71 : mpZ Try.prog 71 = some (AV.bool false) := by kernel_rfl
theorem fl97_0 : flT Try.prog 97 0 = some 0 := by kernel_rfl
theorem fl97_1 : flT Try.prog 97 1 = some 1 := by kernel_rfl
theorem fl97_2 : flT Try.prog 97 2 = some 2 := by kernel_rfl
theorem fl97_3 : flT Try.prog 97 3 = some 3 := by kernel_rfl
theorem fl98_0 : flT Try.prog 98 0 = some 0 := by kernel_rfl
theorem fl98_1 : flT Try.prog 98 1 = some 1 := by kernel_rfl
theorem fl98_2 : flT Try.prog 98 2 = some 2 := by kernel_rfl
theorem fl98_3 : flT Try.prog 98 3 = some 3 := by kernel_rfl
theorem fl110_0 : flT Try.prog 110 0 = some 0 := by kernel_rfl
theorem fl110_1 : flT Try.prog 110 1 = some 1 := by kernel_rfl
theorem fl110_2 : flT Try.prog 110 2 = some 2 := by kernel_rfl
theorem fl110_3 : flT Try.prog 110 3 = some 3 := by kernel_rfl
theorem fl110_4 : flT Try.prog 110 4 = some 4 := by kernel_rfl
theorem fl110_5 : flT Try.prog 110 5 = some 5 := by kernel_rfl
theorem fl110_6 : flT Try.prog 110 6 = some 6 := by kernel_rfl
theorem fl110_7 : flT Try.prog 110 7 = some 7 := by kernel_rfl
theorem fl110_8 : flT Try.prog 110 8 = some 8 := by kernel_rfl
theorem fl110_9 : flT Try.prog 110 9 = some 9 := by kernel_rfl
theorem fl110_10 : flT Try.prog 110 10 = some 10 := by kernel_rfl
theorem fl111_0 : flT Try.prog 111 0 = some 0 := by kernel_rfl
theorem fl111_1 : flT Try.prog 111 1 = some 1 := by kernel_rfl
theorem fl111_2 : flT Try.prog 111 2 = some 2 := by kernel_rfl
theorem fl111_3 : flT Try.prog 111 3 = some 3 := by kernel_rfl
theorem fl111_4 : flT Try.prog 111 4 = some 4 := by kernel_rfl
theorem fl111_5 : flT Try.prog 111 5 = some 5 := by kernel_rfl
theorem fl111_6 : flT Try.prog 111 6 = some 6 := by kernel_rfl
theorem fl111_7 : flT Try.prog 111 7 = some 7 := by kernel_rfl
theorem fl111_8 : flT Try.prog 111 8 = some 8 := by kernel_rfl
theorem fl111_9 : flT Try.prog 111 9 = some 9 := by kernel_rfl
theorem fl111_10 : flT Try.prog 111 10 = some 10 := by kernel_rfl
theorem isf2 : isFn Try.prog 2 = true := by kernel_rfl
theorem isf3 : isFn Try.prog 3 = true := by kernel_rfl
theorem isf4 : isFn Try.prog 4 = true := by kernel_rfl
theorem isf5 : isFn Try.prog 5 = true := by kernel_rfl
theorem isf6 : isFn Try.prog 6 = true := by kernel_rfl
theorem isf7 : isFn Try.prog 7 = true := by kernel_rfl
theorem isf8 : isFn Try.prog 8 = true := by kernel_rfl
theorem isf9 : isFn Try.prog 9 = true := by kernel_rfl
theorem isf10 : isFn Try.prog 10 = true := by kernel_rfl
theorem isf11 : isFn Try.prog 11 = true := by kernel_rfl
theorem isf12 : isFn Try.prog 12 = true := by kernel_rfl
theorem isf13 : isFn Try.prog 13 = true := by kernel_rfl
theorem isf14 : isFn Try.prog 14 = true := by kernel_rfl
theorem isf15 : isFn Try.prog 15 = true := by kernel_rfl
theorem isf16 : isFn Try.prog 16 = true := by kernel_rfl
theorem isf17 : isFn Try.prog 17 = true := by kernel_rfl
theorem isf18 : isFn Try.prog 18 = true := by kernel_rfl
theorem isf19 : isFn Try.prog 19 = true := by kernel_rfl
theorem isf20 : isFn Try.prog 20 = true := by kernel_rfl
theorem isf21 : isFn Try.prog 21 = true := by kernel_rfl
theorem isf22 : isFn Try.prog 22 = true := by kernel_rfl
theorem isf23 : isFn Try.prog 23 = true := by kernel_rfl
theorem isf24 : isFn Try.prog 24 = true := by kernel_rfl
theorem isf25 : isFn Try.prog 25 = true := by kernel_rfl
theorem isf26 : isFn Try.prog 26 = true := by kernel_rfl
theorem isf27 : isFn Try.prog 27 = true := by kernel_rfl
theorem isf28 : isFn Try.prog 28 = true := by kernel_rfl
theorem isf29 : isFn Try.prog 29 = true := by kernel_rfl
theorem isf30 : isFn Try.prog 30 = true := by kernel_rfl
theorem isf31 : isFn Try.prog 31 = true := by kernel_rfl
theorem isf32 : isFn Try.prog 32 = true := by kernel_rfl
theorem isf33 : isFn Try.prog 33 = true := by kernel_rfl
theorem isf34 : isFn Try.prog 34 = true := by kernel_rfl
theorem isf35 : isFn Try.prog 35 = true := by kernel_rfl
theorem isf36 : isFn Try.prog 36 = true := by kernel_rfl
theorem isf37 : isFn Try.prog 37 = true := by kernel_rfl
theorem isf38 : isFn Try.prog 38 = true := by kernel_rfl
theorem isf39 : isFn Try.prog 39 = true := by kernel_rfl
theorem isf40 : isFn Try.prog 40 = true := by kernel_rfl
theorem isf41 : isFn Try.prog 41 = true := by kernel_rfl
theorem isf42 : isFn Try.prog 42 = true := by kernel_rfl
theorem isf43 : isFn Try.prog 43 = true := by kernel_rfl
theorem isf44 : isFn Try.prog 44 = true := by kernel_rfl
theorem isf45 : isFn Try.prog 45 = true := by kernel_rfl
theorem isf46 : isFn Try.prog 46 = true := by kernel_rfl
theorem isf47 : isFn Try.prog 47 = true := by kernel_rfl
theorem isf48 : isFn Try.prog 48 = true := by kernel_rfl
theorem isf49 : isFn Try.prog 49 = true := by kernel_rfl
theorem isf50 : isFn Try.prog 50 = true := by kernel_rfl
theorem isf51 : isFn Try.prog 51 = true := by kernel_rfl
theorem isf52 : isFn Try.prog 52 = true := by kernel_rfl
theorem isf53 : isFn Try.prog 53 = true := by kernel_rfl
theorem isf54 : isFn Try.prog 54 = true := by kernel_rfl
theorem isf55 : isFn Try.prog 55 = true := by kernel_rfl
theorem isf56 : isFn Try.prog 56 = true := by kernel_rfl
theorem isf57 : isFn Try.prog 57 = true := by kernel_rfl
theorem isf58 : isFn Try.prog 58 = true := by kernel_rfl
theorem isf59 : isFn Try.prog 59 = true := by kernel_rfl
theorem isf60 : isFn Try.prog 60 = true := by kernel_rfl
theorem isf61 : isFn Try.prog 61 = true := by kernel_rfl
theorem isf62 : isFn Try.prog 62 = true := by kernel_rfl
theorem isf63 : isFn Try.prog 63 = true := by kernel_rfl
theorem isf64 : isFn Try.prog 64 = true := by kernel_rfl
theorem isf65 : isFn Try.prog 65 = true := by kernel_rfl
theorem isf66 : isFn Try.prog 66 = true := by kernel_rfl
theorem isf67 : isFn Try.prog 67 = true := by kernel_rfl
theorem isf68 : isFn Try.prog 68 = true := by kernel_rfl
theorem isf69 : isFn Try.prog 69 = true := by kernel_rfl
theorem isf70 : isFn Try.prog 70 = true := by kernel_rfl
theorem isf71 : isFn Try.prog 71 = true := by kernel_rfl
theorem isf72 : isFn Try.prog 72 = true := by kernel_rfl
theorem mixed : Try.prog.follows .mixedOrders = true := by kernel_rfl
attribute [go_sem] ti0 ti1 ti2 ti3 ti4 ti5 ti6 ti7 ti8 ti9 ti10 ti11 ti12 ti13 ti14 ti15 ti16 ti17 ti18 ti19 ti20 ti21 ti22 ti23 ti24 ti25 ti26 ti27 ti28 ti29 ti30 ti31 ti32 ti33 ti34 ti35 ti36 ti37 ti38 ti39 ti40 ti41 ti42 ti43 ti44 ti45 ti46 ti47 ti48 ti49 ti50 ti51 ti52 ti53 ti54 ti55 ti56 ti57 ti58 ti59 ti60 ti61 ti62 ti63 ti64 ti65 ti66 ti67 ti68 ti69 ti70 ti71 ti72 ti73 ti74 ti75 ti76 ti77 ti78 ti79 ti80 ti81 ti82 ti83 ti84 ti85 ti86 ti87 ti88 ti89 ti90 ti91 ti92 ti93 ti94 ti95 ti96 ti97 ti98 ti99 ti100 ti101 ti102 ti103 ti104 ti105 ti106 ti107 ti108 ti109 ti110 ti111 ti112 zv4 fl7_0 fl7_1 fl7_2 fl7_3 fl8_0 fl8_1 fl8_2 fl8_3 fl13_0 fl13_1 fl14_0 fl14_1 fl18_0 fl19_0 el22 el23 el24 fl25_0 fl25_1 fl25_2 fl26_0 fl26_1 fl26_2 el27 el28 fl29_0 fl29_1 fl29_2 fl29_3 fl29_4 fl29_5 fl29_6 fl29_7 fl30_0 fl30_1 fl30_2 fl30_3 fl30_4 fl30_5 fl30_6 fl30_7 el41 el48 fl49_0 fl49_1 fl49_2 fl50_0 fl50_1 fl50_2 el58 fl59_0 fl59_1 fl59_2 fl59_3 fl59_4 fl60_0 fl60_1 fl60_2 fl60_3 fl60_4 fl62_0 fl62_1 fl63_0 fl63_1 mp71 mz71 fl97_0 fl97_1 fl97_2 fl97_3 fl98_0 fl98_1 fl98_2 fl98_3 fl110_0 fl110_1 fl110_2 fl110_3 fl110_4 fl110_5 fl110_6 fl110_7 fl110_8 fl110_9 fl110_10 fl111_0 fl111_1 fl111_2 fl111_3 fl111_4 fl111_5 fl111_6 fl111_7 fl111_8 fl111_9 fl111_10
end Go.Proofs.Ytlhhahocjfgmdaa

set_option linter.unusedSimpArgs false
set_option linter.unusedVariables false
set_option maxHeartbeats 4000000
set_option maxRecDepth 100000
namespace Go.Proofs.Ytlhhahocjfgmdaa
open Nat (reduceAdd reduceMul reduceEqDiff reduceLT reduceLeDiff reduceSub reduceDiv)
open Int (reduceBNe reduceLE reduceEq)
open Go.Am Go.Proofs Go.Hv Go.Mv
open Classical
attribute [local irreducible] AW CallP CallB
theorem ints_call (a b : List Int) (ha : a.length ≤ 2 ^ 40) : PCall Try.prog 33 [.sl (il a), .sl (il b)] (.bool (decide (a = b))) := by
 refine PCall.intro Try.func33 rfl isf33 (by simp [Try.f33]) (by simp [AV.cloL, AV.clo]) fun E Q hE hN hQ => K_start ?_
 by_cases hl : a.length = b.length
 ·have q0 : ((a.length : Int) != (b.length : Int)) = false := by simp [hl]
  repeat' (first | apply nx | refine Kq_exit_ne (by decide) ?_ | rw [wrap64 (by omega) (by omega)] | ((first | refine hK _ ?_ | refine hKp _ _ ?_); clear hK hKp K Kp; try clear hanc anc) | ((with_reducible refine And.intro ?_ ?_); (focus (first | trivial | omega | (simp only [Fits]; omega) | assumption | (rw [hanc]; rfl)))) | ((first | refine K_regA hE fun K Kp hK hKp => ?_ | refine K_drwA false mixed hE fun K Kp hK hKp anc hanc => ?_); simp only [go_sem, q0]) | ((first | refine onG_split_t (fun hg => ?_) (fun hg => ?_) | refine onG_split_f (fun hg => ?_) (fun hg => ?_)) <;> simp only [go_sem, q0, hg]) | (refine K_condA (fun hc => ?_) (fun hc => ?_) <;> try (exact absurd hc (by decide))) | (refine K_ret ?_; refine (hQ _ ⟨_, by (try simp only [go_sem, ↓reduceIte, Nat.reduceEqDiff]); rfl, by simp [go_sem], ?_, by first | rfl | assumption⟩).1))
  refine K_loop (X := Nat) (fun i => i ≤ a.length ∧ decide (a = b) = decide (a.drop i = b.drop i)) (fun i => mkSt [(0, .sl (il a)), (1, .sl (il b)), (5, AV.i i)] [] 0) (fun i => a.length - i) 0 ⟨Nat.zero_le _, rfl⟩ (fun i => i) (by refine ent_mk (by simp [go_sem]) (by simp [go_sem]) (by simp) (by simp [hN])) ?_
  rintro i ⟨hi, ht⟩
  by_cases hlt : i < a.length
  ·obtain ⟨x, hx⟩ := get?_of hlt
   obtain ⟨y, hy⟩ := get?_of (show i < b.length by omega)
   rw [drop_of hx, drop_of hy] at ht
   by_cases hxy : x = y
   ·have q1 : (x != y) = false := by simp [hxy]
    repeat' (first | apply nx | refine Kq_exit_ne (by decide) ?_ | rw [wrap64 (by omega) (by omega)] | ((first | refine hK _ ?_ | refine hKp _ _ ?_); clear hK hKp K Kp; try clear hanc anc) | ((with_reducible refine And.intro ?_ ?_); (focus (first | trivial | omega | (simp only [Fits]; omega) | assumption | (rw [hanc]; rfl)))) | ((first | refine K_regA hE fun K Kp hK hKp => ?_ | refine K_drwA false mixed hE fun K Kp hK hKp anc hanc => ?_); simp only [go_sem, lt_dec hlt, hx, hy, q1]) | ((first | refine onG_split_t (fun hg => ?_) (fun hg => ?_) | refine onG_split_f (fun hg => ?_) (fun hg => ?_)) <;> simp only [go_sem, lt_dec hlt, hx, hy, q1, hg]) | (refine K_condA (fun hc => ?_) (fun hc => ?_) <;> try (exact absurd hc (by decide))) | (refine K_ret ?_; refine (hQ _ ⟨_, by (try simp only [go_sem, ↓reduceIte, Nat.reduceEqDiff]); rfl, by simp [go_sem], ?_, by first | rfl | assumption⟩).1))
    exact ⟨i + 1, ⟨by omega, by rw [ht]; simp [hxy]⟩, by omega, fun i => i, by refine ent_mk (by simp [go_sem]) (by simp [go_sem]) (by simp) (by simp [hN])⟩
   ·have q1 : (x != y) = true := by simp [hxy]
    repeat' (first | apply nx | refine Kq_exit_ne (by decide) ?_ | rw [wrap64 (by omega) (by omega)] | ((first | refine hK _ ?_ | refine hKp _ _ ?_); clear hK hKp K Kp; try clear hanc anc) | ((with_reducible refine And.intro ?_ ?_); (focus (first | trivial | omega | (simp only [Fits]; omega) | assumption | (rw [hanc]; rfl)))) | ((first | refine K_regA hE fun K Kp hK hKp => ?_ | refine K_drwA false mixed hE fun K Kp hK hKp anc hanc => ?_); simp only [go_sem, lt_dec hlt, hx, hy, q1]) | ((first | refine onG_split_t (fun hg => ?_) (fun hg => ?_) | refine onG_split_f (fun hg => ?_) (fun hg => ?_)) <;> simp only [go_sem, lt_dec hlt, hx, hy, q1, hg]) | (refine K_condA (fun hc => ?_) (fun hc => ?_) <;> try (exact absurd hc (by decide))) | (refine K_ret ?_; refine (hQ _ ⟨_, by (try simp only [go_sem, ↓reduceIte, Nat.reduceEqDiff]); rfl, by simp [go_sem], ?_, by first | rfl | assumption⟩).1))
    simp [AV.snap, ht, hxy]
  ·obtain rfl : i = a.length := by omega
   rw [List.drop_length, hl, List.drop_length] at ht
   repeat' (first | apply nx | refine Kq_exit_ne (by decide) ?_ | rw [wrap64 (by omega) (by omega)] | ((first | refine hK _ ?_ | refine hKp _ _ ?_); clear hK hKp K Kp; try clear hanc anc) | ((with_reducible refine And.intro ?_ ?_); (focus (first | trivial | omega | (simp only [Fits]; omega) | assumption | (rw [hanc]; rfl)))) | ((first | refine K_regA hE fun K Kp hK hKp => ?_ | refine K_drwA false mixed hE fun K Kp hK hKp anc hanc => ?_); simp only [go_sem, ge_dec]) | ((first | refine onG_split_t (fun hg => ?_) (fun hg => ?_) | refine onG_split_f (fun hg => ?_) (fun hg => ?_)) <;> simp only [go_sem, ge_dec, hg]) | (refine K_condA (fun hc => ?_) (fun hc => ?_) <;> try (exact absurd hc (by decide))) | (refine K_ret ?_; refine (hQ _ ⟨_, by (try simp only [go_sem, ↓reduceIte, Nat.reduceEqDiff]); rfl, by simp [go_sem], ?_, by first | rfl | assumption⟩).1))
   simp [AV.snap, ht]
 ·have q0 : ((a.length : Int) != (b.length : Int)) = true := by simp; omega
  repeat' (first | apply nx | refine Kq_exit_ne (by decide) ?_ | rw [wrap64 (by omega) (by omega)] | ((first | refine hK _ ?_ | refine hKp _ _ ?_); clear hK hKp K Kp; try clear hanc anc) | ((with_reducible refine And.intro ?_ ?_); (focus (first | trivial | omega | (simp only [Fits]; omega) | assumption | (rw [hanc]; rfl)))) | ((first | refine K_regA hE fun K Kp hK hKp => ?_ | refine K_drwA false mixed hE fun K Kp hK hKp anc hanc => ?_); simp only [go_sem, q0]) | ((first | refine onG_split_t (fun hg => ?_) (fun hg => ?_) | refine onG_split_f (fun hg => ?_) (fun hg => ?_)) <;> simp only [go_sem, q0, hg]) | (refine K_condA (fun hc => ?_) (fun hc => ?_) <;> try (exact absurd hc (by decide))) | (refine K_ret ?_; refine (hQ _ ⟨_, by (try simp only [go_sem, ↓reduceIte, Nat.reduceEqDiff]); rfl, by simp [go_sem], ?_, by first | rfl | assumption⟩).1))
  have : a ≠ b := by rintro rfl; exact hl rfl
  simp [AV.snap, this]
theorem sameV_call : ∀ (n : Nat) (a b : Vl), a.sz < n → n ≤ 2 ^ 40 → PCall Try.prog 15 [a.av, b.av] (.bool (decide (a = b))) := by
 intro n
 induction n with
 | zero => intro a b h; omega
 | succ n ih =>
 intro a b hn hN2
 have hx : a = b ↔ a.kind = b.kind ∧ a.id = b.id ∧ a.var = b.var ∧ a.n = b.n ∧ a.fs = b.fs ∧ a.excl = b.excl ∧ a.path = b.path ∧ a.loans = b.loans := ⟨by rintro rfl; simp, fun ⟨h1, h2, h3, h4, h5, h6, h7, h8⟩ => Vl.ext h1 h2 h3 h4 h5 h6 h7 h8⟩
 have hsz := a.sz_eq
 have hlf := Vl.len_le a.fs
 rw [Vl.av_eq, Vl.av_eq]
 by_cases hall : a.kind = b.kind ∧ a.id = b.id ∧ a.var = b.var ∧ a.n = b.n ∧ a.fs.length = b.fs.length ∧ a.excl = b.excl ∧ a.path = b.path ∧ a.loans = b.loans
 ·obtain ⟨h1, h2, h3, h4, h5, h6, h7, h8⟩ := hall
  have q1 : (a.kind != b.kind) = false := by simp [h1]
  have q2 : (a.id != b.id) = false := by simp [h2]
  have q3 : (a.var != b.var) = false := by simp [h3]
  have q4 : (a.n != b.n) = false := by simp [h4]
  have q5 : ((a.fs.length : Int) != (b.fs.length : Int)) = false := by simp [h5]
  have q6 : (!a.excl == b.excl) = false := by simp [h6]
  have i1 := ints_call a.path b.path (by omega)
  have i2 := ints_call a.loans b.loans (by omega)
  rw [decide_eq_true h7] at i1
  rw [decide_eq_true h8] at i2
  refine PCall.intro Try.func15 rfl isf15 (by simp [Try.f15]) (by simp [AV.cloL, AV.clo]) fun E Q hE hN hQ => K_start ?_
  repeat' (first | apply nx | refine Kq_exit_ne (by decide) ?_ | rw [wrap64 (by omega) (by omega)] | ((first | refine hK _ ?_ | refine hKp _ _ ?_); clear hK hKp K Kp; try clear hanc anc) | ((with_reducible refine And.intro ?_ ?_); (focus (first | trivial | omega | (simp only [Fits]; omega) | assumption | (rw [hanc]; rfl)))) | ((first | refine K_regA hE fun K Kp hK hKp => ?_ | refine K_drwA false mixed hE fun K Kp hK hKp anc hanc => ?_ | ((first | apply CallP_mk | apply CallB_mk); (focus (simp only [go_sem] <;> rfl)); (focus (first | exact i1 | exact i2)); (focus (first | (simp [go_sem]; done) | (simp [go_sem, CloRow, AV.cells, AV.clo]; done))); (focus (first | exact .inl rfl | (right; simp [go_sem]))))); simp only [go_sem, q1, q2, q3, q4, q5, q6]) | ((first | refine onG_split_t (fun hg => ?_) (fun hg => ?_) | refine onG_split_f (fun hg => ?_) (fun hg => ?_)) <;> simp only [go_sem, q1, q2, q3, q4, q5, q6, hg]) | (refine K_condA (fun hc => ?_) (fun hc => ?_) <;> try (exact absurd hc (by decide))) | (refine K_ret ?_; refine (hQ _ ⟨_, by (try simp only [go_sem, ↓reduceIte, Nat.reduceEqDiff]); rfl, by simp [go_sem], ?_, by first | rfl | assumption⟩).1))
  refine K_loop (X := Nat) (fun i => i ≤ a.fs.length ∧ decide (a.fs = b.fs) = decide (a.fs.drop i = b.fs.drop i)) (fun i => mkSt [(2, .ptr 0 0), (3, .ptr 1 0), (5, AV.i i)] [(0, .cells a.cs), (1, .cells b.cs)] 2) (fun i => a.fs.length - i) 0 ⟨Nat.zero_le _, rfl⟩ (fun i => if i = 0 then 0 else 1048576) (by refine ent_mk (by simp [go_sem, Vl.cs]) (by simp [go_sem, Vl.cs]) (by simp) (by simp [hN])) ?_
  rintro i ⟨hi, ht⟩
  by_cases hlt : i < a.fs.length
  ·obtain ⟨x, hx2⟩ := get?_of hlt
   obtain ⟨y, hy⟩ := get?_of (show i < b.fs.length by omega)
   have hxm := Vl.sz_mem (List.mem_of_getElem? hx2)
   have hr := ih x y (by omega) (by omega)
   rw [Vl.av_cs, Vl.av_cs] at hr
   rw [drop_of hx2, drop_of hy] at ht
   by_cases hxy : x = y
   ·rw [decide_eq_true hxy] at hr
    repeat' (first | apply nx | refine Kq_exit_ne (by decide) ?_ | rw [wrap64 (by omega) (by omega)] | ((first | refine hK _ ?_ | refine hKp _ _ ?_); clear hK hKp K Kp; try clear hanc anc) | ((with_reducible refine And.intro ?_ ?_); (focus (first | trivial | omega | (simp only [Fits]; omega) | assumption | (rw [hanc]; rfl)))) | ((first | refine K_regA hE fun K Kp hK hKp => ?_ | refine K_drwA false mixed hE fun K Kp hK hKp anc hanc => ?_ | ((first | apply CallP_mk | apply CallB_mk); (focus (simp only [go_sem] <;> rfl)); (focus (exact hr)); (focus (first | (simp [go_sem]; done) | (simp [go_sem, CloRow, AV.cells, AV.clo]; done))); (focus (first | exact .inl rfl | (right; simp [go_sem]))))); simp only [go_sem, lt_dec hlt, hx2, hy, Vl.av_cs, Vl.cs]) | ((first | refine onG_split_t (fun hg => ?_) (fun hg => ?_) | refine onG_split_f (fun hg => ?_) (fun hg => ?_)) <;> simp only [go_sem, lt_dec hlt, hx2, hy, Vl.av_cs, Vl.cs, hg]) | (refine K_condA (fun hc => ?_) (fun hc => ?_) <;> try (exact absurd hc (by decide))) | (refine K_ret ?_; refine (hQ _ ⟨_, by (try simp only [go_sem, ↓reduceIte, Nat.reduceEqDiff]); rfl, by simp [go_sem], ?_, by first | rfl | assumption⟩).1))
    exact ⟨i + 1, ⟨by omega, by rw [ht]; simp [hxy]⟩, by omega, fun i => i, by refine ent_mk (by simp [go_sem, Vl.cs]) (by simp [go_sem, Vl.cs]) (by simp) (by simp [hN])⟩
   ·rw [decide_eq_false hxy] at hr
    repeat' (first | apply nx | refine Kq_exit_ne (by decide) ?_ | rw [wrap64 (by omega) (by omega)] | ((first | refine hK _ ?_ | refine hKp _ _ ?_); clear hK hKp K Kp; try clear hanc anc) | ((with_reducible refine And.intro ?_ ?_); (focus (first | trivial | omega | (simp only [Fits]; omega) | assumption | (rw [hanc]; rfl)))) | ((first | refine K_regA hE fun K Kp hK hKp => ?_ | refine K_drwA false mixed hE fun K Kp hK hKp anc hanc => ?_ | ((first | apply CallP_mk | apply CallB_mk); (focus (simp only [go_sem] <;> rfl)); (focus (exact hr)); (focus (first | (simp [go_sem]; done) | (simp [go_sem, CloRow, AV.cells, AV.clo]; done))); (focus (first | exact .inl rfl | (right; simp [go_sem]))))); simp only [go_sem, lt_dec hlt, hx2, hy, Vl.av_cs, Vl.cs]) | ((first | refine onG_split_t (fun hg => ?_) (fun hg => ?_) | refine onG_split_f (fun hg => ?_) (fun hg => ?_)) <;> simp only [go_sem, lt_dec hlt, hx2, hy, Vl.av_cs, Vl.cs, hg]) | (refine K_condA (fun hc => ?_) (fun hc => ?_) <;> try (exact absurd hc (by decide))) | (refine K_ret ?_; refine (hQ _ ⟨_, by (try simp only [go_sem, ↓reduceIte, Nat.reduceEqDiff]); rfl, by simp [go_sem], ?_, by first | rfl | assumption⟩).1))
    simp [AV.snap, hx, h1, h2, h3, h4, h6, h7, h8, ht, hxy]
  ·obtain rfl : i = a.fs.length := by omega
   rw [List.drop_length, h5, List.drop_length] at ht
   repeat' (first | apply nx | refine Kq_exit_ne (by decide) ?_ | rw [wrap64 (by omega) (by omega)] | ((first | refine hK _ ?_ | refine hKp _ _ ?_); clear hK hKp K Kp; try clear hanc anc) | ((with_reducible refine And.intro ?_ ?_); (focus (first | trivial | omega | (simp only [Fits]; omega) | assumption | (rw [hanc]; rfl)))) | ((first | refine K_regA hE fun K Kp hK hKp => ?_ | refine K_drwA false mixed hE fun K Kp hK hKp anc hanc => ?_); simp only [go_sem, ge_dec, Vl.cs]) | ((first | refine onG_split_t (fun hg => ?_) (fun hg => ?_) | refine onG_split_f (fun hg => ?_) (fun hg => ?_)) <;> simp only [go_sem, ge_dec, Vl.cs, hg]) | (refine K_condA (fun hc => ?_) (fun hc => ?_) <;> try (exact absurd hc (by decide))) | (refine K_ret ?_; refine (hQ _ ⟨_, by (try simp only [go_sem, ↓reduceIte, Nat.reduceEqDiff]); rfl, by simp [go_sem], ?_, by first | rfl | assumption⟩).1))
   simp [AV.snap, hx, h1, h2, h3, h4, h6, h7, h8, ht]
 ·have hne : decide (a = b) = false := by
   simp only [decide_eq_false_iff_not, hx]
   rintro ⟨h1, h2, h3, h4, h5, h6, h7, h8⟩
   exact hall ⟨h1, h2, h3, h4, by rw [h5], h6, h7, h8⟩
  rw [hne]
  have i1 := ints_call a.path b.path (by omega)
  have i2 := ints_call a.loans b.loans (by omega)
  refine PCall.intro Try.func15 rfl isf15 (by simp [Try.f15]) (by simp [AV.cloL, AV.clo]) fun E Q hE hN hQ => K_start ?_
  repeat' (first | apply nx | refine Kq_exit_ne (by decide) ?_ | rw [wrap64 (by omega) (by omega)] | ((first | refine hK _ ?_ | refine hKp _ _ ?_); clear hK hKp K Kp; try clear hanc anc) | ((with_reducible refine And.intro ?_ ?_); (focus (first | trivial | omega | (simp only [Fits]; omega) | assumption | (rw [hanc]; rfl)))) | ((first | refine K_regA hE fun K Kp hK hKp => ?_ | refine K_drwA false mixed hE fun K Kp hK hKp anc hanc => ?_ | ((first | apply CallP_mk | apply CallB_mk); (focus (simp only [go_sem] <;> rfl)); (focus (first | exact i1 | exact i2)); (focus (first | (simp [go_sem]; done) | (simp [go_sem, CloRow, AV.cells, AV.clo]; done))); (focus (first | exact .inl rfl | (right; simp [go_sem]))))); simp only [go_sem]) | ((first | refine onG_split_t (fun hg => ?_) (fun hg => ?_) | refine onG_split_f (fun hg => ?_) (fun hg => ?_)) <;> simp only [go_sem, hg]) | (refine K_condA (fun hc => ?_) (fun hc => ?_) <;> try (exact absurd hc (by decide))) | (refine K_ret ?_; refine (hQ _ ⟨_, by (try simp only [go_sem, ↓reduceIte, Nat.reduceEqDiff]); rfl, by simp [go_sem], ?_, by first | rfl | assumption⟩).1))
  all_goals first | (simp only [AV.snap]; done) | rfl | skip
  all_goals (exfalso; clear hQ; apply hall; simp_all; omega)
mutual
def sizeV : Vl → Int → Int
 | .mk _ _ _ _ f _ _ _, m => sizeL f 1 m
def sizeL : List Vl → Int → Int → Int
 | [], n, _ => n
 | x :: l, n, m => if n ≤ m then sizeL l (n + sizeV x (m - n)) m else n
end
theorem sizeV_eq (v : Vl) (m : Int) : sizeV v m = sizeL v.fs 1 m := by cases v; rw [sizeV]; rfl
mutual
theorem sizeV_le : ∀ (v : Vl) (m : Int), 1 ≤ sizeV v m ∧ sizeV v m ≤ v.sz
 | .mk a b c d f e g h, m => by
  rw [sizeV]
  have h0 := sizeL_le f 1 m (by omega)
  have h1 : (Vl.mk a b c d f e g h).sz = 1 + g.length + h.length + Vl.szL f := Vl.sz_eq _
  omega
theorem sizeL_le : ∀ (l : List Vl) (n m : Int), 0 ≤ n → n ≤ sizeL l n m ∧ sizeL l n m ≤ n + Vl.szL l
 | [], n, m, h => by rw [sizeL, Vl.szL]; omega
 | x :: l, n, m, h => by
  rw [sizeL, Vl.szL]
  have h1 := sizeV_le x (m - n)
  split
  ·have h2 := sizeL_le l (n + sizeV x (m - n)) m (by omega)
   omega
  ·omega
end
theorem size_call : ∀ (N : Nat) (v : Vl) (m : Int), v.sz < N → N ≤ 2 ^ 40 → -2 ^ 50 + N ≤ m → m ≤ 60 → PCall Try.prog 24 [.agg v.cs, .i m] (.i (sizeV v m)) := by
 intro N
 induction N with
 | zero => intro v m h; omega
 | succ N ih =>
 intro v m hv hN hm1 hm2
 have hsz := v.sz_eq
 have hlf := Vl.len_le v.fs
 rw [sizeV_eq]
 unfold Vl.cs
 refine PCall.intro Try.func24 rfl isf24 (by simp [Try.f24]) (by simp [AV.cloL, AV.clo]) fun E Q hE hN hQ => K_start ?_
 repeat' (first | apply nx | refine Kq_exit_ne (by decide) ?_ | rw [wrap64 (by omega) (by omega)] | ((first | refine hK _ ?_ | refine hKp _ _ ?_); clear hK hKp K Kp; try clear hanc anc) | ((with_reducible refine And.intro ?_ ?_); (focus (first | trivial | omega | (simp only [Fits]; omega) | assumption | (rw [hanc]; rfl)))) | ((first | refine K_regA hE fun K Kp hK hKp => ?_ | refine K_drwA false mixed hE fun K Kp hK hKp anc hanc => ?_); simp only [go_sem]) | ((first | refine onG_split_t (fun hg => ?_) (fun hg => ?_) | refine onG_split_f (fun hg => ?_) (fun hg => ?_)) <;> simp only [go_sem, hg]) | (refine K_condA (fun hc => ?_) (fun hc => ?_) <;> try (exact absurd hc (by decide))) | (refine K_ret ?_; refine (hQ _ ⟨_, by (try simp only [go_sem, ↓reduceIte, Nat.reduceEqDiff]); rfl, by simp [go_sem], ?_, by first | rfl | assumption⟩).1))
 refine K_loop (X := Nat × Int) (fun x => x.1 ≤ v.fs.length ∧ sizeL (v.fs.drop x.1) x.2 m = sizeL v.fs 1 m ∧ 1 ≤ x.2 ∧ x.2 ≤ 1 + Vl.szL (v.fs.take x.1)) (fun x => mkSt [(1, AV.i m), (2, .ptr 0 0), (5, AV.i x.2), (6, AV.i x.1)] [(0, .cells v.cs)] 1) (fun x => v.fs.length - x.1) (0, 1) ⟨Nat.zero_le _, by simp, by simp, by simp [Vl.szL]⟩ (fun i => i) (by refine ent_mk (by simp [go_sem, Vl.cs]) (by simp [go_sem, Vl.cs]) (by simp) (by simp [hN])) ?_
 rintro ⟨i, n⟩ ⟨hi, ht, h1, h2⟩
 simp only at hi ht h1 h2
 have htk : Vl.szL (v.fs.take i) + Vl.szL (v.fs.drop i) = Vl.szL v.fs := by
  rw [Vl.szL_eq, Vl.szL_eq, Vl.szL_eq, ← List.sum_append, ← List.map_append, List.take_append_drop]
 by_cases hlt : i < v.fs.length
 ·obtain ⟨x, hx⟩ := get?_of hlt
  rw [drop_of hx, sizeL] at ht
  rw [drop_of hx, Vl.szL] at htk
  by_cases hle : n ≤ m
  ·rw [if_pos hle] at ht
   have hsx := sizeV_le x (m - n)
   have hr := ih x (m - n) (by omega) (by omega) (by omega) (by omega)
   repeat' (first | apply nx | refine Kq_exit_ne (by decide) ?_ | rw [wrap64 (by omega) (by omega)] | ((first | refine hK _ ?_ | refine hKp _ _ ?_); clear hK hKp K Kp; try clear hanc anc) | ((with_reducible refine And.intro ?_ ?_); (focus (first | trivial | omega | (simp only [Fits]; omega) | assumption | (rw [hanc]; rfl)))) | ((first | refine K_regA hE fun K Kp hK hKp => ?_ | refine K_drwA false mixed hE fun K Kp hK hKp anc hanc => ?_ | ((first | apply CallP_mk | apply CallB_mk); (focus (simp only [go_sem] <;> rfl)); (focus (exact hr)); (focus (first | (simp [go_sem]; done) | (simp [go_sem, CloRow, AV.cells, AV.clo]; done))); (focus (first | exact .inl rfl | (right; simp [go_sem]))))); simp only [go_sem, lt_dec hlt, hx, Vl.av_cs, Vl.cs, hle]) | ((first | refine onG_split_t (fun hg => ?_) (fun hg => ?_) | refine onG_split_f (fun hg => ?_) (fun hg => ?_)) <;> simp only [go_sem, lt_dec hlt, hx, Vl.av_cs, Vl.cs, hle, hg]) | (refine K_condA (fun hc => ?_) (fun hc => ?_) <;> try (exact absurd hc (by decide))) | (refine K_ret ?_; refine (hQ _ ⟨_, by (try simp only [go_sem, ↓reduceIte, Nat.reduceEqDiff]); rfl, by simp [go_sem], ?_, by first | rfl | assumption⟩).1))
   refine ⟨(i + 1, n + sizeV x (m - n)), ⟨by simp only; omega, by simp only; exact ht, by simp only; omega, ?_⟩, by simp only; omega, fun i => i, by refine ent_mk (by simp [go_sem, Vl.cs]) (by simp [go_sem, Vl.cs]) (by simp) (by simp [hN])⟩
   simp only
   rw [List.take_add_one, hx]
   have e : Vl.szL (v.fs.take i ++ (some x).toList) = Vl.szL (v.fs.take i) + x.sz := by
    rw [Vl.szL_eq, Vl.szL_eq]; simp
   rw [e]
   omega
  ·rw [if_neg hle] at ht
   repeat' (first | apply nx | refine Kq_exit_ne (by decide) ?_ | rw [wrap64 (by omega) (by omega)] | ((first | refine hK _ ?_ | refine hKp _ _ ?_); clear hK hKp K Kp; try clear hanc anc) | ((with_reducible refine And.intro ?_ ?_); (focus (first | trivial | omega | (simp only [Fits]; omega) | assumption | (rw [hanc]; rfl)))) | ((first | refine K_regA hE fun K Kp hK hKp => ?_ | refine K_drwA false mixed hE fun K Kp hK hKp anc hanc => ?_); simp only [go_sem, lt_dec hlt, hle, Vl.cs]) | ((first | refine onG_split_t (fun hg => ?_) (fun hg => ?_) | refine onG_split_f (fun hg => ?_) (fun hg => ?_)) <;> simp only [go_sem, lt_dec hlt, hle, Vl.cs, hg]) | (refine K_condA (fun hc => ?_) (fun hc => ?_) <;> try (exact absurd hc (by decide))) | (refine K_ret ?_; refine (hQ _ ⟨_, by (try simp only [go_sem, ↓reduceIte, Nat.reduceEqDiff]); rfl, by simp [go_sem], ?_, by first | rfl | assumption⟩).1))
   simp [AV.snap, ht]
 ·obtain rfl : i = v.fs.length := by omega
  rw [List.drop_length, sizeL] at ht
  repeat' (first | apply nx | refine Kq_exit_ne (by decide) ?_ | rw [wrap64 (by omega) (by omega)] | ((first | refine hK _ ?_ | refine hKp _ _ ?_); clear hK hKp K Kp; try clear hanc anc) | ((with_reducible refine And.intro ?_ ?_); (focus (first | trivial | omega | (simp only [Fits]; omega) | assumption | (rw [hanc]; rfl)))) | ((first | refine K_regA hE fun K Kp hK hKp => ?_ | refine K_drwA false mixed hE fun K Kp hK hKp anc hanc => ?_); simp only [go_sem, ge_dec, Vl.cs]) | ((first | refine onG_split_t (fun hg => ?_) (fun hg => ?_) | refine onG_split_f (fun hg => ?_) (fun hg => ?_)) <;> simp only [go_sem, ge_dec, Vl.cs, hg]) | (refine K_condA (fun hc => ?_) (fun hc => ?_) <;> try (exact absurd hc (by decide))) | (refine K_ret ?_; refine (hQ _ ⟨_, by (try simp only [go_sem, ↓reduceIte, Nat.reduceEqDiff]); rfl, by simp [go_sem], ?_, by first | rfl | assumption⟩).1))
  simp [AV.snap, ht]
theorem size60 (v : Vl) (h : v.sz < 2 ^ 40) : PCall Try.prog 24 [.agg v.cs, .i 60] (.i (sizeV v 60)) := size_call (2 ^ 40) v 60 h (Nat.le_refl _) (by omega) (by omega)
end Go.Proofs.Ytlhhahocjfgmdaa

set_option linter.unusedSimpArgs false
set_option linter.unusedVariables false
set_option maxHeartbeats 4000000
set_option maxRecDepth 100000
namespace Go.Proofs.Ytlhhahocjfgmdaa
open Nat (reduceAdd reduceMul reduceEqDiff reduceLT reduceLeDiff reduceSub reduceDiv)
open Int (reduceBNe reduceLE reduceEq)
open Go.Am Go.Proofs Go.Hv Go.Mv
open Classical
attribute [local irreducible] AW CallP CallB
theorem eqF_call (a b : List Ty) (ha : a.length ≤ 2 ^ 40) (ih : ∀ x, x ∈ a → ∀ y, PCall Try.prog 50 [x.av, y.av] (.bool (decide (x = y)))) : PCall Try.prog 65 [.sl (Ty.avL a), .sl (Ty.avL b), .fn (.func 50) [] []] (.bool (decide (a = b))) := by
 by_cases hl : a.length = b.length
 ·have q0 : ((a.length : Int) != (b.length : Int)) = false := by simp [hl]
  refine PCall.intro Try.func65 rfl isf65 (by simp [Try.f65]) (by simp [AV.cloL, AV.clo]) fun E Q hE hN hQ => K_start ?_
  repeat' (first | apply nx | refine Kq_exit_ne (by decide) ?_ | rw [wrap64 (by omega) (by omega)] | ((first | refine hK _ ?_ | refine hKp _ _ ?_); clear hK hKp K Kp; try clear hanc anc) | ((with_reducible refine And.intro ?_ ?_); (focus (first | trivial | omega | (simp only [Fits]; omega) | assumption | (rw [hanc]; rfl)))) | ((first | refine K_regA hE fun K Kp hK hKp => ?_ | refine K_drwA false mixed hE fun K Kp hK hKp anc hanc => ?_); simp only [go_sem, q0]) | ((first | refine onG_split_t (fun hg => ?_) (fun hg => ?_) | refine onG_split_f (fun hg => ?_) (fun hg => ?_)) <;> simp only [go_sem, q0, hg]) | (refine K_condA (fun hc => ?_) (fun hc => ?_) <;> try (exact absurd hc (by decide))) | (refine K_ret ?_; refine (hQ _ ⟨_, by (try simp only [go_sem, ↓reduceIte, Nat.reduceEqDiff]); rfl, by simp [go_sem], ?_, by first | rfl | assumption⟩).1))
  refine K_loop (X := Nat) (fun i => i ≤ a.length ∧ decide (a = b) = decide (a.drop i = b.drop i)) (fun i => mkSt [(1, .sl (Ty.avL b)), (2, .fn (.func 50) [] []), (15, .sl (Ty.avL a)), (16, .i a.length), (17, AV.i i)] [] 0) (fun i => a.length - i) 0 ⟨Nat.zero_le _, rfl⟩ (fun i => i) (by refine ent_mk (by simp [go_sem]) (by simp [go_sem]) (by simp) (by simp [hN])) ?_
  rintro i ⟨hi, ht⟩
  by_cases hlt : i < a.length
  ·obtain ⟨x, hx⟩ := get?_of hlt
   obtain ⟨y, hy⟩ := get?_of (show i < b.length by omega)
   rw [drop_of hx, drop_of hy] at ht
   have hr := ih x (List.mem_of_getElem? hx) y
   rw [Ty.av_eq, Ty.av_eq] at hr
   by_cases hxy : x = y
   ·rw [decide_eq_true hxy] at hr
    repeat' (first | apply nx | refine Kq_exit_ne (by decide) ?_ | rw [wrap64 (by omega) (by omega)] | ((first | refine hK _ ?_ | refine hKp _ _ ?_); clear hK hKp K Kp; try clear hanc anc) | ((with_reducible refine And.intro ?_ ?_); (focus (first | trivial | omega | (simp only [Fits]; omega) | assumption | (rw [hanc]; rfl)))) | ((first | refine K_regA hE fun K Kp hK hKp => ?_ | refine K_drwA false mixed hE fun K Kp hK hKp anc hanc => ?_ | ((first | apply CallP_mk | apply CallB_mk); (focus (simp only [go_sem] <;> rfl)); (focus (exact hr)); (focus (first | (simp [go_sem]; done) | (simp [go_sem, CloRow, AV.cells, AV.clo]; done))); (focus (first | exact .inl rfl | (right; simp [go_sem]))))); simp only [go_sem, lt_dec hlt, hx, hy, Ty.av_eq]) | ((first | refine onG_split_t (fun hg => ?_) (fun hg => ?_) | refine onG_split_f (fun hg => ?_) (fun hg => ?_)) <;> simp only [go_sem, lt_dec hlt, hx, hy, Ty.av_eq, hg]) | (refine K_condA (fun hc => ?_) (fun hc => ?_) <;> try (exact absurd hc (by decide))) | (refine K_ret ?_; refine (hQ _ ⟨_, by (try simp only [go_sem, ↓reduceIte, Nat.reduceEqDiff]); rfl, by simp [go_sem], ?_, by first | rfl | assumption⟩).1))
    exact ⟨i + 1, ⟨by omega, by rw [ht]; simp [hxy]⟩, by omega, fun i => i, by refine ent_mk (by simp [go_sem]) (by simp [go_sem]) (by simp) (by simp [hN])⟩
   ·rw [decide_eq_false hxy] at hr
    repeat' (first | apply nx | refine Kq_exit_ne (by decide) ?_ | rw [wrap64 (by omega) (by omega)] | ((first | refine hK _ ?_ | refine hKp _ _ ?_); clear hK hKp K Kp; try clear hanc anc) | ((with_reducible refine And.intro ?_ ?_); (focus (first | trivial | omega | (simp only [Fits]; omega) | assumption | (rw [hanc]; rfl)))) | ((first | refine K_regA hE fun K Kp hK hKp => ?_ | refine K_drwA false mixed hE fun K Kp hK hKp anc hanc => ?_ | ((first | apply CallP_mk | apply CallB_mk); (focus (simp only [go_sem] <;> rfl)); (focus (exact hr)); (focus (first | (simp [go_sem]; done) | (simp [go_sem, CloRow, AV.cells, AV.clo]; done))); (focus (first | exact .inl rfl | (right; simp [go_sem]))))); simp only [go_sem, lt_dec hlt, hx, hy, Ty.av_eq]) | ((first | refine onG_split_t (fun hg => ?_) (fun hg => ?_) | refine onG_split_f (fun hg => ?_) (fun hg => ?_)) <;> simp only [go_sem, lt_dec hlt, hx, hy, Ty.av_eq, hg]) | (refine K_condA (fun hc => ?_) (fun hc => ?_) <;> try (exact absurd hc (by decide))) | (refine K_ret ?_; refine (hQ _ ⟨_, by (try simp only [go_sem, ↓reduceIte, Nat.reduceEqDiff]); rfl, by simp [go_sem], ?_, by first | rfl | assumption⟩).1))
    simp [AV.snap, ht, hxy]
  ·obtain rfl : i = a.length := by omega
   rw [List.drop_length, hl, List.drop_length] at ht
   repeat' (first | apply nx | refine Kq_exit_ne (by decide) ?_ | rw [wrap64 (by omega) (by omega)] | ((first | refine hK _ ?_ | refine hKp _ _ ?_); clear hK hKp K Kp; try clear hanc anc) | ((with_reducible refine And.intro ?_ ?_); (focus (first | trivial | omega | (simp only [Fits]; omega) | assumption | (rw [hanc]; rfl)))) | ((first | refine K_regA hE fun K Kp hK hKp => ?_ | refine K_drwA false mixed hE fun K Kp hK hKp anc hanc => ?_); simp only [go_sem, ge_dec]) | ((first | refine onG_split_t (fun hg => ?_) (fun hg => ?_) | refine onG_split_f (fun hg => ?_) (fun hg => ?_)) <;> simp only [go_sem, ge_dec, hg]) | (refine K_condA (fun hc => ?_) (fun hc => ?_) <;> try (exact absurd hc (by decide))) | (refine K_ret ?_; refine (hQ _ ⟨_, by (try simp only [go_sem, ↓reduceIte, Nat.reduceEqDiff]); rfl, by simp [go_sem], ?_, by first | rfl | assumption⟩).1))
   simp [AV.snap, ht]
 ·have q0 : ((a.length : Int) != (b.length : Int)) = true := by simp; omega
  refine PCall.intro Try.func65 rfl isf65 (by simp [Try.f65]) (by simp [AV.cloL, AV.clo]) fun E Q hE hN hQ => K_start ?_
  repeat' (first | apply nx | refine Kq_exit_ne (by decide) ?_ | rw [wrap64 (by omega) (by omega)] | ((first | refine hK _ ?_ | refine hKp _ _ ?_); clear hK hKp K Kp; try clear hanc anc) | ((with_reducible refine And.intro ?_ ?_); (focus (first | trivial | omega | (simp only [Fits]; omega) | assumption | (rw [hanc]; rfl)))) | ((first | refine K_regA hE fun K Kp hK hKp => ?_ | refine K_drwA false mixed hE fun K Kp hK hKp anc hanc => ?_); simp only [go_sem, q0]) | ((first | refine onG_split_t (fun hg => ?_) (fun hg => ?_) | refine onG_split_f (fun hg => ?_) (fun hg => ?_)) <;> simp only [go_sem, q0, hg]) | (refine K_condA (fun hc => ?_) (fun hc => ?_) <;> try (exact absurd hc (by decide))) | (refine K_ret ?_; refine (hQ _ ⟨_, by (try simp only [go_sem, ↓reduceIte, Nat.reduceEqDiff]); rfl, by simp [go_sem], ?_, by first | rfl | assumption⟩).1))
  have : a ≠ b := by rintro rfl; exact hl rfl
  simp [AV.snap, this]
theorem same_call : ∀ (N : Nat) (a b : Ty), a.sz < N → N ≤ 2 ^ 40 → PCall Try.prog 50 [a.av, b.av] (.bool (decide (a = b))) := by
 intro N
 induction N with
 | zero => intro a b h; omega
 | succ N ih =>
 intro a b hn hN2
 have hsz := a.sz_eq
 have hlf := Ty.len_le a.args
 have hr := eqF_call a.args b.args (by omega) (fun x hx y => ih x y (by have := Ty.sz_mem hx; omega) (by omega))
 have e : decide (a = b) = (decide (a.kind = b.kind) && (decide (a.id = b.id) && decide (a.args = b.args))) := by
  rw [← Bool.decide_and, ← Bool.decide_and, decide_eq_decide]
  exact Ty.ext_iff
 rw [Ty.av_eq, Ty.av_eq, e]
 cases a with | mk k i l =>
 cases b with | mk k' i' l' =>
 simp only [Ty.kind, Ty.id, Ty.args] at *
 by_cases h1 : k = k'
 ·subst h1
  by_cases h2 : i = i'
  ·subst h2
   refine PCall.intro Try.func50 rfl isf50 (by simp [Try.f50]) (by simp [AV.cloL, AV.clo]) fun E Q hE hN hQ => K_start ?_
   repeat' (first | apply nx | refine Kq_exit_ne (by decide) ?_ | rw [wrap64 (by omega) (by omega)] | ((first | refine hK _ ?_ | refine hKp _ _ ?_); clear hK hKp K Kp; try clear hanc anc) | ((with_reducible refine And.intro ?_ ?_); (focus (first | trivial | omega | (simp only [Fits]; omega) | assumption | (rw [hanc]; rfl)))) | ((first | refine K_regA hE fun K Kp hK hKp => ?_ | refine K_drwA false mixed hE fun K Kp hK hKp anc hanc => ?_ | ((first | apply CallP_mk | apply CallB_mk); (focus (simp only [go_sem] <;> rfl)); (focus (exact hr)); (focus (first | (simp [go_sem]; done) | (simp [go_sem, CloRow, AV.cells, AV.clo]; done))); (focus (first | exact .inl rfl | (right; simp [go_sem]))))); simp only [go_sem]) | ((first | refine onG_split_t (fun hg => ?_) (fun hg => ?_) | refine onG_split_f (fun hg => ?_) (fun hg => ?_)) <;> simp only [go_sem, hg]) | (refine K_condA (fun hc => ?_) (fun hc => ?_) <;> try (exact absurd hc (by decide))) | (refine K_ret ?_; refine (hQ _ ⟨_, by (try simp only [go_sem, ↓reduceIte, Nat.reduceEqDiff]); rfl, by simp [go_sem], ?_, by first | rfl | assumption⟩).1))
   all_goals simp [AV.snap]
  ·have q2 : (i == i') = false := by simp [h2]
   refine PCall.intro Try.func50 rfl isf50 (by simp [Try.f50]) (by simp [AV.cloL, AV.clo]) fun E Q hE hN hQ => K_start ?_
   repeat' (first | apply nx | refine Kq_exit_ne (by decide) ?_ | rw [wrap64 (by omega) (by omega)] | ((first | refine hK _ ?_ | refine hKp _ _ ?_); clear hK hKp K Kp; try clear hanc anc) | ((with_reducible refine And.intro ?_ ?_); (focus (first | trivial | omega | (simp only [Fits]; omega) | assumption | (rw [hanc]; rfl)))) | ((first | refine K_regA hE fun K Kp hK hKp => ?_ | refine K_drwA false mixed hE fun K Kp hK hKp anc hanc => ?_); simp only [go_sem, q2]) | ((first | refine onG_split_t (fun hg => ?_) (fun hg => ?_) | refine onG_split_f (fun hg => ?_) (fun hg => ?_)) <;> simp only [go_sem, q2, hg]) | (refine K_condA (fun hc => ?_) (fun hc => ?_) <;> try (exact absurd hc (by decide))) | (refine K_ret ?_; refine (hQ _ ⟨_, by (try simp only [go_sem, ↓reduceIte, Nat.reduceEqDiff]); rfl, by simp [go_sem], ?_, by first | rfl | assumption⟩).1))
   all_goals simp [AV.snap, h2]
 ·have q1 : (k == k') = false := by simp [h1]
  refine PCall.intro Try.func50 rfl isf50 (by simp [Try.f50]) (by simp [AV.cloL, AV.clo]) fun E Q hE hN hQ => K_start ?_
  repeat' (first | apply nx | refine Kq_exit_ne (by decide) ?_ | rw [wrap64 (by omega) (by omega)] | ((first | refine hK _ ?_ | refine hKp _ _ ?_); clear hK hKp K Kp; try clear hanc anc) | ((with_reducible refine And.intro ?_ ?_); (focus (first | trivial | omega | (simp only [Fits]; omega) | assumption | (rw [hanc]; rfl)))) | ((first | refine K_regA hE fun K Kp hK hKp => ?_ | refine K_drwA false mixed hE fun K Kp hK hKp anc hanc => ?_); simp only [go_sem, q1]) | ((first | refine onG_split_t (fun hg => ?_) (fun hg => ?_) | refine onG_split_f (fun hg => ?_) (fun hg => ?_)) <;> simp only [go_sem, q1, hg]) | (refine K_condA (fun hc => ?_) (fun hc => ?_) <;> try (exact absurd hc (by decide))) | (refine K_ret ?_; refine (hQ _ ⟨_, by (try simp only [go_sem, ↓reduceIte, Nat.reduceEqDiff]); rfl, by simp [go_sem], ?_, by first | rfl | assumption⟩).1))
  all_goals simp [AV.snap, h1]
theorem sameT_call : ∀ (N : Nat) (a b : Ty), a.sz < N → N ≤ 2 ^ 40 → PCall Try.prog 18 [a.av, b.av] (.bool (decide (a = b))) := by
 intro N
 induction N with
 | zero => intro a b h; omega
 | succ N ih =>
 intro a b hn hN2
 have hsz := a.sz_eq
 have hlf := Ty.len_le a.args
 have hx : a = b ↔ a.kind = b.kind ∧ a.id = b.id ∧ a.args = b.args := Ty.ext_iff
 rw [Ty.av_eq, Ty.av_eq]
 by_cases hall : a.kind = b.kind ∧ a.id = b.id ∧ a.args.length = b.args.length
 ·obtain ⟨h1, h2, h3⟩ := hall
  have q1 : (a.kind != b.kind) = false := by simp [h1]
  have q2 : (a.id != b.id) = false := by simp [h2]
  have q3 : ((a.args.length : Int) != (b.args.length : Int)) = false := by simp [h3]
  refine PCall.intro Try.func18 rfl isf18 (by simp [Try.f18]) (by simp [AV.cloL, AV.clo]) fun E Q hE hN hQ => K_start ?_
  repeat' (first | apply nx | refine Kq_exit_ne (by decide) ?_ | rw [wrap64 (by omega) (by omega)] | ((first | refine hK _ ?_ | refine hKp _ _ ?_); clear hK hKp K Kp; try clear hanc anc) | ((with_reducible refine And.intro ?_ ?_); (focus (first | trivial | omega | (simp only [Fits]; omega) | assumption | (rw [hanc]; rfl)))) | ((first | refine K_regA hE fun K Kp hK hKp => ?_ | refine K_drwA false mixed hE fun K Kp hK hKp anc hanc => ?_); simp only [go_sem, q1, q2, q3]) | ((first | refine onG_split_t (fun hg => ?_) (fun hg => ?_) | refine onG_split_f (fun hg => ?_) (fun hg => ?_)) <;> simp only [go_sem, q1, q2, q3, hg]) | (refine K_condA (fun hc => ?_) (fun hc => ?_) <;> try (exact absurd hc (by decide))) | (refine K_ret ?_; refine (hQ _ ⟨_, by (try simp only [go_sem, ↓reduceIte, Nat.reduceEqDiff]); rfl, by simp [go_sem], ?_, by first | rfl | assumption⟩).1))
  refine K_loop (X := Nat) (fun i => i ≤ a.args.length ∧ decide (a.args = b.args) = decide (a.args.drop i = b.args.drop i)) (fun i => mkSt [(2, .ptr 0 0), (3, .ptr 1 0), (5, AV.i i)] [(0, .cells a.cs), (1, .cells b.cs)] 2) (fun i => a.args.length - i) 0 ⟨Nat.zero_le _, rfl⟩ (fun i => if i = 0 then 0 else 1048576) (by refine ent_mk (by simp [go_sem, Ty.cs]) (by simp [go_sem, Ty.cs]) (by simp) (by simp [hN])) ?_
  rintro i ⟨hi, ht⟩
  by_cases hlt : i < a.args.length
  ·obtain ⟨x, hx2⟩ := get?_of hlt
   obtain ⟨y, hy⟩ := get?_of (show i < b.args.length by omega)
   have hxm := Ty.sz_mem (List.mem_of_getElem? hx2)
   have hr := ih x y (by omega) (by omega)
   rw [Ty.av_eq, Ty.av_eq] at hr
   rw [drop_of hx2, drop_of hy] at ht
   by_cases hxy : x = y
   ·rw [decide_eq_true hxy] at hr
    repeat' (first | apply nx | refine Kq_exit_ne (by decide) ?_ | rw [wrap64 (by omega) (by omega)] | ((first | refine hK _ ?_ | refine hKp _ _ ?_); clear hK hKp K Kp; try clear hanc anc) | ((with_reducible refine And.intro ?_ ?_); (focus (first | trivial | omega | (simp only [Fits]; omega) | assumption | (rw [hanc]; rfl)))) | ((first | refine K_regA hE fun K Kp hK hKp => ?_ | refine K_drwA false mixed hE fun K Kp hK hKp anc hanc => ?_ | ((first | apply CallP_mk | apply CallB_mk); (focus (simp only [go_sem] <;> rfl)); (focus (exact hr)); (focus (first | (simp [go_sem]; done) | (simp [go_sem, CloRow, AV.cells, AV.clo]; done))); (focus (first | exact .inl rfl | (right; simp [go_sem]))))); simp only [go_sem, lt_dec hlt, hx2, hy, Ty.av_eq, Ty.cs]) | ((first | refine onG_split_t (fun hg => ?_) (fun hg => ?_) | refine onG_split_f (fun hg => ?_) (fun hg => ?_)) <;> simp only [go_sem, lt_dec hlt, hx2, hy, Ty.av_eq, Ty.cs, hg]) | (refine K_condA (fun hc => ?_) (fun hc => ?_) <;> try (exact absurd hc (by decide))) | (refine K_ret ?_; refine (hQ _ ⟨_, by (try simp only [go_sem, ↓reduceIte, Nat.reduceEqDiff]); rfl, by simp [go_sem], ?_, by first | rfl | assumption⟩).1))
    exact ⟨i + 1, ⟨by omega, by rw [ht]; simp [hxy]⟩, by omega, fun i => i, by refine ent_mk (by simp [go_sem, Ty.cs]) (by simp [go_sem, Ty.cs]) (by simp) (by simp [hN])⟩
   ·rw [decide_eq_false hxy] at hr
    repeat' (first | apply nx | refine Kq_exit_ne (by decide) ?_ | rw [wrap64 (by omega) (by omega)] | ((first | refine hK _ ?_ | refine hKp _ _ ?_); clear hK hKp K Kp; try clear hanc anc) | ((with_reducible refine And.intro ?_ ?_); (focus (first | trivial | omega | (simp only [Fits]; omega) | assumption | (rw [hanc]; rfl)))) | ((first | refine K_regA hE fun K Kp hK hKp => ?_ | refine K_drwA false mixed hE fun K Kp hK hKp anc hanc => ?_ | ((first | apply CallP_mk | apply CallB_mk); (focus (simp only [go_sem] <;> rfl)); (focus (exact hr)); (focus (first | (simp [go_sem]; done) | (simp [go_sem, CloRow, AV.cells, AV.clo]; done))); (focus (first | exact .inl rfl | (right; simp [go_sem]))))); simp only [go_sem, lt_dec hlt, hx2, hy, Ty.av_eq, Ty.cs]) | ((first | refine onG_split_t (fun hg => ?_) (fun hg => ?_) | refine onG_split_f (fun hg => ?_) (fun hg => ?_)) <;> simp only [go_sem, lt_dec hlt, hx2, hy, Ty.av_eq, Ty.cs, hg]) | (refine K_condA (fun hc => ?_) (fun hc => ?_) <;> try (exact absurd hc (by decide))) | (refine K_ret ?_; refine (hQ _ ⟨_, by (try simp only [go_sem, ↓reduceIte, Nat.reduceEqDiff]); rfl, by simp [go_sem], ?_, by first | rfl | assumption⟩).1))
    simp [AV.snap, hx, h1, h2, ht, hxy]
  ·obtain rfl : i = a.args.length := by omega
   rw [List.drop_length, h3, List.drop_length] at ht
   repeat' (first | apply nx | refine Kq_exit_ne (by decide) ?_ | rw [wrap64 (by omega) (by omega)] | ((first | refine hK _ ?_ | refine hKp _ _ ?_); clear hK hKp K Kp; try clear hanc anc) | ((with_reducible refine And.intro ?_ ?_); (focus (first | trivial | omega | (simp only [Fits]; omega) | assumption | (rw [hanc]; rfl)))) | ((first | refine K_regA hE fun K Kp hK hKp => ?_ | refine K_drwA false mixed hE fun K Kp hK hKp anc hanc => ?_); simp only [go_sem, ge_dec, Ty.cs]) | ((first | refine onG_split_t (fun hg => ?_) (fun hg => ?_) | refine onG_split_f (fun hg => ?_) (fun hg => ?_)) <;> simp only [go_sem, ge_dec, Ty.cs, hg]) | (refine K_condA (fun hc => ?_) (fun hc => ?_) <;> try (exact absurd hc (by decide))) | (refine K_ret ?_; refine (hQ _ ⟨_, by (try simp only [go_sem, ↓reduceIte, Nat.reduceEqDiff]); rfl, by simp [go_sem], ?_, by first | rfl | assumption⟩).1))
   simp [AV.snap, hx, h1, h2, ht]
 ·have hne : decide (a = b) = false := by
   simp only [decide_eq_false_iff_not, hx]
   rintro ⟨h1, h2, h3⟩
   exact hall ⟨h1, h2, by rw [h3]⟩
  rw [hne]
  refine PCall.intro Try.func18 rfl isf18 (by simp [Try.f18]) (by simp [AV.cloL, AV.clo]) fun E Q hE hN hQ => K_start ?_
  repeat' (first | apply nx | refine Kq_exit_ne (by decide) ?_ | rw [wrap64 (by omega) (by omega)] | ((first | refine hK _ ?_ | refine hKp _ _ ?_); clear hK hKp K Kp; try clear hanc anc) | ((with_reducible refine And.intro ?_ ?_); (focus (first | trivial | omega | (simp only [Fits]; omega) | assumption | (rw [hanc]; rfl)))) | ((first | refine K_regA hE fun K Kp hK hKp => ?_ | refine K_drwA false mixed hE fun K Kp hK hKp anc hanc => ?_); simp only [go_sem]) | ((first | refine onG_split_t (fun hg => ?_) (fun hg => ?_) | refine onG_split_f (fun hg => ?_) (fun hg => ?_)) <;> simp only [go_sem, hg]) | (refine K_condA (fun hc => ?_) (fun hc => ?_) <;> try (exact absurd hc (by decide))) | (refine K_ret ?_; refine (hQ _ ⟨_, by (try simp only [go_sem, ↓reduceIte, Nat.reduceEqDiff]); rfl, by simp [go_sem], ?_, by first | rfl | assumption⟩).1))
  all_goals first | (simp only [AV.snap]; done) | rfl | skip
  all_goals (exfalso; exact hall ⟨bne_eq_false_iff_eq.1 (by assumption), bne_eq_false_iff_eq.1 (by assumption), Int.ofNat.inj (bne_eq_false_iff_eq.1 (by assumption))⟩)
theorem stored_call : ∀ (N : Nat) (t : Ty) (n d : Int), t.sz < N → N ≤ 2 ^ 40 → d ≤ 2 ^ 40 → PCall Try.prog 40 [.i n, .i d, t.av] (.bool (stB n t d)) := by
 intro N
 induction N with
 | zero => intro t n d h; omega
 | succ N ih =>
 intro t n d hn hN2 hd
 have hsz := t.sz_eq
 have hlf := Ty.len_le t.args
 cases t with | mk k i a =>
 simp only [Ty.args] at hsz hlf
 rw [Ty.av, stB]
 by_cases k1 : k = 1
 ·subst k1
  refine PCall.intro Try.func40 rfl isf40 (by simp [Try.f40]) (by simp [AV.cloL, AV.clo]) fun E Q hE hN hQ => K_start ?_
  repeat' (first | apply nx | refine Kq_exit_ne (by decide) ?_ | rw [wrap64 (by omega) (by omega)] | ((first | refine hK _ ?_ | refine hKp _ _ ?_); clear hK hKp K Kp; try clear hanc anc) | ((with_reducible refine And.intro ?_ ?_); (focus (first | trivial | omega | (simp only [Fits]; omega) | assumption | (rw [hanc]; rfl)))) | ((first | refine K_regA hE fun K Kp hK hKp => ?_ | refine K_drwA false mixed hE fun K Kp hK hKp anc hanc => ?_); simp only [go_sem]) | ((first | refine onG_split_t (fun hg => ?_) (fun hg => ?_) | refine onG_split_f (fun hg => ?_) (fun hg => ?_)) <;> simp only [go_sem, hg]) | (refine K_condA (fun hc => ?_) (fun hc => ?_) <;> try (exact absurd hc (by decide))) | (refine K_ret ?_; refine (hQ _ ⟨_, by (try simp only [go_sem, ↓reduceIte, Nat.reduceEqDiff]); rfl, by simp [go_sem], ?_, by first | rfl | assumption⟩).1))
  cases a <;> simp [AV.snap]
  omega
 by_cases k2 : k = 2
 ·subst k2
  refine PCall.intro Try.func40 rfl isf40 (by simp [Try.f40]) (by simp [AV.cloL, AV.clo]) fun E Q hE hN hQ => K_start ?_
  repeat' (first | apply nx | refine Kq_exit_ne (by decide) ?_ | rw [wrap64 (by omega) (by omega)] | ((first | refine hK _ ?_ | refine hKp _ _ ?_); clear hK hKp K Kp; try clear hanc anc) | ((with_reducible refine And.intro ?_ ?_); (focus (first | trivial | omega | (simp only [Fits]; omega) | assumption | (rw [hanc]; rfl)))) | ((first | refine K_regA hE fun K Kp hK hKp => ?_ | refine K_drwA false mixed hE fun K Kp hK hKp anc hanc => ?_); simp only [go_sem]) | ((first | refine onG_split_t (fun hg => ?_) (fun hg => ?_) | refine onG_split_f (fun hg => ?_) (fun hg => ?_)) <;> simp only [go_sem, hg]) | (refine K_condA (fun hc => ?_) (fun hc => ?_) <;> try (exact absurd hc (by decide))) | (refine K_ret ?_; refine (hQ _ ⟨_, by (try simp only [go_sem, ↓reduceIte, Nat.reduceEqDiff]); rfl, by simp [go_sem], ?_, by first | rfl | assumption⟩).1))
  all_goals (cases a <;> simp_all [AV.snap] <;> omega)
 have k1' : (k == 1) = false := by simp [k1]
 have k2' : (k == 2) = false := by simp [k2]
 rw [if_neg k1, if_neg k2]
 by_cases k3 : k = 3 ∨ k = 4
 ·rw [if_pos k3]
  have main : ∀ r, r = (a.length == 1 && (decide (1 < d) && stL n a (d - 1))) → PCall Try.prog 40 [.i n, .i d, .agg [.i k, .i i, .sl (Ty.avL a)]] (.bool r) := by
   intro r hr
   by_cases hl1 : a.length = 1
   ·obtain ⟨s, hs⟩ : ∃ s, a = [s] := by
     match a, hl1 with | [s], _ => exact ⟨s, rfl⟩
    have hx : a[0]? = some s := by rw [hs]; rfl
    have hg1 : ((a.length : Int) == 1) = true := by simp [hl1]
    have hq0 : Ty.szL a = s.sz := by rw [hs, Ty.szL, Ty.szL]; rfl
    have hq : s.sz < N := by omega
    by_cases hd1 : 1 < d
    ·have hc0 := ih s n (d - 1) hq (by omega) (by omega)
     have e : r = stB n s (d - 1) := by rw [hr, hs, stL, stL]; simp [hd1]
     have hg : decide (d > 1) = true := by simpa using hd1
     rw [← e, Ty.av_eq] at hc0
     have u : IntKind.i64.wrap (d - 1) = d - 1 := wrap64 (by omega) (by omega)
     rcases k3 with rfl | rfl
     all_goals
      refine PCall.intro Try.func40 rfl isf40 (by simp [Try.f40]) (by simp [AV.cloL, AV.clo]) fun E Q hE hN hQ => K_start ?_
      repeat' (first | apply nx | refine Kq_exit_ne (by decide) ?_ | rw [wrap64 (by omega) (by omega)] | ((first | refine hK _ ?_ | refine hKp _ _ ?_); clear hK hKp K Kp; try clear hanc anc) | ((with_reducible refine And.intro ?_ ?_); (focus (first | trivial | omega | (simp only [Fits]; omega) | assumption | (rw [hanc]; rfl)))) | ((first | refine K_regA hE fun K Kp hK hKp => ?_ | refine K_drwA false mixed hE fun K Kp hK hKp anc hanc => ?_ | ((first | apply CallP_mk | apply CallB_mk); (focus (simp only [go_sem] <;> rfl)); (focus (exact hc0)); (focus (first | (simp [go_sem]; done) | (simp [go_sem, CloRow, AV.cells, AV.clo]; done))); (focus (first | exact .inl rfl | (right; simp [go_sem]))))); simp only [go_sem, hg, hg1, u, hx, Ty.av_eq]) | ((first | refine onG_split_t (fun hg => ?_) (fun hg => ?_) | refine onG_split_f (fun hg => ?_) (fun hg => ?_)) <;> simp only [go_sem, hg, hg1, u, hx, Ty.av_eq, hg]) | (refine K_condA (fun hc => ?_) (fun hc => ?_) <;> try (exact absurd hc (by decide))) | (refine K_ret ?_; refine (hQ _ ⟨_, by (try simp only [go_sem, ↓reduceIte, Nat.reduceEqDiff]); rfl, by simp [go_sem], ?_, by first | rfl | assumption⟩).1))
      all_goals simp [AV.snap]
    ·have e : r = false := by rw [hr]; simp [hd1]
     have hg : decide (d > 1) = false := by simpa using hd1
     subst e
     rcases k3 with rfl | rfl
     all_goals
      refine PCall.intro Try.func40 rfl isf40 (by simp [Try.f40]) (by simp [AV.cloL, AV.clo]) fun E Q hE hN hQ => K_start ?_
      repeat' (first | apply nx | refine Kq_exit_ne (by decide) ?_ | rw [wrap64 (by omega) (by omega)] | ((first | refine hK _ ?_ | refine hKp _ _ ?_); clear hK hKp K Kp; try clear hanc anc) | ((with_reducible refine And.intro ?_ ?_); (focus (first | trivial | omega | (simp only [Fits]; omega) | assumption | (rw [hanc]; rfl)))) | ((first | refine K_regA hE fun K Kp hK hKp => ?_ | refine K_drwA false mixed hE fun K Kp hK hKp anc hanc => ?_); simp only [go_sem, hg, hg1]) | ((first | refine onG_split_t (fun hg => ?_) (fun hg => ?_) | refine onG_split_f (fun hg => ?_) (fun hg => ?_)) <;> simp only [go_sem, hg, hg1, hg]) | (refine K_condA (fun hc => ?_) (fun hc => ?_) <;> try (exact absurd hc (by decide))) | (refine K_ret ?_; refine (hQ _ ⟨_, by (try simp only [go_sem, ↓reduceIte, Nat.reduceEqDiff]); rfl, by simp [go_sem], ?_, by first | rfl | assumption⟩).1))
      all_goals simp [AV.snap]
   ·have e : r = false := by rw [hr]; simp [hl1]
    have hg1 : ((a.length : Int) == 1) = false := by simp; omega
    subst e
    rcases k3 with rfl | rfl
    all_goals
     refine PCall.intro Try.func40 rfl isf40 (by simp [Try.f40]) (by simp [AV.cloL, AV.clo]) fun E Q hE hN hQ => K_start ?_
     repeat' (first | apply nx | refine Kq_exit_ne (by decide) ?_ | rw [wrap64 (by omega) (by omega)] | ((first | refine hK _ ?_ | refine hKp _ _ ?_); clear hK hKp K Kp; try clear hanc anc) | ((with_reducible refine And.intro ?_ ?_); (focus (first | trivial | omega | (simp only [Fits]; omega) | assumption | (rw [hanc]; rfl)))) | ((first | refine K_regA hE fun K Kp hK hKp => ?_ | refine K_drwA false mixed hE fun K Kp hK hKp anc hanc => ?_); simp only [go_sem, hg1]) | ((first | refine onG_split_t (fun hg => ?_) (fun hg => ?_) | refine onG_split_f (fun hg => ?_) (fun hg => ?_)) <;> simp only [go_sem, hg1, hg]) | (refine K_condA (fun hc => ?_) (fun hc => ?_) <;> try (exact absurd hc (by decide))) | (refine K_ret ?_; refine (hQ _ ⟨_, by (try simp only [go_sem, ↓reduceIte, Nat.reduceEqDiff]); rfl, by simp [go_sem], ?_, by first | rfl | assumption⟩).1))
     all_goals simp [AV.snap]
  exact main _ rfl
 ·rw [if_neg k3]
  have k3' : (k == 3) = false := by simp; omega
  have k4' : (k == 4) = false := by simp; omega
  refine PCall.intro Try.func40 rfl isf40 (by simp [Try.f40]) (by simp [AV.cloL, AV.clo]) fun E Q hE hN hQ => K_start ?_
  repeat' (first | apply nx | refine Kq_exit_ne (by decide) ?_ | rw [wrap64 (by omega) (by omega)] | ((first | refine hK _ ?_ | refine hKp _ _ ?_); clear hK hKp K Kp; try clear hanc anc) | ((with_reducible refine And.intro ?_ ?_); (focus (first | trivial | omega | (simp only [Fits]; omega) | assumption | (rw [hanc]; rfl)))) | ((first | refine K_regA hE fun K Kp hK hKp => ?_ | refine K_drwA false mixed hE fun K Kp hK hKp anc hanc => ?_); simp only [go_sem, k1', k2', k3', k4']) | ((first | refine onG_split_t (fun hg => ?_) (fun hg => ?_) | refine onG_split_f (fun hg => ?_) (fun hg => ?_)) <;> simp only [go_sem, k1', k2', k3', k4', hg]) | (refine K_condA (fun hc => ?_) (fun hc => ?_) <;> try (exact absurd hc (by decide))) | (refine K_ret ?_; refine (hQ _ ⟨_, by (try simp only [go_sem, ↓reduceIte, Nat.reduceEqDiff]); rfl, by simp [go_sem], ?_, by first | rfl | assumption⟩).1))
  all_goals simp [AV.snap]
end Go.Proofs.Ytlhhahocjfgmdaa

set_option linter.unusedSimpArgs false
set_option linter.unusedVariables false
set_option maxHeartbeats 4000000
set_option maxRecDepth 100000
namespace Go.Proofs.Ytlhhahocjfgmdaa
open Nat (reduceAdd reduceMul reduceEqDiff reduceLT reduceLeDiff reduceSub reduceDiv)
open Int (reduceBNe reduceLE reduceEq)
open Go.Am Go.Proofs Go.Hv Go.Mv
open Classical
attribute [local irreducible] AW CallP CallB
theorem rstored_call : ∀ (N : Nat) (t : Ty) (n d : Int), t.sz < N → N ≤ 2 ^ 40 → d ≤ 2 ^ 40 → PCall Try.prog 9 [.i n, t.av, .i d] (.bool (stB n t d)) := by
 intro N
 induction N with
 | zero => intro t n d h; omega
 | succ N ih =>
 intro t n d hn hN2 hd
 have hsz := t.sz_eq
 have hlf := Ty.len_le t.args
 cases t with | mk k i a =>
 simp only [Ty.args] at hsz hlf
 rw [Ty.av, stB]
 by_cases k1 : k = 1
 ·subst k1
  refine PCall.intro Try.func9 rfl isf9 (by simp [Try.f9]) (by simp [AV.cloL, AV.clo]) fun E Q hE hN hQ => K_start ?_
  repeat' (first | apply nx | refine Kq_exit_ne (by decide) ?_ | rw [wrap64 (by omega) (by omega)] | ((first | refine hK _ ?_ | refine hKp _ _ ?_); clear hK hKp K Kp; try clear hanc anc) | ((with_reducible refine And.intro ?_ ?_); (focus (first | trivial | omega | (simp only [Fits]; omega) | assumption | (rw [hanc]; rfl)))) | ((first | refine K_regA hE fun K Kp hK hKp => ?_ | refine K_drwA false mixed hE fun K Kp hK hKp anc hanc => ?_); simp only [go_sem]) | ((first | refine onG_split_t (fun hg => ?_) (fun hg => ?_) | refine onG_split_f (fun hg => ?_) (fun hg => ?_)) <;> simp only [go_sem, hg]) | (refine K_condA (fun hc => ?_) (fun hc => ?_) <;> try (exact absurd hc (by decide))) | (refine K_ret ?_; refine (hQ _ ⟨_, by (try simp only [go_sem, ↓reduceIte, Nat.reduceEqDiff]); rfl, by simp [go_sem], ?_, by first | rfl | assumption⟩).1))
  cases a <;> simp [AV.snap]
  omega
 by_cases k2 : k = 2
 ·subst k2
  refine PCall.intro Try.func9 rfl isf9 (by simp [Try.f9]) (by simp [AV.cloL, AV.clo]) fun E Q hE hN hQ => K_start ?_
  repeat' (first | apply nx | refine Kq_exit_ne (by decide) ?_ | rw [wrap64 (by omega) (by omega)] | ((first | refine hK _ ?_ | refine hKp _ _ ?_); clear hK hKp K Kp; try clear hanc anc) | ((with_reducible refine And.intro ?_ ?_); (focus (first | trivial | omega | (simp only [Fits]; omega) | assumption | (rw [hanc]; rfl)))) | ((first | refine K_regA hE fun K Kp hK hKp => ?_ | refine K_drwA false mixed hE fun K Kp hK hKp anc hanc => ?_); simp only [go_sem]) | ((first | refine onG_split_t (fun hg => ?_) (fun hg => ?_) | refine onG_split_f (fun hg => ?_) (fun hg => ?_)) <;> simp only [go_sem, hg]) | (refine K_condA (fun hc => ?_) (fun hc => ?_) <;> try (exact absurd hc (by decide))) | (refine K_ret ?_; refine (hQ _ ⟨_, by (try simp only [go_sem, ↓reduceIte, Nat.reduceEqDiff]); rfl, by simp [go_sem], ?_, by first | rfl | assumption⟩).1))
  all_goals (cases a <;> simp_all [AV.snap] <;> omega)
 have k1' : (k == 1) = false := by simp [k1]
 have k2' : (k == 2) = false := by simp [k2]
 rw [if_neg k1, if_neg k2]
 by_cases k3 : k = 3 ∨ k = 4
 ·rw [if_pos k3]
  have main : ∀ r, r = (a.length == 1 && (decide (1 < d) && stL n a (d - 1))) → PCall Try.prog 9 [.i n, .agg [.i k, .i i, .sl (Ty.avL a)], .i d] (.bool r) := by
   intro r hr
   by_cases hl1 : a.length = 1
   ·obtain ⟨s, hs⟩ : ∃ s, a = [s] := by
     match a, hl1 with | [s], _ => exact ⟨s, rfl⟩
    have hx : a[0]? = some s := by rw [hs]; rfl
    have hg1 : ((a.length : Int) == 1) = true := by simp [hl1]
    have hq0 : Ty.szL a = s.sz := by rw [hs, Ty.szL, Ty.szL]; rfl
    have hq : s.sz < N := by omega
    by_cases hd1 : 1 < d
    ·have hc0 := ih s n (d - 1) hq (by omega) (by omega)
     have e : r = stB n s (d - 1) := by rw [hr, hs, stL, stL]; simp [hd1]
     have hg : decide (d > 1) = true := by simpa using hd1
     rw [← e, Ty.av_eq] at hc0
     have u : IntKind.i64.wrap (d - 1) = d - 1 := wrap64 (by omega) (by omega)
     rcases k3 with rfl | rfl
     all_goals
      refine PCall.intro Try.func9 rfl isf9 (by simp [Try.f9]) (by simp [AV.cloL, AV.clo]) fun E Q hE hN hQ => K_start ?_
      repeat' (first | apply nx | refine Kq_exit_ne (by decide) ?_ | rw [wrap64 (by omega) (by omega)] | ((first | refine hK _ ?_ | refine hKp _ _ ?_); clear hK hKp K Kp; try clear hanc anc) | ((with_reducible refine And.intro ?_ ?_); (focus (first | trivial | omega | (simp only [Fits]; omega) | assumption | (rw [hanc]; rfl)))) | ((first | refine K_regA hE fun K Kp hK hKp => ?_ | refine K_drwA false mixed hE fun K Kp hK hKp anc hanc => ?_ | ((first | apply CallP_mk | apply CallB_mk); (focus (simp only [go_sem] <;> rfl)); (focus (exact hc0)); (focus (first | (simp [go_sem]; done) | (simp [go_sem, CloRow, AV.cells, AV.clo]; done))); (focus (first | exact .inl rfl | (right; simp [go_sem]))))); simp only [go_sem, hg, hg1, u, hx, Ty.av_eq]) | ((first | refine onG_split_t (fun hg => ?_) (fun hg => ?_) | refine onG_split_f (fun hg => ?_) (fun hg => ?_)) <;> simp only [go_sem, hg, hg1, u, hx, Ty.av_eq, hg]) | (refine K_condA (fun hc => ?_) (fun hc => ?_) <;> try (exact absurd hc (by decide))) | (refine K_ret ?_; refine (hQ _ ⟨_, by (try simp only [go_sem, ↓reduceIte, Nat.reduceEqDiff]); rfl, by simp [go_sem], ?_, by first | rfl | assumption⟩).1))
      all_goals simp [AV.snap]
    ·have e : r = false := by rw [hr]; simp [hd1]
     have hg : decide (d > 1) = false := by simpa using hd1
     subst e
     rcases k3 with rfl | rfl
     all_goals
      refine PCall.intro Try.func9 rfl isf9 (by simp [Try.f9]) (by simp [AV.cloL, AV.clo]) fun E Q hE hN hQ => K_start ?_
      repeat' (first | apply nx | refine Kq_exit_ne (by decide) ?_ | rw [wrap64 (by omega) (by omega)] | ((first | refine hK _ ?_ | refine hKp _ _ ?_); clear hK hKp K Kp; try clear hanc anc) | ((with_reducible refine And.intro ?_ ?_); (focus (first | trivial | omega | (simp only [Fits]; omega) | assumption | (rw [hanc]; rfl)))) | ((first | refine K_regA hE fun K Kp hK hKp => ?_ | refine K_drwA false mixed hE fun K Kp hK hKp anc hanc => ?_); simp only [go_sem, hg, hg1]) | ((first | refine onG_split_t (fun hg => ?_) (fun hg => ?_) | refine onG_split_f (fun hg => ?_) (fun hg => ?_)) <;> simp only [go_sem, hg, hg1, hg]) | (refine K_condA (fun hc => ?_) (fun hc => ?_) <;> try (exact absurd hc (by decide))) | (refine K_ret ?_; refine (hQ _ ⟨_, by (try simp only [go_sem, ↓reduceIte, Nat.reduceEqDiff]); rfl, by simp [go_sem], ?_, by first | rfl | assumption⟩).1))
      all_goals simp [AV.snap]
   ·have e : r = false := by rw [hr]; simp [hl1]
    have hg1 : ((a.length : Int) == 1) = false := by simp; omega
    subst e
    rcases k3 with rfl | rfl
    all_goals
     refine PCall.intro Try.func9 rfl isf9 (by simp [Try.f9]) (by simp [AV.cloL, AV.clo]) fun E Q hE hN hQ => K_start ?_
     repeat' (first | apply nx | refine Kq_exit_ne (by decide) ?_ | rw [wrap64 (by omega) (by omega)] | ((first | refine hK _ ?_ | refine hKp _ _ ?_); clear hK hKp K Kp; try clear hanc anc) | ((with_reducible refine And.intro ?_ ?_); (focus (first | trivial | omega | (simp only [Fits]; omega) | assumption | (rw [hanc]; rfl)))) | ((first | refine K_regA hE fun K Kp hK hKp => ?_ | refine K_drwA false mixed hE fun K Kp hK hKp anc hanc => ?_); simp only [go_sem, hg1]) | ((first | refine onG_split_t (fun hg => ?_) (fun hg => ?_) | refine onG_split_f (fun hg => ?_) (fun hg => ?_)) <;> simp only [go_sem, hg1, hg]) | (refine K_condA (fun hc => ?_) (fun hc => ?_) <;> try (exact absurd hc (by decide))) | (refine K_ret ?_; refine (hQ _ ⟨_, by (try simp only [go_sem, ↓reduceIte, Nat.reduceEqDiff]); rfl, by simp [go_sem], ?_, by first | rfl | assumption⟩).1))
     all_goals simp [AV.snap]
  exact main _ rfl
 ·rw [if_neg k3]
  have k3' : (k == 3) = false := by simp; omega
  have k4' : (k == 4) = false := by simp; omega
  refine PCall.intro Try.func9 rfl isf9 (by simp [Try.f9]) (by simp [AV.cloL, AV.clo]) fun E Q hE hN hQ => K_start ?_
  repeat' (first | apply nx | refine Kq_exit_ne (by decide) ?_ | rw [wrap64 (by omega) (by omega)] | ((first | refine hK _ ?_ | refine hKp _ _ ?_); clear hK hKp K Kp; try clear hanc anc) | ((with_reducible refine And.intro ?_ ?_); (focus (first | trivial | omega | (simp only [Fits]; omega) | assumption | (rw [hanc]; rfl)))) | ((first | refine K_regA hE fun K Kp hK hKp => ?_ | refine K_drwA false mixed hE fun K Kp hK hKp anc hanc => ?_); simp only [go_sem, k1', k2', k3', k4']) | ((first | refine onG_split_t (fun hg => ?_) (fun hg => ?_) | refine onG_split_f (fun hg => ?_) (fun hg => ?_)) <;> simp only [go_sem, k1', k2', k3', k4', hg]) | (refine K_condA (fun hc => ?_) (fun hc => ?_) <;> try (exact absurd hc (by decide))) | (refine K_ret ?_; refine (hQ _ ⟨_, by (try simp only [go_sem, ↓reduceIte, Nat.reduceEqDiff]); rfl, by simp [go_sem], ?_, by first | rfl | assumption⟩).1))
  all_goals simp [AV.snap]
mutual
def tgt : Ty → Int
 | .mk k i a => if k = 2 then i else if k = 3 then tgtL a else -1
def tgtL : List Ty → Int
 | [] => -1
 | t :: _ => tgt t
end
theorem tgt_data {t : Ty} (h : t.kind = 2) : tgt t = t.id := by
 cases t with | mk k i a => simp only [Ty.kind] at h; rw [tgt, if_pos h]; rfl
theorem target_call : ∀ (N : Nat) (t : Ty) (n d : Int), t.sz < N → stB n t d = true → PCall Try.prog 32 [t.av] (.i (tgt t)) := by
 intro N
 induction N with
 | zero => intro t n d h; omega
 | succ N ih =>
 intro t n d hn hst
 have hsz := t.sz_eq
 cases t with | mk k i a =>
 simp only [Ty.args] at hsz
 rw [stB] at hst
 rw [Ty.av, tgt]
 by_cases k2 : k = 2
 ·subst k2
  refine PCall.intro Try.func32 rfl isf32 (by simp [Try.f32]) (by simp [AV.cloL, AV.clo]) fun E Q hE hN hQ => K_start ?_
  repeat' (first | apply nx | refine Kq_exit_ne (by decide) ?_ | rw [wrap64 (by omega) (by omega)] | ((first | refine hK _ ?_ | refine hKp _ _ ?_); clear hK hKp K Kp; try clear hanc anc) | ((with_reducible refine And.intro ?_ ?_); (focus (first | trivial | omega | (simp only [Fits]; omega) | assumption | (rw [hanc]; rfl)))) | ((first | refine K_regA hE fun K Kp hK hKp => ?_ | refine K_drwA false mixed hE fun K Kp hK hKp anc hanc => ?_); simp only [go_sem]) | ((first | refine onG_split_t (fun hg => ?_) (fun hg => ?_) | refine onG_split_f (fun hg => ?_) (fun hg => ?_)) <;> simp only [go_sem, hg]) | (refine K_condA (fun hc => ?_) (fun hc => ?_) <;> try (exact absurd hc (by decide))) | (refine K_ret ?_; refine (hQ _ ⟨_, by (try simp only [go_sem, ↓reduceIte, Nat.reduceEqDiff]); rfl, by simp [go_sem], ?_, by first | rfl | assumption⟩).1))
  all_goals simp [AV.snap]
 rw [if_neg k2]
 rw [if_neg k2] at hst
 have k2' : (k == 2) = false := by simp [k2]
 by_cases k3 : k = 3
 ·subst k3
  simp at hst
  obtain ⟨s, rfl⟩ : ∃ s, a = [s] := by
   match a, hst.1 with | [s], _ => exact ⟨s, rfl⟩
  have hq0 : Ty.szL [s] = s.sz := by rw [Ty.szL, Ty.szL]; rfl
  have hst2 : stB n s (d - 1) = true := by
   have := hst.2.2
   rw [stL, stL] at this
   simpa using this
  have hc0 := ih s n (d - 1) (by omega) hst2
  rw [Ty.av_eq] at hc0
  have e : tgtL [s] = tgt s := by rw [tgtL]
  have hx : ([s] : List Ty)[0]? = some s := rfl
  generalize hl : ([s] : List Ty) = l at *
  refine PCall.intro Try.func32 rfl isf32 (by simp [Try.f32]) (by simp [AV.cloL, AV.clo]) fun E Q hE hN hQ => K_start ?_
  repeat' (first | apply nx | refine Kq_exit_ne (by decide) ?_ | rw [wrap64 (by omega) (by omega)] | ((first | refine hK _ ?_ | refine hKp _ _ ?_); clear hK hKp K Kp; try clear hanc anc) | ((with_reducible refine And.intro ?_ ?_); (focus (first | trivial | omega | (simp only [Fits]; omega) | assumption | (rw [hanc]; rfl)))) | ((first | refine K_regA hE fun K Kp hK hKp => ?_ | refine K_drwA false mixed hE fun K Kp hK hKp anc hanc => ?_ | ((first | apply CallP_mk | apply CallB_mk); (focus (simp only [go_sem] <;> rfl)); (focus (exact hc0)); (focus (first | (simp [go_sem]; done) | (simp [go_sem, CloRow, AV.cells, AV.clo]; done))); (focus (first | exact .inl rfl | (right; simp [go_sem]))))); simp only [go_sem, hx, Ty.av_eq]) | ((first | refine onG_split_t (fun hg => ?_) (fun hg => ?_) | refine onG_split_f (fun hg => ?_) (fun hg => ?_)) <;> simp only [go_sem, hx, Ty.av_eq, hg]) | (refine K_condA (fun hc => ?_) (fun hc => ?_) <;> try (exact absurd hc (by decide))) | (refine K_ret ?_; refine (hQ _ ⟨_, by (try simp only [go_sem, ↓reduceIte, Nat.reduceEqDiff]); rfl, by simp [go_sem], ?_, by first | rfl | assumption⟩).1))
  all_goals simp [AV.snap, e]
 ·have k3' : (k == 3) = false := by simp [k3]
  have k7 : (k == 7) = false := by
   simp only [beq_eq_false_iff_ne]; rintro rfl; simp at hst
  have k8 : (k == 8) = false := by
   simp only [beq_eq_false_iff_ne]; rintro rfl; simp at hst
  rw [if_neg k3]
  refine PCall.intro Try.func32 rfl isf32 (by simp [Try.f32]) (by simp [AV.cloL, AV.clo]) fun E Q hE hN hQ => K_start ?_
  repeat' (first | apply nx | refine Kq_exit_ne (by decide) ?_ | rw [wrap64 (by omega) (by omega)] | ((first | refine hK _ ?_ | refine hKp _ _ ?_); clear hK hKp K Kp; try clear hanc anc) | ((with_reducible refine And.intro ?_ ?_); (focus (first | trivial | omega | (simp only [Fits]; omega) | assumption | (rw [hanc]; rfl)))) | ((first | refine K_regA hE fun K Kp hK hKp => ?_ | refine K_drwA false mixed hE fun K Kp hK hKp anc hanc => ?_); simp only [go_sem, k2', k3', k7, k8]) | ((first | refine onG_split_t (fun hg => ?_) (fun hg => ?_) | refine onG_split_f (fun hg => ?_) (fun hg => ?_)) <;> simp only [go_sem, k2', k3', k7, k8, hg]) | (refine K_condA (fun hc => ?_) (fun hc => ?_) <;> try (exact absurd hc (by decide))) | (refine K_ret ?_; refine (hQ _ ⟨_, by (try simp only [go_sem, ↓reduceIte, Nat.reduceEqDiff]); rfl, by simp [go_sem], ?_, by first | rfl | assumption⟩).1))
  all_goals simp [AV.snap]
theorem plain_call (t : Ty) (n : Int) (hs : t.sz < 2 ^ 40) (hst : stB n t 8 = true) : PCall Try.prog 31 [.i n, t.av] (.bool true) := by
 have hc0 := stored_call (2 ^ 40) t n 8 hs (Nat.le_refl _) (by decide)
 rw [hst] at hc0
 cases t with | mk k i a =>
 rw [stB] at hst
 rw [Ty.av] at *
 have k7 : (k == 7) = false := by
  simp only [beq_eq_false_iff_ne]; rintro rfl; simp at hst
 have k8 : (k == 8) = false := by
  simp only [beq_eq_false_iff_ne]; rintro rfl; simp at hst
 refine PCall.intro Try.func31 rfl isf31 (by simp [Try.f31]) (by simp [AV.cloL, AV.clo]) fun E Q hE hN hQ => K_start ?_
 repeat' (first | apply nx | refine Kq_exit_ne (by decide) ?_ | rw [wrap64 (by omega) (by omega)] | ((first | refine hK _ ?_ | refine hKp _ _ ?_); clear hK hKp K Kp; try clear hanc anc) | ((with_reducible refine And.intro ?_ ?_); (focus (first | trivial | omega | (simp only [Fits]; omega) | assumption | (rw [hanc]; rfl)))) | ((first | refine K_regA hE fun K Kp hK hKp => ?_ | refine K_drwA false mixed hE fun K Kp hK hKp anc hanc => ?_ | ((first | apply CallP_mk | apply CallB_mk); (focus (simp only [go_sem] <;> rfl)); (focus (exact hc0)); (focus (first | (simp [go_sem]; done) | (simp [go_sem, CloRow, AV.cells, AV.clo]; done))); (focus (first | exact .inl rfl | (right; simp [go_sem]))))); simp only [go_sem, k7, k8]) | ((first | refine onG_split_t (fun hg => ?_) (fun hg => ?_) | refine onG_split_f (fun hg => ?_) (fun hg => ?_)) <;> simp only [go_sem, k7, k8, hg]) | (refine K_condA (fun hc => ?_) (fun hc => ?_) <;> try (exact absurd hc (by decide))) | (refine K_ret ?_; refine (hQ _ ⟨_, by (try simp only [go_sem, ↓reduceIte, Nat.reduceEqDiff]); rfl, by simp [go_sem], ?_, by first | rfl | assumption⟩).1))
 all_goals simp [AV.snap]
theorem tyM_eq (l : List Mg) (k i : Int) (a : List Ty) : ∃ i', tyM l (.mk k i a) = .mk k i' (tyML l a) ∧ ((∃ x, k = 2 ∧ 0 ≤ i ∧ i < l.length ∧ l[i.toNat]? = some x ∧ i' = x.data) ∨ (¬ (k = 2 ∧ 0 ≤ i ∧ i < l.length) ∧ i' = i)) := by
 by_cases h : k = 2 ∧ 0 ≤ i ∧ i < l.length
 ·obtain ⟨h1, h2, h3⟩ := h
  have hx : l[i.toNat]? = some (l[i.toNat]'(by omega)) := List.getElem?_eq_getElem _
  refine ⟨_, ?_, .inl ⟨_, h1, h2, h3, hx, rfl⟩⟩
  rw [tyM, if_pos h1, at?, if_pos h2, hx]
 ·refine ⟨i, ?_, .inr ⟨h, rfl⟩⟩
  rw [tyM]
  by_cases h1 : k = 2
  ·rw [if_pos h1]
   by_cases h2 : 0 ≤ i
   ·rw [at?, if_pos h2, List.getElem?_eq_none (by omega)]
   ·rw [at?, if_neg h2]
  ·rw [if_neg h1]
theorem tyML_get (l : List Mg) (a : List Ty) : tyML l a = a.map (tyM l) := by
 induction a with
 | nil => rw [tyML]; rfl
 | cons x a ih => rw [tyML, ih]; rfl
theorem type_call : ∀ (N : Nat) (t : Ty) (l : List Mg), t.sz < N → N ≤ 2 ^ 40 → PCall Try.prog 12 [.sl (mgl l), t.av] (tyM l t).av := by
 intro N
 induction N with
 | zero => intro t n d h; omega
 | succ N ih =>
 intro t l hn hN2
 have hsz := t.sz_eq
 have hlf := Ty.len_le t.args
 cases t with | mk k i a =>
 simp only [Ty.args] at hsz hlf
 obtain ⟨i', ht, hb⟩ := tyM_eq l k i a
 rw [ht, Ty.av, Ty.av]
 have hcase : (∃ x, k = 2 ∧ decide (i ≥ 0) = true ∧ decide (i < (l.length : Int)) = true ∧ l[i.toNat]? = some x ∧ i' = x.data) ∨ ((k == 2) = false ∧ i' = i) ∨ (k = 2 ∧ decide (i ≥ 0) = false ∧ i' = i) ∨ (k = 2 ∧ decide (i ≥ 0) = true ∧ decide (i < (l.length : Int)) = false ∧ i' = i) := by
  rcases hb with ⟨x, h1, h2, h3, h4, h5⟩ | ⟨h1, h2⟩
  ·exact .inl ⟨x, h1, by simpa using h2, by simpa using h3, h4, h5⟩
  ·by_cases g1 : k = 2
   ·by_cases g2 : 0 ≤ i
    ·exact .inr (.inr (.inr ⟨g1, by simpa using g2, by simp; omega, h2⟩))
    ·exact .inr (.inr (.inl ⟨g1, by simpa using g2, h2⟩))
   ·exact .inr (.inl ⟨by simp [g1], h2⟩)
 refine PCall.intro Try.func12 rfl isf12 (by simp [Try.f12]) (by simp [AV.cloL, AV.clo]) fun E Q hE hN hQ => K_start ?_
 rcases hcase with ⟨x, g1, g2, g3, g4, g5⟩ | ⟨g1, g5⟩ | ⟨g1, g2, g5⟩ | ⟨g1, g2, g3, g5⟩
 ·try subst g1
  have gi : 0 ≤ i := by simpa using g2
  repeat' (first | apply nx | refine Kq_exit_ne (by decide) ?_ | rw [wrap64 (by omega) (by omega)] | ((first | refine hK _ ?_ | refine hKp _ _ ?_); clear hK hKp K Kp; try clear hanc anc) | ((with_reducible refine And.intro ?_ ?_); (focus (first | trivial | omega | (simp only [Fits]; omega) | assumption | (rw [hanc]; rfl)))) | ((first | refine K_regA hE fun K Kp hK hKp => ?_ | refine K_drwA true mixed hE fun K Kp hK hKp anc hanc => ?_ | refine K_drwA false mixed hE fun K Kp hK hKp anc hanc => ?_); simp only [go_sem, g2, g3, g4, Mg.av, Mg.cs_eq]) | ((first | refine onG_split_t (fun hg => ?_) (fun hg => ?_) | refine onG_split_f (fun hg => ?_) (fun hg => ?_)) <;> simp only [go_sem, g2, g3, g4, Mg.av, Mg.cs_eq, hg]) | (refine K_condA (fun hc => ?_) (fun hc => ?_) <;> try (exact absurd hc (by decide))))
  refine AW_nilc 7340032 2 3 (by simp [go_sem]; rfl) rfl ?_
  refine K_loop (X := Nat) (fun j => j ≤ a.length) (fun j => mkSt [(0, .sl (mgl l)), (3, .ptr 0 0), (4, .ptr 1 0), (5, .ptr 2 0), (36, .sl (Ty.avL a)), (37, .i a.length), (38, AV.i j)] [(0, .cells [.i 2, .i i, .sl (Ty.avL a)]), (1, .cells [.i 0, .i 0, .nilsl]), (2, .cells [.i 2, .i i', .rw 3]), (3, .row 3 (Ty.avL (tyML l (a.take j))))] 4) (fun j => a.length - j) 0 (Nat.zero_le _) (fun i => if i = 0 then 0 else if i = 1 then 1048576 else if i = 2 then 7340032 else 37748736) (by refine ent_mk (by simp [go_sem, g5, tyML, Ty.avL]) (by simp [go_sem, g5, tyML, Ty.avL]) (by simp) (by simp [hN])) ?_
  intro j hj
  by_cases hlt : j < a.length
  ·obtain ⟨s, hs⟩ := get?_of hlt
   have hc0 := ih s l (by have := Ty.sz_mem (List.mem_of_getElem? hs); omega) (by omega)
   have e : Ty.avL (tyML l (a.take j)) ++ [(tyM l s).av] = Ty.avL (tyML l (a.take (j + 1))) := by
    rw [Ty.avL_app, List.take_add_one, hs]; simp [tyML_get]
   rw [Ty.av_eq s] at hc0
   have hcl := Ty.av_eq (tyM l s)
   rw [hcl] at hc0 e
   repeat' (first | apply nx | refine Kq_exit_ne (by decide) ?_ | rw [wrap64 (by omega) (by omega)] | ((first | refine hK _ ?_ | refine hKp _ _ ?_); clear hK hKp K Kp; try clear hanc anc) | ((with_reducible refine And.intro ?_ ?_); (focus (first | trivial | omega | (simp only [Fits]; omega) | assumption | (rw [hanc]; rfl)))) | ((first | refine K_regA hE fun K Kp hK hKp => ?_ | refine K_drwA false mixed hE fun K Kp hK hKp anc hanc => ?_ | ((first | apply CallP_mk | apply CallB_mk); (focus (simp only [go_sem] <;> rfl)); (focus (exact hc0)); (focus (first | (simp [go_sem]; done) | (simp [go_sem, CloRow, AV.cells, AV.clo]; done))); (focus (first | exact .inl rfl | (right; simp [go_sem]))))); simp only [go_sem, lt_dec hlt, hs, Ty.av_eq s, e, tyML_len, List.length_take]) | ((first | refine onG_split_t (fun hg => ?_) (fun hg => ?_) | refine onG_split_f (fun hg => ?_) (fun hg => ?_)) <;> simp only [go_sem, lt_dec hlt, hs, Ty.av_eq s, e, tyML_len, List.length_take, hg]) | (refine K_condA (fun hc => ?_) (fun hc => ?_) <;> try (exact absurd hc (by decide))) | (refine K_ret ?_; refine (hQ _ ⟨_, by (try simp only [go_sem, ↓reduceIte, Nat.reduceEqDiff]); rfl, by simp [go_sem], ?_, by first | rfl | assumption⟩).1))
   exact ⟨j + 1, by omega, by omega, fun i => if i = 3 then 11534340 else i, by refine ent_mk (by simp [go_sem]) (by simp [go_sem]) (by simp) (by simp [hN])⟩
  ·obtain rfl : j = a.length := by omega
   repeat' (first | apply nx | refine Kq_exit_ne (by decide) ?_ | rw [wrap64 (by omega) (by omega)] | ((first | refine hK _ ?_ | refine hKp _ _ ?_); clear hK hKp K Kp; try clear hanc anc) | ((with_reducible refine And.intro ?_ ?_); (focus (first | trivial | omega | (simp only [Fits]; omega) | assumption | (rw [hanc]; rfl)))) | ((first | refine K_regA hE fun K Kp hK hKp => ?_ | refine K_drwA true mixed hE fun K Kp hK hKp anc hanc => ?_ | refine K_drwA false mixed hE fun K Kp hK hKp anc hanc => ?_); simp only [go_sem, ge_dec]) | ((first | refine onG_split_t (fun hg => ?_) (fun hg => ?_) | refine onG_split_f (fun hg => ?_) (fun hg => ?_)) <;> simp only [go_sem, ge_dec, hg]) | (refine K_condA (fun hc => ?_) (fun hc => ?_) <;> try (exact absurd hc (by decide))))
   refine K_ret (hQ _ ⟨.agg [.i 2, .i i', .rw 3], (by simp [resA, rvA, Try.f12, go_sem]; rfl), (by simp [AV.snapOk, AV.snapOkL, go_sem]), (by simp [AV.snap, AV.snapL, go_sem]), (by first | rfl | simp [AV.clo, AV.cloL, go_sem])⟩).1
 ·try subst g1
  repeat' (first | apply nx | refine Kq_exit_ne (by decide) ?_ | rw [wrap64 (by omega) (by omega)] | ((first | refine hK _ ?_ | refine hKp _ _ ?_); clear hK hKp K Kp; try clear hanc anc) | ((with_reducible refine And.intro ?_ ?_); (focus (first | trivial | omega | (simp only [Fits]; omega) | assumption | (rw [hanc]; rfl)))) | ((first | refine K_regA hE fun K Kp hK hKp => ?_ | refine K_drwA true mixed hE fun K Kp hK hKp anc hanc => ?_ | refine K_drwA false mixed hE fun K Kp hK hKp anc hanc => ?_); simp only [go_sem, g1]) | ((first | refine onG_split_t (fun hg => ?_) (fun hg => ?_) | refine onG_split_f (fun hg => ?_) (fun hg => ?_)) <;> simp only [go_sem, g1, hg]) | (refine K_condA (fun hc => ?_) (fun hc => ?_) <;> try (exact absurd hc (by decide))))
  refine AW_nilc 7340032 2 3 (by simp [go_sem]; rfl) rfl ?_
  refine K_loop (X := Nat) (fun j => j ≤ a.length) (fun j => mkSt [(0, .sl (mgl l)), (3, .ptr 0 0), (4, .ptr 1 0), (5, .ptr 2 0), (36, .sl (Ty.avL a)), (37, .i a.length), (38, AV.i j)] [(0, .cells [.i k, .i i, .sl (Ty.avL a)]), (1, .cells [.i 0, .i 0, .nilsl]), (2, .cells [.i k, .i i', .rw 3]), (3, .row 3 (Ty.avL (tyML l (a.take j))))] 4) (fun j => a.length - j) 0 (Nat.zero_le _) (fun i => if i = 0 then 0 else if i = 1 then 1048576 else if i = 2 then 7340032 else 29360128) (by refine ent_mk (by simp [go_sem, g5, tyML, Ty.avL]) (by simp [go_sem, g5, tyML, Ty.avL]) (by simp) (by simp [hN])) ?_
  intro j hj
  by_cases hlt : j < a.length
  ·obtain ⟨s, hs⟩ := get?_of hlt
   have hc0 := ih s l (by have := Ty.sz_mem (List.mem_of_getElem? hs); omega) (by omega)
   have e : Ty.avL (tyML l (a.take j)) ++ [(tyM l s).av] = Ty.avL (tyML l (a.take (j + 1))) := by
    rw [Ty.avL_app, List.take_add_one, hs]; simp [tyML_get]
   rw [Ty.av_eq s] at hc0
   have hcl := Ty.av_eq (tyM l s)
   rw [hcl] at hc0 e
   repeat' (first | apply nx | refine Kq_exit_ne (by decide) ?_ | rw [wrap64 (by omega) (by omega)] | ((first | refine hK _ ?_ | refine hKp _ _ ?_); clear hK hKp K Kp; try clear hanc anc) | ((with_reducible refine And.intro ?_ ?_); (focus (first | trivial | omega | (simp only [Fits]; omega) | assumption | (rw [hanc]; rfl)))) | ((first | refine K_regA hE fun K Kp hK hKp => ?_ | refine K_drwA false mixed hE fun K Kp hK hKp anc hanc => ?_ | ((first | apply CallP_mk | apply CallB_mk); (focus (simp only [go_sem] <;> rfl)); (focus (exact hc0)); (focus (first | (simp [go_sem]; done) | (simp [go_sem, CloRow, AV.cells, AV.clo]; done))); (focus (first | exact .inl rfl | (right; simp [go_sem]))))); simp only [go_sem, lt_dec hlt, hs, Ty.av_eq s, e, tyML_len, List.length_take]) | ((first | refine onG_split_t (fun hg => ?_) (fun hg => ?_) | refine onG_split_f (fun hg => ?_) (fun hg => ?_)) <;> simp only [go_sem, lt_dec hlt, hs, Ty.av_eq s, e, tyML_len, List.length_take, hg]) | (refine K_condA (fun hc => ?_) (fun hc => ?_) <;> try (exact absurd hc (by decide))) | (refine K_ret ?_; refine (hQ _ ⟨_, by (try simp only [go_sem, ↓reduceIte, Nat.reduceEqDiff]); rfl, by simp [go_sem], ?_, by first | rfl | assumption⟩).1))
   exact ⟨j + 1, by omega, by omega, fun i => if i = 3 then 11534340 else i, by refine ent_mk (by simp [go_sem]) (by simp [go_sem]) (by simp) (by simp [hN])⟩
  ·obtain rfl : j = a.length := by omega
   repeat' (first | apply nx | refine Kq_exit_ne (by decide) ?_ | rw [wrap64 (by omega) (by omega)] | ((first | refine hK _ ?_ | refine hKp _ _ ?_); clear hK hKp K Kp; try clear hanc anc) | ((with_reducible refine And.intro ?_ ?_); (focus (first | trivial | omega | (simp only [Fits]; omega) | assumption | (rw [hanc]; rfl)))) | ((first | refine K_regA hE fun K Kp hK hKp => ?_ | refine K_drwA true mixed hE fun K Kp hK hKp anc hanc => ?_ | refine K_drwA false mixed hE fun K Kp hK hKp anc hanc => ?_); simp only [go_sem, ge_dec]) | ((first | refine onG_split_t (fun hg => ?_) (fun hg => ?_) | refine onG_split_f (fun hg => ?_) (fun hg => ?_)) <;> simp only [go_sem, ge_dec, hg]) | (refine K_condA (fun hc => ?_) (fun hc => ?_) <;> try (exact absurd hc (by decide))))
   refine K_ret (hQ _ ⟨.agg [.i k, .i i', .rw 3], (by simp [resA, rvA, Try.f12, go_sem]; rfl), (by simp [AV.snapOk, AV.snapOkL, go_sem]), (by simp [AV.snap, AV.snapL, go_sem]), (by first | rfl | simp [AV.clo, AV.cloL, go_sem])⟩).1
 ·try subst g1
  repeat' (first | apply nx | refine Kq_exit_ne (by decide) ?_ | rw [wrap64 (by omega) (by omega)] | ((first | refine hK _ ?_ | refine hKp _ _ ?_); clear hK hKp K Kp; try clear hanc anc) | ((with_reducible refine And.intro ?_ ?_); (focus (first | trivial | omega | (simp only [Fits]; omega) | assumption | (rw [hanc]; rfl)))) | ((first | refine K_regA hE fun K Kp hK hKp => ?_ | refine K_drwA true mixed hE fun K Kp hK hKp anc hanc => ?_ | refine K_drwA false mixed hE fun K Kp hK hKp anc hanc => ?_); simp only [go_sem, g2]) | ((first | refine onG_split_t (fun hg => ?_) (fun hg => ?_) | refine onG_split_f (fun hg => ?_) (fun hg => ?_)) <;> simp only [go_sem, g2, hg]) | (refine K_condA (fun hc => ?_) (fun hc => ?_) <;> try (exact absurd hc (by decide))))
  refine AW_nilc 7340032 2 3 (by simp [go_sem]; rfl) rfl ?_
  refine K_loop (X := Nat) (fun j => j ≤ a.length) (fun j => mkSt [(0, .sl (mgl l)), (3, .ptr 0 0), (4, .ptr 1 0), (5, .ptr 2 0), (36, .sl (Ty.avL a)), (37, .i a.length), (38, AV.i j)] [(0, .cells [.i 2, .i i, .sl (Ty.avL a)]), (1, .cells [.i 0, .i 0, .nilsl]), (2, .cells [.i 2, .i i', .rw 3]), (3, .row 3 (Ty.avL (tyML l (a.take j))))] 4) (fun j => a.length - j) 0 (Nat.zero_le _) (fun i => if i = 0 then 0 else if i = 1 then 1048576 else if i = 2 then 7340032 else 29360128) (by refine ent_mk (by simp [go_sem, g5, tyML, Ty.avL]) (by simp [go_sem, g5, tyML, Ty.avL]) (by simp) (by simp [hN])) ?_
  intro j hj
  by_cases hlt : j < a.length
  ·obtain ⟨s, hs⟩ := get?_of hlt
   have hc0 := ih s l (by have := Ty.sz_mem (List.mem_of_getElem? hs); omega) (by omega)
   have e : Ty.avL (tyML l (a.take j)) ++ [(tyM l s).av] = Ty.avL (tyML l (a.take (j + 1))) := by
    rw [Ty.avL_app, List.take_add_one, hs]; simp [tyML_get]
   rw [Ty.av_eq s] at hc0
   have hcl := Ty.av_eq (tyM l s)
   rw [hcl] at hc0 e
   repeat' (first | apply nx | refine Kq_exit_ne (by decide) ?_ | rw [wrap64 (by omega) (by omega)] | ((first | refine hK _ ?_ | refine hKp _ _ ?_); clear hK hKp K Kp; try clear hanc anc) | ((with_reducible refine And.intro ?_ ?_); (focus (first | trivial | omega | (simp only [Fits]; omega) | assumption | (rw [hanc]; rfl)))) | ((first | refine K_regA hE fun K Kp hK hKp => ?_ | refine K_drwA false mixed hE fun K Kp hK hKp anc hanc => ?_ | ((first | apply CallP_mk | apply CallB_mk); (focus (simp only [go_sem] <;> rfl)); (focus (exact hc0)); (focus (first | (simp [go_sem]; done) | (simp [go_sem, CloRow, AV.cells, AV.clo]; done))); (focus (first | exact .inl rfl | (right; simp [go_sem]))))); simp only [go_sem, lt_dec hlt, hs, Ty.av_eq s, e, tyML_len, List.length_take]) | ((first | refine onG_split_t (fun hg => ?_) (fun hg => ?_) | refine onG_split_f (fun hg => ?_) (fun hg => ?_)) <;> simp only [go_sem, lt_dec hlt, hs, Ty.av_eq s, e, tyML_len, List.length_take, hg]) | (refine K_condA (fun hc => ?_) (fun hc => ?_) <;> try (exact absurd hc (by decide))) | (refine K_ret ?_; refine (hQ _ ⟨_, by (try simp only [go_sem, ↓reduceIte, Nat.reduceEqDiff]); rfl, by simp [go_sem], ?_, by first | rfl | assumption⟩).1))
   exact ⟨j + 1, by omega, by omega, fun i => if i = 3 then 11534340 else i, by refine ent_mk (by simp [go_sem]) (by simp [go_sem]) (by simp) (by simp [hN])⟩
  ·obtain rfl : j = a.length := by omega
   repeat' (first | apply nx | refine Kq_exit_ne (by decide) ?_ | rw [wrap64 (by omega) (by omega)] | ((first | refine hK _ ?_ | refine hKp _ _ ?_); clear hK hKp K Kp; try clear hanc anc) | ((with_reducible refine And.intro ?_ ?_); (focus (first | trivial | omega | (simp only [Fits]; omega) | assumption | (rw [hanc]; rfl)))) | ((first | refine K_regA hE fun K Kp hK hKp => ?_ | refine K_drwA true mixed hE fun K Kp hK hKp anc hanc => ?_ | refine K_drwA false mixed hE fun K Kp hK hKp anc hanc => ?_); simp only [go_sem, ge_dec]) | ((first | refine onG_split_t (fun hg => ?_) (fun hg => ?_) | refine onG_split_f (fun hg => ?_) (fun hg => ?_)) <;> simp only [go_sem, ge_dec, hg]) | (refine K_condA (fun hc => ?_) (fun hc => ?_) <;> try (exact absurd hc (by decide))))
   refine K_ret (hQ _ ⟨.agg [.i 2, .i i', .rw 3], (by simp [resA, rvA, Try.f12, go_sem]; rfl), (by simp [AV.snapOk, AV.snapOkL, go_sem]), (by simp [AV.snap, AV.snapL, go_sem]), (by first | rfl | simp [AV.clo, AV.cloL, go_sem])⟩).1
 ·try subst g1
  repeat' (first | apply nx | refine Kq_exit_ne (by decide) ?_ | rw [wrap64 (by omega) (by omega)] | ((first | refine hK _ ?_ | refine hKp _ _ ?_); clear hK hKp K Kp; try clear hanc anc) | ((with_reducible refine And.intro ?_ ?_); (focus (first | trivial | omega | (simp only [Fits]; omega) | assumption | (rw [hanc]; rfl)))) | ((first | refine K_regA hE fun K Kp hK hKp => ?_ | refine K_drwA true mixed hE fun K Kp hK hKp anc hanc => ?_ | refine K_drwA false mixed hE fun K Kp hK hKp anc hanc => ?_); simp only [go_sem, g2, g3]) | ((first | refine onG_split_t (fun hg => ?_) (fun hg => ?_) | refine onG_split_f (fun hg => ?_) (fun hg => ?_)) <;> simp only [go_sem, g2, g3, hg]) | (refine K_condA (fun hc => ?_) (fun hc => ?_) <;> try (exact absurd hc (by decide))))
  refine AW_nilc 7340032 2 3 (by simp [go_sem]; rfl) rfl ?_
  refine K_loop (X := Nat) (fun j => j ≤ a.length) (fun j => mkSt [(0, .sl (mgl l)), (3, .ptr 0 0), (4, .ptr 1 0), (5, .ptr 2 0), (36, .sl (Ty.avL a)), (37, .i a.length), (38, AV.i j)] [(0, .cells [.i 2, .i i, .sl (Ty.avL a)]), (1, .cells [.i 0, .i 0, .nilsl]), (2, .cells [.i 2, .i i', .rw 3]), (3, .row 3 (Ty.avL (tyML l (a.take j))))] 4) (fun j => a.length - j) 0 (Nat.zero_le _) (fun i => if i = 0 then 0 else if i = 1 then 1048576 else if i = 2 then 7340032 else 29360128) (by refine ent_mk (by simp [go_sem, g5, tyML, Ty.avL]) (by simp [go_sem, g5, tyML, Ty.avL]) (by simp) (by simp [hN])) ?_
  intro j hj
  by_cases hlt : j < a.length
  ·obtain ⟨s, hs⟩ := get?_of hlt
   have hc0 := ih s l (by have := Ty.sz_mem (List.mem_of_getElem? hs); omega) (by omega)
   have e : Ty.avL (tyML l (a.take j)) ++ [(tyM l s).av] = Ty.avL (tyML l (a.take (j + 1))) := by
    rw [Ty.avL_app, List.take_add_one, hs]; simp [tyML_get]
   rw [Ty.av_eq s] at hc0
   have hcl := Ty.av_eq (tyM l s)
   rw [hcl] at hc0 e
   repeat' (first | apply nx | refine Kq_exit_ne (by decide) ?_ | rw [wrap64 (by omega) (by omega)] | ((first | refine hK _ ?_ | refine hKp _ _ ?_); clear hK hKp K Kp; try clear hanc anc) | ((with_reducible refine And.intro ?_ ?_); (focus (first | trivial | omega | (simp only [Fits]; omega) | assumption | (rw [hanc]; rfl)))) | ((first | refine K_regA hE fun K Kp hK hKp => ?_ | refine K_drwA false mixed hE fun K Kp hK hKp anc hanc => ?_ | ((first | apply CallP_mk | apply CallB_mk); (focus (simp only [go_sem] <;> rfl)); (focus (exact hc0)); (focus (first | (simp [go_sem]; done) | (simp [go_sem, CloRow, AV.cells, AV.clo]; done))); (focus (first | exact .inl rfl | (right; simp [go_sem]))))); simp only [go_sem, lt_dec hlt, hs, Ty.av_eq s, e, tyML_len, List.length_take]) | ((first | refine onG_split_t (fun hg => ?_) (fun hg => ?_) | refine onG_split_f (fun hg => ?_) (fun hg => ?_)) <;> simp only [go_sem, lt_dec hlt, hs, Ty.av_eq s, e, tyML_len, List.length_take, hg]) | (refine K_condA (fun hc => ?_) (fun hc => ?_) <;> try (exact absurd hc (by decide))) | (refine K_ret ?_; refine (hQ _ ⟨_, by (try simp only [go_sem, ↓reduceIte, Nat.reduceEqDiff]); rfl, by simp [go_sem], ?_, by first | rfl | assumption⟩).1))
   exact ⟨j + 1, by omega, by omega, fun i => if i = 3 then 11534340 else i, by refine ent_mk (by simp [go_sem]) (by simp [go_sem]) (by simp) (by simp [hN])⟩
  ·obtain rfl : j = a.length := by omega
   repeat' (first | apply nx | refine Kq_exit_ne (by decide) ?_ | rw [wrap64 (by omega) (by omega)] | ((first | refine hK _ ?_ | refine hKp _ _ ?_); clear hK hKp K Kp; try clear hanc anc) | ((with_reducible refine And.intro ?_ ?_); (focus (first | trivial | omega | (simp only [Fits]; omega) | assumption | (rw [hanc]; rfl)))) | ((first | refine K_regA hE fun K Kp hK hKp => ?_ | refine K_drwA true mixed hE fun K Kp hK hKp anc hanc => ?_ | refine K_drwA false mixed hE fun K Kp hK hKp anc hanc => ?_); simp only [go_sem, ge_dec]) | ((first | refine onG_split_t (fun hg => ?_) (fun hg => ?_) | refine onG_split_f (fun hg => ?_) (fun hg => ?_)) <;> simp only [go_sem, ge_dec, hg]) | (refine K_condA (fun hc => ?_) (fun hc => ?_) <;> try (exact absurd hc (by decide))))
   refine K_ret (hQ _ ⟨.agg [.i 2, .i i', .rw 3], (by simp [resA, rvA, Try.f12, go_sem]; rfl), (by simp [AV.snapOk, AV.snapOkL, go_sem]), (by simp [AV.snap, AV.snapL, go_sem]), (by first | rfl | simp [AV.clo, AV.cloL, go_sem])⟩).1
end Go.Proofs.Ytlhhahocjfgmdaa

set_option linter.unusedSimpArgs false
set_option linter.unusedVariables false
set_option maxHeartbeats 4000000
set_option maxRecDepth 100000
namespace Go.Proofs.Ytlhhahocjfgmdaa
open Nat (reduceAdd reduceMul reduceEqDiff reduceLT reduceLeDiff reduceSub reduceDiv)
open Int (reduceBNe reduceLE reduceEq)
open Go.Am Go.Proofs Go.Hv Go.Mv
open Classical
attribute [local irreducible] AW CallP CallB
theorem rtype_call : ∀ (N : Nat) (t : Ty) (l : List Mg), t.sz < N → N ≤ 2 ^ 40 → PCall Try.prog 56 [.sl (mgl l), t.av] (tyM l t).av := by
 intro N
 induction N with
 | zero => intro t n d h; omega
 | succ N ih =>
 intro t l hn hN2
 have hsz := t.sz_eq
 have hlf := Ty.len_le t.args
 cases t with | mk k i a =>
 simp only [Ty.args] at hsz hlf
 obtain ⟨i', ht, hb⟩ := tyM_eq l k i a
 rw [ht, Ty.av, Ty.av]
 have hcase : (∃ x, k = 2 ∧ decide (i ≥ 0) = true ∧ decide (i < (l.length : Int)) = true ∧ l[i.toNat]? = some x ∧ i' = x.data) ∨ ((k == 2) = false ∧ i' = i) ∨ (k = 2 ∧ decide (i ≥ 0) = false ∧ i' = i) ∨ (k = 2 ∧ decide (i ≥ 0) = true ∧ decide (i < (l.length : Int)) = false ∧ i' = i) := by
  rcases hb with ⟨x, h1, h2, h3, h4, h5⟩ | ⟨h1, h2⟩
  ·exact .inl ⟨x, h1, by simpa using h2, by simpa using h3, h4, h5⟩
  ·by_cases g1 : k = 2
   ·by_cases g2 : 0 ≤ i
    ·exact .inr (.inr (.inr ⟨g1, by simpa using g2, by simp; omega, h2⟩))
    ·exact .inr (.inr (.inl ⟨g1, by simpa using g2, h2⟩))
   ·exact .inr (.inl ⟨by simp [g1], h2⟩)
 refine PCall.intro Try.func56 rfl isf56 (by simp [Try.f56]) (by simp [AV.cloL, AV.clo]) fun E Q hE hN hQ => K_start ?_
 rcases hcase with ⟨x, g1, g2, g3, g4, g5⟩ | ⟨g1, g5⟩ | ⟨g1, g2, g5⟩ | ⟨g1, g2, g3, g5⟩
 ·try subst g1
  have gi : 0 ≤ i := by simpa using g2
  repeat' (first | apply nx | refine Kq_exit_ne (by decide) ?_ | rw [wrap64 (by omega) (by omega)] | ((first | refine hK _ ?_ | refine hKp _ _ ?_); clear hK hKp K Kp; try clear hanc anc) | ((with_reducible refine And.intro ?_ ?_); (focus (first | trivial | omega | (simp only [Fits]; omega) | assumption | (rw [hanc]; rfl)))) | ((first | refine K_regA hE fun K Kp hK hKp => ?_ | refine K_drwA true mixed hE fun K Kp hK hKp anc hanc => ?_ | refine K_drwA false mixed hE fun K Kp hK hKp anc hanc => ?_); simp only [go_sem, g2, g3, g4, Mg.av, Mg.cs_eq]) | ((first | refine onG_split_t (fun hg => ?_) (fun hg => ?_) | refine onG_split_f (fun hg => ?_) (fun hg => ?_)) <;> simp only [go_sem, g2, g3, g4, Mg.av, Mg.cs_eq, hg]) | (refine K_condA (fun hc => ?_) (fun hc => ?_) <;> try (exact absurd hc (by decide))))
  refine AW_nilc 3145728 2 3 (by simp [go_sem]; rfl) rfl ?_
  refine K_loop (X := Nat) (fun j => j ≤ a.length) (fun j => mkSt [(0, .sl (mgl l)), (3, .ptr 0 0), (4, .ptr 1 0), (5, .ptr 2 0), (6, AV.i j)] [(0, .cells [.i 2, .i i, .sl (Ty.avL a)]), (1, .cells [.i 0, .i 0, .nilsl]), (2, .cells [.i 2, .i i', .rw 3]), (3, .row 3 (Ty.avL (tyML l (a.take j))))] 4) (fun j => a.length - j) 0 (Nat.zero_le _) (fun i => if i = 0 then 0 else if i = 1 then 1048576 else if i = 2 then 3145728 else 32505856) (by refine ent_mk (by simp [go_sem, g5, tyML, Ty.avL]) (by simp [go_sem, g5, tyML, Ty.avL]) (by simp) (by simp [hN])) ?_
  intro j hj
  by_cases hlt : j < a.length
  ·obtain ⟨s, hs⟩ := get?_of hlt
   have hc0 := ih s l (by have := Ty.sz_mem (List.mem_of_getElem? hs); omega) (by omega)
   have e : Ty.avL (tyML l (a.take j)) ++ [(tyM l s).av] = Ty.avL (tyML l (a.take (j + 1))) := by
    rw [Ty.avL_app, List.take_add_one, hs]; simp [tyML_get]
   rw [Ty.av_eq s] at hc0
   have hcl := Ty.av_eq (tyM l s)
   rw [hcl] at hc0 e
   repeat' (first | apply nx | refine Kq_exit_ne (by decide) ?_ | rw [wrap64 (by omega) (by omega)] | ((first | refine hK _ ?_ | refine hKp _ _ ?_); clear hK hKp K Kp; try clear hanc anc) | ((with_reducible refine And.intro ?_ ?_); (focus (first | trivial | omega | (simp only [Fits]; omega) | assumption | (rw [hanc]; rfl)))) | ((first | refine K_regA hE fun K Kp hK hKp => ?_ | refine K_drwA false mixed hE fun K Kp hK hKp anc hanc => ?_ | ((first | apply CallP_mk | apply CallB_mk); (focus (simp only [go_sem] <;> rfl)); (focus (exact hc0)); (focus (first | (simp [go_sem]; done) | (simp [go_sem, CloRow, AV.cells, AV.clo]; done))); (focus (first | exact .inl rfl | (right; simp [go_sem]))))); simp only [go_sem, lt_dec hlt, hs, Ty.av_eq s, e, tyML_len, List.length_take]) | ((first | refine onG_split_t (fun hg => ?_) (fun hg => ?_) | refine onG_split_f (fun hg => ?_) (fun hg => ?_)) <;> simp only [go_sem, lt_dec hlt, hs, Ty.av_eq s, e, tyML_len, List.length_take, hg]) | (refine K_condA (fun hc => ?_) (fun hc => ?_) <;> try (exact absurd hc (by decide))) | (refine K_ret ?_; refine (hQ _ ⟨_, by (try simp only [go_sem, ↓reduceIte, Nat.reduceEqDiff]); rfl, by simp [go_sem], ?_, by first | rfl | assumption⟩).1))
   exact ⟨j + 1, by omega, by omega, fun i => if i = 3 then 15728644 else i, by refine ent_mk (by simp [go_sem]) (by simp [go_sem]) (by simp) (by simp [hN])⟩
  ·obtain rfl : j = a.length := by omega
   repeat' (first | apply nx | refine Kq_exit_ne (by decide) ?_ | rw [wrap64 (by omega) (by omega)] | ((first | refine hK _ ?_ | refine hKp _ _ ?_); clear hK hKp K Kp; try clear hanc anc) | ((with_reducible refine And.intro ?_ ?_); (focus (first | trivial | omega | (simp only [Fits]; omega) | assumption | (rw [hanc]; rfl)))) | ((first | refine K_regA hE fun K Kp hK hKp => ?_ | refine K_drwA true mixed hE fun K Kp hK hKp anc hanc => ?_ | refine K_drwA false mixed hE fun K Kp hK hKp anc hanc => ?_); simp only [go_sem, ge_dec]) | ((first | refine onG_split_t (fun hg => ?_) (fun hg => ?_) | refine onG_split_f (fun hg => ?_) (fun hg => ?_)) <;> simp only [go_sem, ge_dec, hg]) | (refine K_condA (fun hc => ?_) (fun hc => ?_) <;> try (exact absurd hc (by decide))))
   refine K_ret (hQ _ ⟨.agg [.i 2, .i i', .rw 3], (by simp [resA, rvA, Try.f56, go_sem]; rfl), (by simp [AV.snapOk, AV.snapOkL, go_sem]), (by simp [AV.snap, AV.snapL, go_sem]), (by first | rfl | simp [AV.clo, AV.cloL, go_sem])⟩).1
 ·try subst g1
  repeat' (first | apply nx | refine Kq_exit_ne (by decide) ?_ | rw [wrap64 (by omega) (by omega)] | ((first | refine hK _ ?_ | refine hKp _ _ ?_); clear hK hKp K Kp; try clear hanc anc) | ((with_reducible refine And.intro ?_ ?_); (focus (first | trivial | omega | (simp only [Fits]; omega) | assumption | (rw [hanc]; rfl)))) | ((first | refine K_regA hE fun K Kp hK hKp => ?_ | refine K_drwA true mixed hE fun K Kp hK hKp anc hanc => ?_ | refine K_drwA false mixed hE fun K Kp hK hKp anc hanc => ?_); simp only [go_sem, g1]) | ((first | refine onG_split_t (fun hg => ?_) (fun hg => ?_) | refine onG_split_f (fun hg => ?_) (fun hg => ?_)) <;> simp only [go_sem, g1, hg]) | (refine K_condA (fun hc => ?_) (fun hc => ?_) <;> try (exact absurd hc (by decide))))
  refine AW_nilc 3145728 2 3 (by simp [go_sem]; rfl) rfl ?_
  refine K_loop (X := Nat) (fun j => j ≤ a.length) (fun j => mkSt [(0, .sl (mgl l)), (3, .ptr 0 0), (4, .ptr 1 0), (5, .ptr 2 0), (6, AV.i j)] [(0, .cells [.i k, .i i, .sl (Ty.avL a)]), (1, .cells [.i 0, .i 0, .nilsl]), (2, .cells [.i k, .i i', .rw 3]), (3, .row 3 (Ty.avL (tyML l (a.take j))))] 4) (fun j => a.length - j) 0 (Nat.zero_le _) (fun i => if i = 0 then 0 else if i = 1 then 1048576 else if i = 2 then 3145728 else 24117248) (by refine ent_mk (by simp [go_sem, g5, tyML, Ty.avL]) (by simp [go_sem, g5, tyML, Ty.avL]) (by simp) (by simp [hN])) ?_
  intro j hj
  by_cases hlt : j < a.length
  ·obtain ⟨s, hs⟩ := get?_of hlt
   have hc0 := ih s l (by have := Ty.sz_mem (List.mem_of_getElem? hs); omega) (by omega)
   have e : Ty.avL (tyML l (a.take j)) ++ [(tyM l s).av] = Ty.avL (tyML l (a.take (j + 1))) := by
    rw [Ty.avL_app, List.take_add_one, hs]; simp [tyML_get]
   rw [Ty.av_eq s] at hc0
   have hcl := Ty.av_eq (tyM l s)
   rw [hcl] at hc0 e
   repeat' (first | apply nx | refine Kq_exit_ne (by decide) ?_ | rw [wrap64 (by omega) (by omega)] | ((first | refine hK _ ?_ | refine hKp _ _ ?_); clear hK hKp K Kp; try clear hanc anc) | ((with_reducible refine And.intro ?_ ?_); (focus (first | trivial | omega | (simp only [Fits]; omega) | assumption | (rw [hanc]; rfl)))) | ((first | refine K_regA hE fun K Kp hK hKp => ?_ | refine K_drwA false mixed hE fun K Kp hK hKp anc hanc => ?_ | ((first | apply CallP_mk | apply CallB_mk); (focus (simp only [go_sem] <;> rfl)); (focus (exact hc0)); (focus (first | (simp [go_sem]; done) | (simp [go_sem, CloRow, AV.cells, AV.clo]; done))); (focus (first | exact .inl rfl | (right; simp [go_sem]))))); simp only [go_sem, lt_dec hlt, hs, Ty.av_eq s, e, tyML_len, List.length_take]) | ((first | refine onG_split_t (fun hg => ?_) (fun hg => ?_) | refine onG_split_f (fun hg => ?_) (fun hg => ?_)) <;> simp only [go_sem, lt_dec hlt, hs, Ty.av_eq s, e, tyML_len, List.length_take, hg]) | (refine K_condA (fun hc => ?_) (fun hc => ?_) <;> try (exact absurd hc (by decide))) | (refine K_ret ?_; refine (hQ _ ⟨_, by (try simp only [go_sem, ↓reduceIte, Nat.reduceEqDiff]); rfl, by simp [go_sem], ?_, by first | rfl | assumption⟩).1))
   exact ⟨j + 1, by omega, by omega, fun i => if i = 3 then 15728644 else i, by refine ent_mk (by simp [go_sem]) (by simp [go_sem]) (by simp) (by simp [hN])⟩
  ·obtain rfl : j = a.length := by omega
   repeat' (first | apply nx | refine Kq_exit_ne (by decide) ?_ | rw [wrap64 (by omega) (by omega)] | ((first | refine hK _ ?_ | refine hKp _ _ ?_); clear hK hKp K Kp; try clear hanc anc) | ((with_reducible refine And.intro ?_ ?_); (focus (first | trivial | omega | (simp only [Fits]; omega) | assumption | (rw [hanc]; rfl)))) | ((first | refine K_regA hE fun K Kp hK hKp => ?_ | refine K_drwA true mixed hE fun K Kp hK hKp anc hanc => ?_ | refine K_drwA false mixed hE fun K Kp hK hKp anc hanc => ?_); simp only [go_sem, ge_dec]) | ((first | refine onG_split_t (fun hg => ?_) (fun hg => ?_) | refine onG_split_f (fun hg => ?_) (fun hg => ?_)) <;> simp only [go_sem, ge_dec, hg]) | (refine K_condA (fun hc => ?_) (fun hc => ?_) <;> try (exact absurd hc (by decide))))
   refine K_ret (hQ _ ⟨.agg [.i k, .i i', .rw 3], (by simp [resA, rvA, Try.f56, go_sem]; rfl), (by simp [AV.snapOk, AV.snapOkL, go_sem]), (by simp [AV.snap, AV.snapL, go_sem]), (by first | rfl | simp [AV.clo, AV.cloL, go_sem])⟩).1
 ·try subst g1
  repeat' (first | apply nx | refine Kq_exit_ne (by decide) ?_ | rw [wrap64 (by omega) (by omega)] | ((first | refine hK _ ?_ | refine hKp _ _ ?_); clear hK hKp K Kp; try clear hanc anc) | ((with_reducible refine And.intro ?_ ?_); (focus (first | trivial | omega | (simp only [Fits]; omega) | assumption | (rw [hanc]; rfl)))) | ((first | refine K_regA hE fun K Kp hK hKp => ?_ | refine K_drwA true mixed hE fun K Kp hK hKp anc hanc => ?_ | refine K_drwA false mixed hE fun K Kp hK hKp anc hanc => ?_); simp only [go_sem, g2]) | ((first | refine onG_split_t (fun hg => ?_) (fun hg => ?_) | refine onG_split_f (fun hg => ?_) (fun hg => ?_)) <;> simp only [go_sem, g2, hg]) | (refine K_condA (fun hc => ?_) (fun hc => ?_) <;> try (exact absurd hc (by decide))))
  refine AW_nilc 3145728 2 3 (by simp [go_sem]; rfl) rfl ?_
  refine K_loop (X := Nat) (fun j => j ≤ a.length) (fun j => mkSt [(0, .sl (mgl l)), (3, .ptr 0 0), (4, .ptr 1 0), (5, .ptr 2 0), (6, AV.i j)] [(0, .cells [.i 2, .i i, .sl (Ty.avL a)]), (1, .cells [.i 0, .i 0, .nilsl]), (2, .cells [.i 2, .i i', .rw 3]), (3, .row 3 (Ty.avL (tyML l (a.take j))))] 4) (fun j => a.length - j) 0 (Nat.zero_le _) (fun i => if i = 0 then 0 else if i = 1 then 1048576 else if i = 2 then 3145728 else 24117248) (by refine ent_mk (by simp [go_sem, g5, tyML, Ty.avL]) (by simp [go_sem, g5, tyML, Ty.avL]) (by simp) (by simp [hN])) ?_
  intro j hj
  by_cases hlt : j < a.length
  ·obtain ⟨s, hs⟩ := get?_of hlt
   have hc0 := ih s l (by have := Ty.sz_mem (List.mem_of_getElem? hs); omega) (by omega)
   have e : Ty.avL (tyML l (a.take j)) ++ [(tyM l s).av] = Ty.avL (tyML l (a.take (j + 1))) := by
    rw [Ty.avL_app, List.take_add_one, hs]; simp [tyML_get]
   rw [Ty.av_eq s] at hc0
   have hcl := Ty.av_eq (tyM l s)
   rw [hcl] at hc0 e
   repeat' (first | apply nx | refine Kq_exit_ne (by decide) ?_ | rw [wrap64 (by omega) (by omega)] | ((first | refine hK _ ?_ | refine hKp _ _ ?_); clear hK hKp K Kp; try clear hanc anc) | ((with_reducible refine And.intro ?_ ?_); (focus (first | trivial | omega | (simp only [Fits]; omega) | assumption | (rw [hanc]; rfl)))) | ((first | refine K_regA hE fun K Kp hK hKp => ?_ | refine K_drwA false mixed hE fun K Kp hK hKp anc hanc => ?_ | ((first | apply CallP_mk | apply CallB_mk); (focus (simp only [go_sem] <;> rfl)); (focus (exact hc0)); (focus (first | (simp [go_sem]; done) | (simp [go_sem, CloRow, AV.cells, AV.clo]; done))); (focus (first | exact .inl rfl | (right; simp [go_sem]))))); simp only [go_sem, lt_dec hlt, hs, Ty.av_eq s, e, tyML_len, List.length_take]) | ((first | refine onG_split_t (fun hg => ?_) (fun hg => ?_) | refine onG_split_f (fun hg => ?_) (fun hg => ?_)) <;> simp only [go_sem, lt_dec hlt, hs, Ty.av_eq s, e, tyML_len, List.length_take, hg]) | (refine K_condA (fun hc => ?_) (fun hc => ?_) <;> try (exact absurd hc (by decide))) | (refine K_ret ?_; refine (hQ _ ⟨_, by (try simp only [go_sem, ↓reduceIte, Nat.reduceEqDiff]); rfl, by simp [go_sem], ?_, by first | rfl | assumption⟩).1))
   exact ⟨j + 1, by omega, by omega, fun i => if i = 3 then 15728644 else i, by refine ent_mk (by simp [go_sem]) (by simp [go_sem]) (by simp) (by simp [hN])⟩
  ·obtain rfl : j = a.length := by omega
   repeat' (first | apply nx | refine Kq_exit_ne (by decide) ?_ | rw [wrap64 (by omega) (by omega)] | ((first | refine hK _ ?_ | refine hKp _ _ ?_); clear hK hKp K Kp; try clear hanc anc) | ((with_reducible refine And.intro ?_ ?_); (focus (first | trivial | omega | (simp only [Fits]; omega) | assumption | (rw [hanc]; rfl)))) | ((first | refine K_regA hE fun K Kp hK hKp => ?_ | refine K_drwA true mixed hE fun K Kp hK hKp anc hanc => ?_ | refine K_drwA false mixed hE fun K Kp hK hKp anc hanc => ?_); simp only [go_sem, ge_dec]) | ((first | refine onG_split_t (fun hg => ?_) (fun hg => ?_) | refine onG_split_f (fun hg => ?_) (fun hg => ?_)) <;> simp only [go_sem, ge_dec, hg]) | (refine K_condA (fun hc => ?_) (fun hc => ?_) <;> try (exact absurd hc (by decide))))
   refine K_ret (hQ _ ⟨.agg [.i 2, .i i', .rw 3], (by simp [resA, rvA, Try.f56, go_sem]; rfl), (by simp [AV.snapOk, AV.snapOkL, go_sem]), (by simp [AV.snap, AV.snapL, go_sem]), (by first | rfl | simp [AV.clo, AV.cloL, go_sem])⟩).1
 ·try subst g1
  repeat' (first | apply nx | refine Kq_exit_ne (by decide) ?_ | rw [wrap64 (by omega) (by omega)] | ((first | refine hK _ ?_ | refine hKp _ _ ?_); clear hK hKp K Kp; try clear hanc anc) | ((with_reducible refine And.intro ?_ ?_); (focus (first | trivial | omega | (simp only [Fits]; omega) | assumption | (rw [hanc]; rfl)))) | ((first | refine K_regA hE fun K Kp hK hKp => ?_ | refine K_drwA true mixed hE fun K Kp hK hKp anc hanc => ?_ | refine K_drwA false mixed hE fun K Kp hK hKp anc hanc => ?_); simp only [go_sem, g2, g3]) | ((first | refine onG_split_t (fun hg => ?_) (fun hg => ?_) | refine onG_split_f (fun hg => ?_) (fun hg => ?_)) <;> simp only [go_sem, g2, g3, hg]) | (refine K_condA (fun hc => ?_) (fun hc => ?_) <;> try (exact absurd hc (by decide))))
  refine AW_nilc 3145728 2 3 (by simp [go_sem]; rfl) rfl ?_
  refine K_loop (X := Nat) (fun j => j ≤ a.length) (fun j => mkSt [(0, .sl (mgl l)), (3, .ptr 0 0), (4, .ptr 1 0), (5, .ptr 2 0), (6, AV.i j)] [(0, .cells [.i 2, .i i, .sl (Ty.avL a)]), (1, .cells [.i 0, .i 0, .nilsl]), (2, .cells [.i 2, .i i', .rw 3]), (3, .row 3 (Ty.avL (tyML l (a.take j))))] 4) (fun j => a.length - j) 0 (Nat.zero_le _) (fun i => if i = 0 then 0 else if i = 1 then 1048576 else if i = 2 then 3145728 else 24117248) (by refine ent_mk (by simp [go_sem, g5, tyML, Ty.avL]) (by simp [go_sem, g5, tyML, Ty.avL]) (by simp) (by simp [hN])) ?_
  intro j hj
  by_cases hlt : j < a.length
  ·obtain ⟨s, hs⟩ := get?_of hlt
   have hc0 := ih s l (by have := Ty.sz_mem (List.mem_of_getElem? hs); omega) (by omega)
   have e : Ty.avL (tyML l (a.take j)) ++ [(tyM l s).av] = Ty.avL (tyML l (a.take (j + 1))) := by
    rw [Ty.avL_app, List.take_add_one, hs]; simp [tyML_get]
   rw [Ty.av_eq s] at hc0
   have hcl := Ty.av_eq (tyM l s)
   rw [hcl] at hc0 e
   repeat' (first | apply nx | refine Kq_exit_ne (by decide) ?_ | rw [wrap64 (by omega) (by omega)] | ((first | refine hK _ ?_ | refine hKp _ _ ?_); clear hK hKp K Kp; try clear hanc anc) | ((with_reducible refine And.intro ?_ ?_); (focus (first | trivial | omega | (simp only [Fits]; omega) | assumption | (rw [hanc]; rfl)))) | ((first | refine K_regA hE fun K Kp hK hKp => ?_ | refine K_drwA false mixed hE fun K Kp hK hKp anc hanc => ?_ | ((first | apply CallP_mk | apply CallB_mk); (focus (simp only [go_sem] <;> rfl)); (focus (exact hc0)); (focus (first | (simp [go_sem]; done) | (simp [go_sem, CloRow, AV.cells, AV.clo]; done))); (focus (first | exact .inl rfl | (right; simp [go_sem]))))); simp only [go_sem, lt_dec hlt, hs, Ty.av_eq s, e, tyML_len, List.length_take]) | ((first | refine onG_split_t (fun hg => ?_) (fun hg => ?_) | refine onG_split_f (fun hg => ?_) (fun hg => ?_)) <;> simp only [go_sem, lt_dec hlt, hs, Ty.av_eq s, e, tyML_len, List.length_take, hg]) | (refine K_condA (fun hc => ?_) (fun hc => ?_) <;> try (exact absurd hc (by decide))) | (refine K_ret ?_; refine (hQ _ ⟨_, by (try simp only [go_sem, ↓reduceIte, Nat.reduceEqDiff]); rfl, by simp [go_sem], ?_, by first | rfl | assumption⟩).1))
   exact ⟨j + 1, by omega, by omega, fun i => if i = 3 then 15728644 else i, by refine ent_mk (by simp [go_sem]) (by simp [go_sem]) (by simp) (by simp [hN])⟩
  ·obtain rfl : j = a.length := by omega
   repeat' (first | apply nx | refine Kq_exit_ne (by decide) ?_ | rw [wrap64 (by omega) (by omega)] | ((first | refine hK _ ?_ | refine hKp _ _ ?_); clear hK hKp K Kp; try clear hanc anc) | ((with_reducible refine And.intro ?_ ?_); (focus (first | trivial | omega | (simp only [Fits]; omega) | assumption | (rw [hanc]; rfl)))) | ((first | refine K_regA hE fun K Kp hK hKp => ?_ | refine K_drwA true mixed hE fun K Kp hK hKp anc hanc => ?_ | refine K_drwA false mixed hE fun K Kp hK hKp anc hanc => ?_); simp only [go_sem, ge_dec]) | ((first | refine onG_split_t (fun hg => ?_) (fun hg => ?_) | refine onG_split_f (fun hg => ?_) (fun hg => ?_)) <;> simp only [go_sem, ge_dec, hg]) | (refine K_condA (fun hc => ?_) (fun hc => ?_) <;> try (exact absurd hc (by decide))))
   refine K_ret (hQ _ ⟨.agg [.i 2, .i i', .rw 3], (by simp [resA, rvA, Try.f56, go_sem]; rfl), (by simp [AV.snapOk, AV.snapOkL, go_sem]), (by simp [AV.snap, AV.snapL, go_sem]), (by first | rfl | simp [AV.clo, AV.cloL, go_sem])⟩).1
end Go.Proofs.Ytlhhahocjfgmdaa
