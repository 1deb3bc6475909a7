/- A part of the proof: an abstract machine for the walks, and what the walked functions compute. -/
import Derived.Test.YtdgmjbgjahmoaaaProg
import Derived.KernelRfl
import Derived.Test.YtdgmjbgjahmoaaaMe
import Derived.Test.YtdgmjbgjahmoaaaHv
import Derived.Test.YtdgmjbgjahmoaaaMk
set_option linter.unusedVariables false
set_option linter.unusedSimpArgs false
set_option maxRecDepth 100000
namespace Go.Proofs.Ytdgmjbgjahmoaaa
open Go.Am
theorem ti0 : ti Try.prog 0 = some ⟨TK.other, 1, 0, none⟩ := by kernel_rfl
theorem ti1 : ti Try.prog 1 = some ⟨TK.func, 1, 8, some [AV.nilfn]⟩ := by kernel_rfl
theorem ti2 : ti Try.prog 2 = some ⟨TK.int IntKind.i64, 1, 8, some [AV.int IntKind.i64 (0)]⟩ := by kernel_rfl
theorem ti3 : ti Try.prog 3 = some ⟨TK.int IntKind.i64, 1, 8, some [AV.int IntKind.i64 (0)]⟩ := by kernel_rfl
theorem ti4 : ti Try.prog 4 = some ⟨TK.bool, 1, 1, some [AV.bool false]⟩ := by kernel_rfl
theorem ti5 : ti Try.prog 5 = some ⟨TK.int IntKind.u8, 1, 1, some [AV.int IntKind.u8 (0)]⟩ := by kernel_rfl
theorem ti6 : ti Try.prog 6 = some ⟨TK.int IntKind.u8, 1, 1, some [AV.int IntKind.u8 (0)]⟩ := by kernel_rfl
theorem ti7 : ti Try.prog 7 = some ⟨TK.struct [(2, 0), (3, 1), (4, 2), (6, 3)], 4, 24, some [AV.int IntKind.i64 (0), AV.int IntKind.i64 (0), AV.bool false, AV.int IntKind.u8 (0)]⟩ := by kernel_rfl
theorem ti8 : ti Try.prog 8 = some ⟨TK.struct [(2, 0), (3, 1), (4, 2), (6, 3)], 4, 24, some [AV.int IntKind.i64 (0), AV.int IntKind.i64 (0), AV.bool false, AV.int IntKind.u8 (0)]⟩ := by kernel_rfl
theorem ti9 : ti Try.prog 9 = some ⟨TK.str, 1, 16, some [AV.str ⟨#[]⟩]⟩ := by kernel_rfl
theorem ti10 : ti Try.prog 10 = some ⟨TK.str, 1, 16, some [AV.str ⟨#[]⟩]⟩ := by kernel_rfl
theorem ti11 : ti Try.prog 11 = some ⟨TK.str, 1, 16, some [AV.str ⟨#[]⟩]⟩ := by kernel_rfl
theorem ti12 : ti Try.prog 12 = some ⟨TK.int IntKind.u64, 1, 8, some [AV.int IntKind.u64 (0)]⟩ := by kernel_rfl
theorem ti13 : ti Try.prog 13 = some ⟨TK.struct [(9, 0), (12, 1)], 2, 24, some [AV.str ⟨#[]⟩, AV.int IntKind.u64 (0)]⟩ := by kernel_rfl
theorem ti14 : ti Try.prog 14 = some ⟨TK.struct [(9, 0), (12, 1)], 2, 24, some [AV.str ⟨#[]⟩, AV.int IntKind.u64 (0)]⟩ := by kernel_rfl
theorem ti15 : ti Try.prog 15 = some ⟨TK.ptr, 1, 8, some [AV.nilp]⟩ := by kernel_rfl
theorem ti16 : ti Try.prog 16 = some ⟨TK.ptr, 1, 8, some [AV.nilp]⟩ := by kernel_rfl
theorem ti17 : ti Try.prog 17 = some ⟨TK.ptr, 1, 8, some [AV.nilp]⟩ := by kernel_rfl
theorem ti18 : ti Try.prog 18 = some ⟨TK.struct [(17, 0)], 1, 8, some [AV.nilp]⟩ := by kernel_rfl
theorem ti19 : ti Try.prog 19 = some ⟨TK.struct [(17, 0)], 1, 8, some [AV.nilp]⟩ := by kernel_rfl
theorem ti20 : ti Try.prog 20 = some ⟨TK.iface, 1, 16, some [AV.nilif]⟩ := by kernel_rfl
theorem ti21 : ti Try.prog 21 = some ⟨TK.int IntKind.i32, 1, 4, some [AV.int IntKind.i32 (0)]⟩ := by kernel_rfl
theorem ti22 : ti Try.prog 22 = some ⟨TK.slice 37, 1, 24, some [AV.nilsl]⟩ := by kernel_rfl
theorem ti23 : ti Try.prog 23 = some ⟨TK.slice 4, 1, 24, some [AV.nilsl]⟩ := by kernel_rfl
theorem ti24 : ti Try.prog 24 = some ⟨TK.struct [(22, 0), (23, 1)], 2, 48, some [AV.nilsl, AV.nilsl]⟩ := by kernel_rfl
theorem ti25 : ti Try.prog 25 = some ⟨TK.struct [(22, 0), (23, 1)], 2, 48, some [AV.nilsl, AV.nilsl]⟩ := by kernel_rfl
theorem ti26 : ti Try.prog 26 = some ⟨TK.slice 29, 1, 24, some [AV.nilsl]⟩ := by kernel_rfl
theorem ti27 : ti Try.prog 27 = some ⟨TK.slice 3, 1, 24, some [AV.nilsl]⟩ := by kernel_rfl
theorem ti28 : ti Try.prog 28 = some ⟨TK.struct [(3, 0), (3, 1), (3, 2), (3, 3), (26, 4), (4, 5), (27, 6), (27, 7)], 8, 112, some [AV.int IntKind.i64 (0), AV.int IntKind.i64 (0), AV.int IntKind.i64 (0), AV.int IntKind.i64 (0), AV.nilsl, AV.bool false, AV.nilsl, AV.nilsl]⟩ := by kernel_rfl
theorem ti29 : ti Try.prog 29 = some ⟨TK.struct [(3, 0), (3, 1), (3, 2), (3, 3), (26, 4), (4, 5), (27, 6), (27, 7)], 8, 112, some [AV.int IntKind.i64 (0), AV.int IntKind.i64 (0), AV.int IntKind.i64 (0), AV.int IntKind.i64 (0), AV.nilsl, AV.bool false, AV.nilsl, AV.nilsl]⟩ := by kernel_rfl
theorem ti30 : ti Try.prog 30 = some ⟨TK.func, 1, 8, some [AV.nilfn]⟩ := by kernel_rfl
theorem ti31 : ti Try.prog 31 = some ⟨TK.func, 1, 8, some [AV.nilfn]⟩ := by kernel_rfl
theorem ti32 : ti Try.prog 32 = some ⟨TK.int IntKind.i64, 1, 8, some [AV.int IntKind.i64 (0)]⟩ := by kernel_rfl
theorem ti33 : ti Try.prog 33 = some ⟨TK.other, 1, 0, none⟩ := by kernel_rfl
theorem ti34 : ti Try.prog 34 = some ⟨TK.func, 1, 8, some [AV.nilfn]⟩ := by kernel_rfl
theorem ti35 : ti Try.prog 35 = some ⟨TK.func, 1, 8, some [AV.nilfn]⟩ := by kernel_rfl
theorem ti36 : ti Try.prog 36 = some ⟨TK.struct [(4, 0), (3, 1), (29, 2)], 10, 128, some [AV.bool false, AV.int IntKind.i64 (0), AV.int IntKind.i64 (0), AV.int IntKind.i64 (0), AV.int IntKind.i64 (0), AV.int IntKind.i64 (0), AV.nilsl, AV.bool false, AV.nilsl, AV.nilsl]⟩ := by kernel_rfl
theorem ti37 : ti Try.prog 37 = some ⟨TK.struct [(4, 0), (3, 1), (29, 2)], 10, 128, some [AV.bool false, AV.int IntKind.i64 (0), AV.int IntKind.i64 (0), AV.int IntKind.i64 (0), AV.int IntKind.i64 (0), AV.int IntKind.i64 (0), AV.nilsl, AV.bool false, AV.nilsl, AV.nilsl]⟩ := by kernel_rfl
theorem ti38 : ti Try.prog 38 = some ⟨TK.func, 1, 8, some [AV.nilfn]⟩ := by kernel_rfl
theorem ti39 : ti Try.prog 39 = some ⟨TK.func, 1, 8, some [AV.nilfn]⟩ := by kernel_rfl
theorem ti40 : ti Try.prog 40 = some ⟨TK.other, 1, 0, none⟩ := by kernel_rfl
theorem ti41 : ti Try.prog 41 = some ⟨TK.func, 1, 8, some [AV.nilfn]⟩ := by kernel_rfl
theorem ti42 : ti Try.prog 42 = some ⟨TK.func, 1, 8, some [AV.nilfn]⟩ := by kernel_rfl
theorem ti43 : ti Try.prog 43 = some ⟨TK.func, 1, 8, some [AV.nilfn]⟩ := by kernel_rfl
theorem ti44 : ti Try.prog 44 = some ⟨TK.slice 49, 1, 24, some [AV.nilsl]⟩ := by kernel_rfl
theorem ti45 : ti Try.prog 45 = some ⟨TK.other, 1, 0, none⟩ := by kernel_rfl
theorem ti46 : ti Try.prog 46 = some ⟨TK.func, 1, 8, some [AV.nilfn]⟩ := by kernel_rfl
theorem ti47 : ti Try.prog 47 = some ⟨TK.slice 116, 1, 24, some [AV.nilsl]⟩ := by kernel_rfl
theorem ti48 : ti Try.prog 48 = some ⟨TK.struct [(9, 0), (3, 1), (3, 2), (47, 3), (3, 4)], 5, 64, some [AV.str ⟨#[]⟩, AV.int IntKind.i64 (0), AV.int IntKind.i64 (0), AV.nilsl, AV.int IntKind.i64 (0)]⟩ := by kernel_rfl
theorem ti49 : ti Try.prog 49 = some ⟨TK.struct [(9, 0), (3, 1), (3, 2), (47, 3), (3, 4)], 5, 64, some [AV.str ⟨#[]⟩, AV.int IntKind.i64 (0), AV.int IntKind.i64 (0), AV.nilsl, AV.int IntKind.i64 (0)]⟩ := by kernel_rfl
theorem ti50 : ti Try.prog 50 = some ⟨TK.func, 1, 8, some [AV.nilfn]⟩ := by kernel_rfl
theorem ti51 : ti Try.prog 51 = some ⟨TK.func, 1, 8, some [AV.nilfn]⟩ := by kernel_rfl
theorem ti52 : ti Try.prog 52 = some ⟨TK.func, 1, 8, some [AV.nilfn]⟩ := by kernel_rfl
theorem ti53 : ti Try.prog 53 = some ⟨TK.func, 1, 8, some [AV.nilfn]⟩ := by kernel_rfl
theorem ti54 : ti Try.prog 54 = some ⟨TK.func, 1, 8, some [AV.nilfn]⟩ := by kernel_rfl
theorem ti55 : ti Try.prog 55 = some ⟨TK.func, 1, 8, some [AV.nilfn]⟩ := by kernel_rfl
theorem ti56 : ti Try.prog 56 = some ⟨TK.func, 1, 8, some [AV.nilfn]⟩ := by kernel_rfl
theorem ti57 : ti Try.prog 57 = some ⟨TK.func, 1, 8, some [AV.nilfn]⟩ := by kernel_rfl
theorem ti58 : ti Try.prog 58 = some ⟨TK.other, 1, 0, none⟩ := by kernel_rfl
theorem ti59 : ti Try.prog 59 = some ⟨TK.func, 1, 8, some [AV.nilfn]⟩ := by kernel_rfl
theorem ti60 : ti Try.prog 60 = some ⟨TK.func, 1, 8, some [AV.nilfn]⟩ := by kernel_rfl
theorem ti61 : ti Try.prog 61 = some ⟨TK.func, 1, 8, some [AV.nilfn]⟩ := by kernel_rfl
theorem ti62 : ti Try.prog 62 = some ⟨TK.func, 1, 8, some [AV.nilfn]⟩ := by kernel_rfl
theorem ti63 : ti Try.prog 63 = some ⟨TK.func, 1, 8, some [AV.nilfn]⟩ := by kernel_rfl
theorem ti64 : ti Try.prog 64 = some ⟨TK.func, 1, 8, some [AV.nilfn]⟩ := by kernel_rfl
theorem ti65 : ti Try.prog 65 = some ⟨TK.func, 1, 8, some [AV.nilfn]⟩ := by kernel_rfl
theorem ti66 : ti Try.prog 66 = some ⟨TK.func, 1, 8, some [AV.nilfn]⟩ := by kernel_rfl
theorem ti67 : ti Try.prog 67 = some ⟨TK.func, 1, 8, some [AV.nilfn]⟩ := by kernel_rfl
theorem ti68 : ti Try.prog 68 = some ⟨TK.func, 1, 8, some [AV.nilfn]⟩ := by kernel_rfl
theorem ti69 : ti Try.prog 69 = some ⟨TK.func, 1, 8, some [AV.nilfn]⟩ := by kernel_rfl
theorem ti70 : ti Try.prog 70 = some ⟨TK.func, 1, 8, some [AV.nilfn]⟩ := by kernel_rfl
theorem ti71 : ti Try.prog 71 = some ⟨TK.func, 1, 8, some [AV.nilfn]⟩ := by kernel_rfl
theorem ti72 : ti Try.prog 72 = some ⟨TK.func, 1, 8, some [AV.nilfn]⟩ := by kernel_rfl
theorem ti73 : ti Try.prog 73 = some ⟨TK.map 3 4, 1, 8, some [AV.nilmap]⟩ := by kernel_rfl
theorem ti74 : ti Try.prog 74 = some ⟨TK.struct [(73, 0), (73, 1), (27, 2)], 3, 40, some [AV.nilmap, AV.nilmap, AV.nilsl]⟩ := by kernel_rfl
theorem ti75 : ti Try.prog 75 = some ⟨TK.struct [(73, 0), (73, 1), (27, 2)], 3, 40, some [AV.nilmap, AV.nilmap, AV.nilsl]⟩ := by kernel_rfl
theorem ti76 : ti Try.prog 76 = some ⟨TK.other, 1, 0, none⟩ := by kernel_rfl
theorem ti77 : ti Try.prog 77 = some ⟨TK.func, 1, 8, some [AV.nilfn]⟩ := by kernel_rfl
theorem ti78 : ti Try.prog 78 = some ⟨TK.func, 1, 8, some [AV.nilfn]⟩ := by kernel_rfl
theorem ti79 : ti Try.prog 79 = some ⟨TK.func, 1, 8, some [AV.nilfn]⟩ := by kernel_rfl
theorem ti80 : ti Try.prog 80 = some ⟨TK.func, 1, 8, some [AV.nilfn]⟩ := by kernel_rfl
theorem ti81 : ti Try.prog 81 = some ⟨TK.struct [(25, 0), (23, 2), (23, 3), (3, 4), (3, 5), (4, 6)], 7, 120, some [AV.nilsl, AV.nilsl, AV.nilsl, AV.nilsl, AV.int IntKind.i64 (0), AV.int IntKind.i64 (0), AV.bool false]⟩ := by kernel_rfl
theorem ti82 : ti Try.prog 82 = some ⟨TK.struct [(25, 0), (23, 2), (23, 3), (3, 4), (3, 5), (4, 6)], 7, 120, some [AV.nilsl, AV.nilsl, AV.nilsl, AV.nilsl, AV.int IntKind.i64 (0), AV.int IntKind.i64 (0), AV.bool false]⟩ := by kernel_rfl
theorem ti83 : ti Try.prog 83 = some ⟨TK.ptr, 1, 8, some [AV.nilp]⟩ := by kernel_rfl
theorem ti84 : ti Try.prog 84 = some ⟨TK.func, 1, 8, some [AV.nilfn]⟩ := by kernel_rfl
theorem ti85 : ti Try.prog 85 = some ⟨TK.func, 1, 8, some [AV.nilfn]⟩ := by kernel_rfl
theorem ti86 : ti Try.prog 86 = some ⟨TK.ptr, 1, 8, some [AV.nilp]⟩ := by kernel_rfl
theorem ti87 : ti Try.prog 87 = some ⟨TK.struct [(44, 0), (25, 1), (27, 3), (3, 4), (4, 5)], 6, 112, some [AV.nilsl, AV.nilsl, AV.nilsl, AV.nilsl, AV.int IntKind.i64 (0), AV.bool false]⟩ := by kernel_rfl
theorem ti88 : ti Try.prog 88 = some ⟨TK.struct [(44, 0), (25, 1), (27, 3), (3, 4), (4, 5)], 6, 112, some [AV.nilsl, AV.nilsl, AV.nilsl, AV.nilsl, AV.int IntKind.i64 (0), AV.bool false]⟩ := by kernel_rfl
theorem ti89 : ti Try.prog 89 = some ⟨TK.func, 1, 8, some [AV.nilfn]⟩ := by kernel_rfl
theorem ti90 : ti Try.prog 90 = some ⟨TK.func, 1, 8, some [AV.nilfn]⟩ := by kernel_rfl
theorem ti91 : ti Try.prog 91 = some ⟨TK.func, 1, 8, some [AV.nilfn]⟩ := by kernel_rfl
theorem ti92 : ti Try.prog 92 = some ⟨TK.struct [], 0, 0, some []⟩ := by kernel_rfl
theorem ti93 : ti Try.prog 93 = some ⟨TK.struct [], 0, 0, some []⟩ := by kernel_rfl
theorem ti94 : ti Try.prog 94 = some ⟨TK.other, 1, 0, none⟩ := by kernel_rfl
theorem ti95 : ti Try.prog 95 = some ⟨TK.func, 1, 8, some [AV.nilfn]⟩ := by kernel_rfl
theorem ti96 : ti Try.prog 96 = some ⟨TK.func, 1, 8, some [AV.nilfn]⟩ := by kernel_rfl
theorem ti97 : ti Try.prog 97 = some ⟨TK.func, 1, 8, some [AV.nilfn]⟩ := by kernel_rfl
theorem ti98 : ti Try.prog 98 = some ⟨TK.func, 1, 8, some [AV.nilfn]⟩ := by kernel_rfl
theorem ti99 : ti Try.prog 99 = some ⟨TK.struct [(17, 0), (17, 1), (17, 2), (9, 3)], 4, 40, some [AV.nilp, AV.nilp, AV.nilp, AV.str ⟨#[]⟩]⟩ := by kernel_rfl
theorem ti100 : ti Try.prog 100 = some ⟨TK.struct [(17, 0), (17, 1), (17, 2), (9, 3)], 4, 40, some [AV.nilp, AV.nilp, AV.nilp, AV.str ⟨#[]⟩]⟩ := by kernel_rfl
theorem ti101 : ti Try.prog 101 = some ⟨TK.array 0 16, 0, 0, some []⟩ := by kernel_rfl
theorem ti102 : ti Try.prog 102 = some ⟨TK.struct [(101, 0)], 0, 0, some []⟩ := by kernel_rfl
theorem ti103 : ti Try.prog 103 = some ⟨TK.struct [(101, 0)], 0, 0, some []⟩ := by kernel_rfl
theorem ti104 : ti Try.prog 104 = some ⟨TK.func, 1, 8, some [AV.nilfn]⟩ := by kernel_rfl
theorem ti105 : ti Try.prog 105 = some ⟨TK.int IntKind.u32, 1, 4, some [AV.int IntKind.u32 (0)]⟩ := by kernel_rfl
theorem ti106 : ti Try.prog 106 = some ⟨TK.int IntKind.u8, 1, 1, some [AV.int IntKind.u8 (0)]⟩ := by kernel_rfl
theorem ti107 : ti Try.prog 107 = some ⟨TK.int IntKind.u8, 1, 1, some [AV.int IntKind.u8 (0)]⟩ := by kernel_rfl
theorem ti108 : ti Try.prog 108 = some ⟨TK.func, 1, 8, some [AV.nilfn]⟩ := by kernel_rfl
theorem ti109 : ti Try.prog 109 = some ⟨TK.ptr, 1, 8, some [AV.nilp]⟩ := by kernel_rfl
theorem ti110 : ti Try.prog 110 = some ⟨TK.int IntKind.i32, 1, 4, some [AV.int IntKind.i32 (0)]⟩ := by kernel_rfl
theorem ti111 : ti Try.prog 111 = some ⟨TK.int IntKind.i32, 1, 4, some [AV.int IntKind.i32 (0)]⟩ := by kernel_rfl
theorem ti112 : ti Try.prog 112 = some ⟨TK.struct [(12, 0), (12, 1), (105, 2), (106, 3), (5, 4), (5, 5), (107, 6), (108, 7), (109, 8), (110, 9), (111, 10)], 11, 48, some [AV.int IntKind.u64 (0), AV.int IntKind.u64 (0), AV.int IntKind.u32 (0), AV.int IntKind.u8 (0), AV.int IntKind.u8 (0), AV.int IntKind.u8 (0), AV.int IntKind.u8 (0), AV.nilfn, AV.nilp, AV.int IntKind.i32 (0), AV.int IntKind.i32 (0)]⟩ := by kernel_rfl
theorem ti113 : ti Try.prog 113 = some ⟨TK.struct [(12, 0), (12, 1), (105, 2), (106, 3), (5, 4), (5, 5), (107, 6), (108, 7), (109, 8), (110, 9), (111, 10)], 11, 48, some [AV.int IntKind.u64 (0), AV.int IntKind.u64 (0), AV.int IntKind.u32 (0), AV.int IntKind.u8 (0), AV.int IntKind.u8 (0), AV.int IntKind.u8 (0), AV.int IntKind.u8 (0), AV.nilfn, AV.nilp, AV.int IntKind.i32 (0), AV.int IntKind.i32 (0)]⟩ := by kernel_rfl
theorem ti114 : ti Try.prog 114 = some ⟨TK.slice 119, 1, 24, some [AV.nilsl]⟩ := by kernel_rfl
theorem ti115 : ti Try.prog 115 = some ⟨TK.struct [(9, 0), (114, 1)], 2, 40, some [AV.str ⟨#[]⟩, AV.nilsl]⟩ := by kernel_rfl
theorem ti116 : ti Try.prog 116 = some ⟨TK.struct [(9, 0), (114, 1)], 2, 40, some [AV.str ⟨#[]⟩, AV.nilsl]⟩ := by kernel_rfl
theorem ti117 : ti Try.prog 117 = some ⟨TK.other, 1, 8, some [AV.nilp]⟩ := by kernel_rfl
theorem ti118 : ti Try.prog 118 = some ⟨TK.struct [(3, 0), (3, 1), (114, 2)], 3, 40, some [AV.int IntKind.i64 (0), AV.int IntKind.i64 (0), AV.nilsl]⟩ := by kernel_rfl
theorem ti119 : ti Try.prog 119 = some ⟨TK.struct [(3, 0), (3, 1), (114, 2)], 3, 40, some [AV.int IntKind.i64 (0), AV.int IntKind.i64 (0), AV.nilsl]⟩ := by kernel_rfl
theorem zv4 : zv Try.prog 4 = some (AV.bool false) := by kernel_rfl
theorem fl7_0 : flT Try.prog 7 0 = some 0 := by kernel_rfl
theorem fl7_1 : flT Try.prog 7 1 = some 1 := by kernel_rfl
theorem fl7_2 : flT Try.prog 7 2 = some 2 := by kernel_rfl
theorem fl7_3 : flT Try.prog 7 3 = some 3 := by kernel_rfl
theorem fl8_0 : flT Try.prog 8 0 = some 0 := by kernel_rfl
theorem fl8_1 : flT Try.prog 8 1 = some 1 := by kernel_rfl
theorem fl8_2 : flT Try.prog 8 2 = some 2 := by kernel_rfl
theorem fl8_3 : flT Try.prog 8 3 = some 3 := by kernel_rfl
theorem fl13_0 : flT Try.prog 13 0 = some 0 := by kernel_rfl
theorem fl13_1 : flT Try.prog 13 1 = some 1 := by kernel_rfl
theorem fl14_0 : flT Try.prog 14 0 = some 0 := by kernel_rfl
theorem fl14_1 : flT Try.prog 14 1 = some 1 := by kernel_rfl
theorem fl18_0 : flT Try.prog 18 0 = some 0 := by kernel_rfl
theorem fl19_0 : flT Try.prog 19 0 = some 0 := by kernel_rfl
theorem el22 : elT Try.prog 22 = some 10 := by kernel_rfl
theorem el23 : elT Try.prog 23 = some 1 := by kernel_rfl
theorem fl24_0 : flT Try.prog 24 0 = some 0 := by kernel_rfl
theorem fl24_1 : flT Try.prog 24 1 = some 1 := by kernel_rfl
theorem fl25_0 : flT Try.prog 25 0 = some 0 := by kernel_rfl
theorem fl25_1 : flT Try.prog 25 1 = some 1 := by kernel_rfl
theorem el26 : elT Try.prog 26 = some 8 := by kernel_rfl
theorem el27 : elT Try.prog 27 = some 1 := by kernel_rfl
theorem fl28_0 : flT Try.prog 28 0 = some 0 := by kernel_rfl
theorem fl28_1 : flT Try.prog 28 1 = some 1 := by kernel_rfl
theorem fl28_2 : flT Try.prog 28 2 = some 2 := by kernel_rfl
theorem fl28_3 : flT Try.prog 28 3 = some 3 := by kernel_rfl
theorem fl28_4 : flT Try.prog 28 4 = some 4 := by kernel_rfl
theorem fl28_5 : flT Try.prog 28 5 = some 5 := by kernel_rfl
theorem fl28_6 : flT Try.prog 28 6 = some 6 := by kernel_rfl
theorem fl28_7 : flT Try.prog 28 7 = some 7 := by kernel_rfl
theorem fl29_0 : flT Try.prog 29 0 = some 0 := by kernel_rfl
theorem fl29_1 : flT Try.prog 29 1 = some 1 := by kernel_rfl
theorem fl29_2 : flT Try.prog 29 2 = some 2 := by kernel_rfl
theorem fl29_3 : flT Try.prog 29 3 = some 3 := by kernel_rfl
theorem fl29_4 : flT Try.prog 29 4 = some 4 := by kernel_rfl
theorem fl29_5 : flT Try.prog 29 5 = some 5 := by kernel_rfl
theorem fl29_6 : flT Try.prog 29 6 = some 6 := by kernel_rfl
theorem fl29_7 : flT Try.prog 29 7 = some 7 := by kernel_rfl
theorem fl36_0 : flT Try.prog 36 0 = some 0 := by kernel_rfl
theorem fl36_1 : flT Try.prog 36 1 = some 1 := by kernel_rfl
theorem fl36_2 : flT Try.prog 36 2 = some 2 := by kernel_rfl
theorem fl37_0 : flT Try.prog 37 0 = some 0 := by kernel_rfl
theorem fl37_1 : flT Try.prog 37 1 = some 1 := by kernel_rfl
theorem fl37_2 : flT Try.prog 37 2 = some 2 := by kernel_rfl
theorem el44 : elT Try.prog 44 = some 5 := by kernel_rfl
theorem el47 : elT Try.prog 47 = some 2 := by kernel_rfl
theorem fl48_0 : flT Try.prog 48 0 = some 0 := by kernel_rfl
theorem fl48_1 : flT Try.prog 48 1 = some 1 := by kernel_rfl
theorem fl48_2 : flT Try.prog 48 2 = some 2 := by kernel_rfl
theorem fl48_3 : flT Try.prog 48 3 = some 3 := by kernel_rfl
theorem fl48_4 : flT Try.prog 48 4 = some 4 := by kernel_rfl
theorem fl49_0 : flT Try.prog 49 0 = some 0 := by kernel_rfl
theorem fl49_1 : flT Try.prog 49 1 = some 1 := by kernel_rfl
theorem fl49_2 : flT Try.prog 49 2 = some 2 := by kernel_rfl
theorem fl49_3 : flT Try.prog 49 3 = some 3 := by kernel_rfl
theorem fl49_4 : flT Try.prog 49 4 = some 4 := by kernel_rfl
theorem mp73 : mpT Try.prog 73 = some 4 := by kernel_rfl
theorem mz73 : mpZ Try.prog 73 = some (AV.bool false) := by kernel_rfl
theorem fl74_0 : flT Try.prog 74 0 = some 0 := by kernel_rfl
theorem fl74_1 : flT Try.prog 74 1 = some 1 := by kernel_rfl
theorem fl74_2 : flT Try.prog 74 2 = some 2 := by kernel_rfl
theorem fl75_0 : flT Try.prog 75 0 = some 0 := by kernel_rfl
theorem fl75_1 : flT Try.prog 75 1 = some 1 := by kernel_rfl
theorem fl75_2 : flT Try.prog 75 2 = some 2 := by kernel_rfl
theorem fl81_0 : flT Try.prog 81 0 = some 0 := by kernel_rfl
theorem fl81_1 : flT Try.prog 81 1 = some 2 := by kernel_rfl
theorem fl81_2 : flT Try.prog 81 2 = some 3 := by kernel_rfl
theorem fl81_3 : flT Try.prog 81 3 = some 4 := by kernel_rfl
theorem fl81_4 : flT Try.prog 81 4 = some 5 := by kernel_rfl
theorem fl81_5 : flT Try.prog 81 5 = some 6 := by kernel_rfl
theorem fl82_0 : flT Try.prog 82 0 = some 0 := by kernel_rfl
theorem fl82_1 : flT Try.prog 82 1 = some 2 := by kernel_rfl
theorem fl82_2 : flT Try.prog 82 2 = some 3 := by kernel_rfl
theorem fl82_3 : flT Try.prog 82 3 = some 4 := by kernel_rfl
theorem fl82_4 : flT Try.prog 82 4 = some 5 := by kernel_rfl
theorem fl82_5 : flT Try.prog 82 5 = some 6 := by kernel_rfl
theorem fl87_0 : flT Try.prog 87 0 = some 0 := by kernel_rfl
theorem fl87_1 : flT Try.prog 87 1 = some 1 := by kernel_rfl
theorem fl87_2 : flT Try.prog 87 2 = some 3 := by kernel_rfl
theorem fl87_3 : flT Try.prog 87 3 = some 4 := by kernel_rfl
theorem fl87_4 : flT Try.prog 87 4 = some 5 := by kernel_rfl
theorem fl88_0 : flT Try.prog 88 0 = some 0 := by kernel_rfl
theorem fl88_1 : flT Try.prog 88 1 = some 1 := by kernel_rfl
theorem fl88_2 : flT Try.prog 88 2 = some 3 := by kernel_rfl
theorem fl88_3 : flT Try.prog 88 3 = some 4 := by kernel_rfl
theorem fl88_4 : flT Try.prog 88 4 = some 5 := by kernel_rfl
theorem fl99_0 : flT Try.prog 99 0 = some 0 := by kernel_rfl
theorem fl99_1 : flT Try.prog 99 1 = some 1 := by kernel_rfl
theorem fl99_2 : flT Try.prog 99 2 = some 2 := by kernel_rfl
theorem fl99_3 : flT Try.prog 99 3 = some 3 := by kernel_rfl
theorem fl100_0 : flT Try.prog 100 0 = some 0 := by kernel_rfl
theorem fl100_1 : flT Try.prog 100 1 = some 1 := by kernel_rfl
theorem fl100_2 : flT Try.prog 100 2 = some 2 := by kernel_rfl
theorem fl100_3 : flT Try.prog 100 3 = some 3 := by kernel_rfl
theorem fl112_0 : flT Try.prog 112 0 = some 0 := by kernel_rfl
theorem fl112_1 : flT Try.prog 112 1 = some 1 := by kernel_rfl
theorem fl112_2 : flT Try.prog 112 2 = some 2 := by kernel_rfl
theorem fl112_3 : flT Try.prog 112 3 = some 3 := by kernel_rfl
theorem fl112_4 : flT Try.prog 112 4 = some 4 := by kernel_rfl
theorem fl112_5 : flT Try.prog 112 5 = some 5 := by kernel_rfl
theorem fl112_6 : flT Try.prog 112 6 = some 6 := by kernel_rfl
theorem fl112_7 : flT Try.prog 112 7 = some 7 := by kernel_rfl
theorem fl112_8 : flT Try.prog 112 8 = some 8 := by kernel_rfl
theorem fl112_9 : flT Try.prog 112 9 = some 9 := by kernel_rfl
theorem fl112_10 : flT Try.prog 112 10 = some 10 := by kernel_rfl
theorem fl113_0 : flT Try.prog 113 0 = some 0 := by kernel_rfl
theorem fl113_1 : flT Try.prog 113 1 = some 1 := by kernel_rfl
theorem fl113_2 : flT Try.prog 113 2 = some 2 := by kernel_rfl
theorem fl113_3 : flT Try.prog 113 3 = some 3 := by kernel_rfl
theorem fl113_4 : flT Try.prog 113 4 = some 4 := by kernel_rfl
theorem fl113_5 : flT Try.prog 113 5 = some 5 := by kernel_rfl
theorem fl113_6 : flT Try.prog 113 6 = some 6 := by kernel_rfl
theorem fl113_7 : flT Try.prog 113 7 = some 7 := by kernel_rfl
theorem fl113_8 : flT Try.prog 113 8 = some 8 := by kernel_rfl
theorem fl113_9 : flT Try.prog 113 9 = some 9 := by kernel_rfl
theorem fl113_10 : flT Try.prog 113 10 = some 10 := by kernel_rfl
theorem el114 : elT Try.prog 114 = some 3 := by kernel_rfl
theorem fl115_0 : flT Try.prog 115 0 = some 0 := by kernel_rfl
theorem fl115_1 : flT Try.prog 115 1 = some 1 := by kernel_rfl
theorem fl116_0 : flT Try.prog 116 0 = some 0 := by kernel_rfl
theorem fl116_1 : flT Try.prog 116 1 = some 1 := by kernel_rfl
theorem fl118_0 : flT Try.prog 118 0 = some 0 := by kernel_rfl
theorem fl118_1 : flT Try.prog 118 1 = some 1 := by kernel_rfl
theorem fl118_2 : flT Try.prog 118 2 = some 2 := by kernel_rfl
theorem fl119_0 : flT Try.prog 119 0 = some 0 := by kernel_rfl
theorem fl119_1 : flT Try.prog 119 1 = some 1 := by kernel_rfl
theorem fl119_2 : flT Try.prog 119 2 = some 2 := by kernel_rfl
theorem isf2 : isFn Try.prog 2 = true := by kernel_rfl
theorem isf3 : isFn Try.prog 3 = true := by kernel_rfl
theorem isf4 : isFn Try.prog 4 = true := by kernel_rfl
theorem isf5 : isFn Try.prog 5 = true := by kernel_rfl
theorem isf6 : isFn Try.prog 6 = true := by kernel_rfl
theorem isf7 : isFn Try.prog 7 = true := by kernel_rfl
theorem isf8 : isFn Try.prog 8 = true := by kernel_rfl
theorem isf9 : isFn Try.prog 9 = true := by kernel_rfl
theorem isf10 : isFn Try.prog 10 = true := by kernel_rfl
theorem isf11 : isFn Try.prog 11 = true := by kernel_rfl
theorem isf12 : isFn Try.prog 12 = true := by kernel_rfl
theorem isf13 : isFn Try.prog 13 = true := by kernel_rfl
theorem isf14 : isFn Try.prog 14 = true := by kernel_rfl
theorem isf15 : isFn Try.prog 15 = true := by kernel_rfl
theorem isf16 : isFn Try.prog 16 = true := by kernel_rfl
theorem isf17 : isFn Try.prog 17 = true := by kernel_rfl
theorem isf18 : isFn Try.prog 18 = true := by kernel_rfl
theorem isf19 : isFn Try.prog 19 = true := by kernel_rfl
theorem isf20 : isFn Try.prog 20 = true := by kernel_rfl
theorem isf21 : isFn Try.prog 21 = true := by kernel_rfl
theorem isf22 : isFn Try.prog 22 = true := by kernel_rfl
theorem isf23 : isFn Try.prog 23 = true := by kernel_rfl
theorem isf24 : isFn Try.prog 24 = true := by kernel_rfl
theorem isf25 : isFn Try.prog 25 = true := by kernel_rfl
theorem isf26 : isFn Try.prog 26 = true := by kernel_rfl
theorem isf27 : isFn Try.prog 27 = true := by kernel_rfl
theorem isf28 : isFn Try.prog 28 = true := by kernel_rfl
theorem isf29 : isFn Try.prog 29 = true := by kernel_rfl
theorem isf30 : isFn Try.prog 30 = true := by kernel_rfl
theorem isf31 : isFn Try.prog 31 = true := by kernel_rfl
theorem isf32 : isFn Try.prog 32 = true := by kernel_rfl
theorem isf33 : isFn Try.prog 33 = true := by kernel_rfl
theorem isf34 : isFn Try.prog 34 = true := by kernel_rfl
theorem isf35 : isFn Try.prog 35 = true := by kernel_rfl
theorem isf36 : isFn Try.prog 36 = true := by kernel_rfl
theorem isf37 : isFn Try.prog 37 = true := by kernel_rfl
theorem isf38 : isFn Try.prog 38 = true := by kernel_rfl
theorem isf39 : isFn Try.prog 39 = true := by kernel_rfl
theorem isf40 : isFn Try.prog 40 = true := by kernel_rfl
theorem isf41 : isFn Try.prog 41 = true := by kernel_rfl
theorem isf42 : isFn Try.prog 42 = true := by kernel_rfl
theorem isf43 : isFn Try.prog 43 = true := by kernel_rfl
theorem isf44 : isFn Try.prog 44 = true := by kernel_rfl
theorem isf45 : isFn Try.prog 45 = true := by kernel_rfl
theorem isf46 : isFn Try.prog 46 = true := by kernel_rfl
theorem isf47 : isFn Try.prog 47 = true := by kernel_rfl
theorem isf48 : isFn Try.prog 48 = true := by kernel_rfl
theorem isf49 : isFn Try.prog 49 = true := by kernel_rfl
theorem isf50 : isFn Try.prog 50 = true := by kernel_rfl
theorem isf51 : isFn Try.prog 51 = true := by kernel_rfl
theorem isf52 : isFn Try.prog 52 = true := by kernel_rfl
theorem isf53 : isFn Try.prog 53 = true := by kernel_rfl
theorem isf54 : isFn Try.prog 54 = true := by kernel_rfl
theorem isf55 : isFn Try.prog 55 = true := by kernel_rfl
theorem isf56 : isFn Try.prog 56 = true := by kernel_rfl
theorem isf57 : isFn Try.prog 57 = true := by kernel_rfl
theorem isf58 : isFn Try.prog 58 = true := by kernel_rfl
theorem isf59 : isFn Try.prog 59 = true := by kernel_rfl
theorem isf60 : isFn Try.prog 60 = true := by kernel_rfl
theorem isf61 : isFn Try.prog 61 = true := by kernel_rfl
theorem isf62 : isFn Try.prog 62 = true := by kernel_rfl
theorem mixed : Try.prog.follows .mixedOrders = true := by kernel_rfl
attribute [go_sem] ti0 ti1 ti2 ti3 ti4 ti5 ti6 ti7 ti8 ti9 ti10 ti11 ti12 ti13 ti14 ti15 ti16 ti17 ti18 ti19 ti20 ti21 ti22 ti23 ti24 ti25 ti26 ti27 ti28 ti29 ti30 ti31 ti32 ti33 ti34 ti35 ti36 ti37 ti38 ti39 ti40 ti41 ti42 ti43 ti44 ti45 ti46 ti47 ti48 ti49 ti50 ti51 ti52 ti53 ti54 ti55 ti56 ti57 ti58 ti59 ti60 ti61 ti62 ti63 ti64 ti65 ti66 ti67 ti68 ti69 ti70 ti71 ti72 ti73 ti74 ti75 ti76 ti77 ti78 ti79 ti80 ti81 ti82 ti83 ti84 ti85 ti86 ti87 ti88 ti89 ti90 ti91 ti92 ti93 ti94 ti95 ti96 ti97 ti98 ti99 ti100 ti101 ti102 ti103 ti104 ti105 ti106 ti107 ti108 ti109 ti110 ti111 ti112 ti113 ti114 ti115 ti116 ti117 ti118 ti119 zv4 fl7_0 fl7_1 fl7_2 fl7_3 fl8_0 fl8_1 fl8_2 fl8_3 fl13_0 fl13_1 fl14_0 fl14_1 fl18_0 fl19_0 el22 el23 fl24_0 fl24_1 fl25_0 fl25_1 el26 el27 fl28_0 fl28_1 fl28_2 fl28_3 fl28_4 fl28_5 fl28_6 fl28_7 fl29_0 fl29_1 fl29_2 fl29_3 fl29_4 fl29_5 fl29_6 fl29_7 fl36_0 fl36_1 fl36_2 fl37_0 fl37_1 fl37_2 el44 el47 fl48_0 fl48_1 fl48_2 fl48_3 fl48_4 fl49_0 fl49_1 fl49_2 fl49_3 fl49_4 mp73 mz73 fl74_0 fl74_1 fl74_2 fl75_0 fl75_1 fl75_2 fl81_0 fl81_1 fl81_2 fl81_3 fl81_4 fl81_5 fl82_0 fl82_1 fl82_2 fl82_3 fl82_4 fl82_5 fl87_0 fl87_1 fl87_2 fl87_3 fl87_4 fl88_0 fl88_1 fl88_2 fl88_3 fl88_4 fl99_0 fl99_1 fl99_2 fl99_3 fl100_0 fl100_1 fl100_2 fl100_3 fl112_0 fl112_1 fl112_2 fl112_3 fl112_4 fl112_5 fl112_6 fl112_7 fl112_8 fl112_9 fl112_10 fl113_0 fl113_1 fl113_2 fl113_3 fl113_4 fl113_5 fl113_6 fl113_7 fl113_8 fl113_9 fl113_10 el114 fl115_0 fl115_1 fl116_0 fl116_1 fl118_0 fl118_1 fl118_2 fl119_0 fl119_1 fl119_2
end Go.Proofs.Ytdgmjbgjahmoaaa

set_option maxHeartbeats 4000000
set_option maxRecDepth 100000
namespace Go.Proofs.Ytdgmjbgjahmoaaa
open Nat (reduceAdd reduceMul reduceEqDiff reduceLT reduceLeDiff reduceSub reduceDiv)
open Int (reduceBNe reduceLE reduceEq)
open Go.Am Go.Proofs Go.Hv
open Classical
attribute [local irreducible] AW CallP CallB
theorem ints_call (a b : List Int) (ha : a.length ≤ 2 ^ 40) : PCall Try.prog 20 [.sl (il a), .sl (il b)] (.bool (decide (a = b))) := by
 refine PCall.intro Try.func20 rfl isf20 (by simp [Try.f20]) (by simp [AV.cloL, AV.clo]) fun E Q hE hN hQ => K_start ?_
 by_cases hl : a.length = b.length
 ·have q0 : ((a.length : Int) != (b.length : Int)) = false := by simp [hl]
  repeat' (first | apply nx | refine Kq_exit_ne (by decide) ?_ | rw [wrap64 (by omega) (by omega)] | ((first | refine hK _ ?_ | refine hKp _ _ ?_); clear hK hKp K Kp; try clear hanc anc) | ((with_reducible refine And.intro ?_ ?_); (focus (first | trivial | omega | (simp only [Fits]; omega) | assumption | (rw [hanc]; rfl)))) | ((first | refine K_regA hE fun K Kp hK hKp => ?_ | refine K_drwA false mixed hE fun K Kp hK hKp anc hanc => ?_); simp only [go_sem, q0]) | ((first | refine onG_split_t (fun hg => ?_) (fun hg => ?_) | refine onG_split_f (fun hg => ?_) (fun hg => ?_)) <;> simp only [go_sem, q0, hg]) | (refine K_condA (fun hc => ?_) (fun hc => ?_) <;> try (exact absurd hc (by decide))) | (refine K_ret ?_; refine (hQ _ ⟨_, by (try simp only [go_sem, ↓reduceIte, Nat.reduceEqDiff]); rfl, by simp [go_sem], ?_, by first | rfl | assumption⟩).1))
  refine K_loop (X := Nat) (fun i => i ≤ a.length ∧ decide (a = b) = decide (a.drop i = b.drop i)) (fun i => mkSt [(0, .sl (il a)), (1, .sl (il b)), (5, AV.i i)] [] 0) (fun i => a.length - i) 0 ⟨Nat.zero_le _, rfl⟩ (fun i => i) (by refine ent_mk (by simp [go_sem]) (by simp [go_sem]) (by simp) (by simp [hN])) ?_
  rintro i ⟨hi, ht⟩
  by_cases hlt : i < a.length
  ·obtain ⟨x, hx⟩ := get?_of hlt
   obtain ⟨y, hy⟩ := get?_of (show i < b.length by omega)
   rw [drop_of hx, drop_of hy] at ht
   by_cases hxy : x = y
   ·have q1 : (x != y) = false := by simp [hxy]
    repeat' (first | apply nx | refine Kq_exit_ne (by decide) ?_ | rw [wrap64 (by omega) (by omega)] | ((first | refine hK _ ?_ | refine hKp _ _ ?_); clear hK hKp K Kp; try clear hanc anc) | ((with_reducible refine And.intro ?_ ?_); (focus (first | trivial | omega | (simp only [Fits]; omega) | assumption | (rw [hanc]; rfl)))) | ((first | refine K_regA hE fun K Kp hK hKp => ?_ | refine K_drwA false mixed hE fun K Kp hK hKp anc hanc => ?_); simp only [go_sem, lt_dec hlt, hx, hy, q1]) | ((first | refine onG_split_t (fun hg => ?_) (fun hg => ?_) | refine onG_split_f (fun hg => ?_) (fun hg => ?_)) <;> simp only [go_sem, lt_dec hlt, hx, hy, q1, hg]) | (refine K_condA (fun hc => ?_) (fun hc => ?_) <;> try (exact absurd hc (by decide))) | (refine K_ret ?_; refine (hQ _ ⟨_, by (try simp only [go_sem, ↓reduceIte, Nat.reduceEqDiff]); rfl, by simp [go_sem], ?_, by first | rfl | assumption⟩).1))
    exact ⟨i + 1, ⟨by omega, by rw [ht]; simp [hxy]⟩, by omega, fun i => i, by refine ent_mk (by simp [go_sem]) (by simp [go_sem]) (by simp) (by simp [hN])⟩
   ·have q1 : (x != y) = true := by simp [hxy]
    repeat' (first | apply nx | refine Kq_exit_ne (by decide) ?_ | rw [wrap64 (by omega) (by omega)] | ((first | refine hK _ ?_ | refine hKp _ _ ?_); clear hK hKp K Kp; try clear hanc anc) | ((with_reducible refine And.intro ?_ ?_); (focus (first | trivial | omega | (simp only [Fits]; omega) | assumption | (rw [hanc]; rfl)))) | ((first | refine K_regA hE fun K Kp hK hKp => ?_ | refine K_drwA false mixed hE fun K Kp hK hKp anc hanc => ?_); simp only [go_sem, lt_dec hlt, hx, hy, q1]) | ((first | refine onG_split_t (fun hg => ?_) (fun hg => ?_) | refine onG_split_f (fun hg => ?_) (fun hg => ?_)) <;> simp only [go_sem, lt_dec hlt, hx, hy, q1, hg]) | (refine K_condA (fun hc => ?_) (fun hc => ?_) <;> try (exact absurd hc (by decide))) | (refine K_ret ?_; refine (hQ _ ⟨_, by (try simp only [go_sem, ↓reduceIte, Nat.reduceEqDiff]); rfl, by simp [go_sem], ?_, by first | rfl | assumption⟩).1))
    simp [AV.snap, ht, hxy]
  ·obtain rfl : i = a.length := by omega
   rw [List.drop_length, hl, List.drop_length] at ht
   repeat' (first | apply nx | refine Kq_exit_ne (by decide) ?_ | rw [wrap64 (by omega) (by omega)] | ((first | refine hK _ ?_ | refine hKp _ _ ?_); clear hK hKp K Kp; try clear hanc anc) | ((with_reducible refine And.intro ?_ ?_); (focus (first | trivial | omega | (simp only [Fits]; omega) | assumption | (rw [hanc]; rfl)))) | ((first | refine K_regA hE fun K Kp hK hKp => ?_ | refine K_drwA false mixed hE fun K Kp hK hKp anc hanc => ?_); simp only [go_sem, ge_dec]) | ((first | refine onG_split_t (fun hg => ?_) (fun hg => ?_) | refine onG_split_f (fun hg => ?_) (fun hg => ?_)) <;> simp only [go_sem, ge_dec, hg]) | (refine K_condA (fun hc => ?_) (fun hc => ?_) <;> try (exact absurd hc (by decide))) | (refine K_ret ?_; refine (hQ _ ⟨_, by (try simp only [go_sem, ↓reduceIte, Nat.reduceEqDiff]); rfl, by simp [go_sem], ?_, by first | rfl | assumption⟩).1))
   simp [AV.snap, ht]
 ·have q0 : ((a.length : Int) != (b.length : Int)) = true := by simp; omega
  repeat' (first | apply nx | refine Kq_exit_ne (by decide) ?_ | rw [wrap64 (by omega) (by omega)] | ((first | refine hK _ ?_ | refine hKp _ _ ?_); clear hK hKp K Kp; try clear hanc anc) | ((with_reducible refine And.intro ?_ ?_); (focus (first | trivial | omega | (simp only [Fits]; omega) | assumption | (rw [hanc]; rfl)))) | ((first | refine K_regA hE fun K Kp hK hKp => ?_ | refine K_drwA false mixed hE fun K Kp hK hKp anc hanc => ?_); simp only [go_sem, q0]) | ((first | refine onG_split_t (fun hg => ?_) (fun hg => ?_) | refine onG_split_f (fun hg => ?_) (fun hg => ?_)) <;> simp only [go_sem, q0, hg]) | (refine K_condA (fun hc => ?_) (fun hc => ?_) <;> try (exact absurd hc (by decide))) | (refine K_ret ?_; refine (hQ _ ⟨_, by (try simp only [go_sem, ↓reduceIte, Nat.reduceEqDiff]); rfl, by simp [go_sem], ?_, by first | rfl | assumption⟩).1))
  have : a ≠ b := by rintro rfl; exact hl rfl
  simp [AV.snap, this]
theorem in_call (l : List Int) (n : Int) (hl : l.length ≤ 2 ^ 40) : PCall Try.prog 36 [.sl (il l), .i n] (.bool (decide (n ∈ l))) := by
 refine PCall.intro Try.func36 rfl isf36 (by simp [Try.f36]) (by simp [AV.cloL, AV.clo]) fun E Q hE hN hQ => K_start ?_
 repeat' (first | apply nx | refine Kq_exit_ne (by decide) ?_ | rw [wrap64 (by omega) (by omega)] | ((first | refine hK _ ?_ | refine hKp _ _ ?_); clear hK hKp K Kp; try clear hanc anc) | ((with_reducible refine And.intro ?_ ?_); (focus (first | trivial | omega | (simp only [Fits]; omega) | assumption | (rw [hanc]; rfl)))) | ((first | refine K_regA hE fun K Kp hK hKp => ?_ | refine K_drwA false mixed hE fun K Kp hK hKp anc hanc => ?_); simp only [go_sem, il_len]) | ((first | refine onG_split_t (fun hg => ?_) (fun hg => ?_) | refine onG_split_f (fun hg => ?_) (fun hg => ?_)) <;> simp only [go_sem, il_len, hg]) | (refine K_condA (fun hc => ?_) (fun hc => ?_) <;> try (exact absurd hc (by decide))) | (refine K_ret ?_; refine (hQ _ ⟨_, by (try simp only [go_sem, ↓reduceIte, Nat.reduceEqDiff]); rfl, by simp [go_sem], ?_, by first | rfl | assumption⟩).1))
 refine K_loop (X := Nat) (fun i => i ≤ l.length ∧ decide (n ∈ l) = decide (n ∈ l.drop i)) (fun i => mkSt [(0, .sl (il l)), (1, .i n), (5, AV.i i)] [] 0) (fun i => l.length - i) 0 ⟨Nat.zero_le _, rfl⟩ (fun i => i) (by refine ent_mk (by simp [go_sem]) (by simp [go_sem]) (by simp) (by simp [hN])) ?_
 rintro i ⟨hi, ht⟩
 by_cases hlt : i < l.length
 ·obtain ⟨x, hx⟩ := get?_of hlt
  rw [drop_of hx] at ht
  by_cases hxy : x = n
  ·have q1 : (x == n) = true := by simp [hxy]
   repeat' (first | apply nx | refine Kq_exit_ne (by decide) ?_ | rw [wrap64 (by omega) (by omega)] | ((first | refine hK _ ?_ | refine hKp _ _ ?_); clear hK hKp K Kp; try clear hanc anc) | ((with_reducible refine And.intro ?_ ?_); (focus (first | trivial | omega | (simp only [Fits]; omega) | assumption | (rw [hanc]; rfl)))) | ((first | refine K_regA hE fun K Kp hK hKp => ?_ | refine K_drwA false mixed hE fun K Kp hK hKp anc hanc => ?_); simp only [go_sem, lt_dec hlt, hx, q1]) | ((first | refine onG_split_t (fun hg => ?_) (fun hg => ?_) | refine onG_split_f (fun hg => ?_) (fun hg => ?_)) <;> simp only [go_sem, lt_dec hlt, hx, q1, hg]) | (refine K_condA (fun hc => ?_) (fun hc => ?_) <;> try (exact absurd hc (by decide))) | (refine K_ret ?_; refine (hQ _ ⟨_, by (try simp only [go_sem, ↓reduceIte, Nat.reduceEqDiff]); rfl, by simp [go_sem], ?_, by first | rfl | assumption⟩).1))
   simp [AV.snap, ht, hxy]
  ·have q1 : (x == n) = false := by simp [hxy]
   repeat' (first | apply nx | refine Kq_exit_ne (by decide) ?_ | rw [wrap64 (by omega) (by omega)] | ((first | refine hK _ ?_ | refine hKp _ _ ?_); clear hK hKp K Kp; try clear hanc anc) | ((with_reducible refine And.intro ?_ ?_); (focus (first | trivial | omega | (simp only [Fits]; omega) | assumption | (rw [hanc]; rfl)))) | ((first | refine K_regA hE fun K Kp hK hKp => ?_ | refine K_drwA false mixed hE fun K Kp hK hKp anc hanc => ?_); simp only [go_sem, lt_dec hlt, hx, q1]) | ((first | refine onG_split_t (fun hg => ?_) (fun hg => ?_) | refine onG_split_f (fun hg => ?_) (fun hg => ?_)) <;> simp only [go_sem, lt_dec hlt, hx, q1, hg]) | (refine K_condA (fun hc => ?_) (fun hc => ?_) <;> try (exact absurd hc (by decide))) | (refine K_ret ?_; refine (hQ _ ⟨_, by (try simp only [go_sem, ↓reduceIte, Nat.reduceEqDiff]); rfl, by simp [go_sem], ?_, by first | rfl | assumption⟩).1))
   exact ⟨i + 1, ⟨by omega, by rw [ht]; simp [Ne.symm hxy]⟩, by omega, fun i => i, by refine ent_mk (by simp [go_sem]) (by simp [go_sem]) (by simp) (by simp [hN])⟩
 ·obtain rfl : i = l.length := by omega
  rw [List.drop_length] at ht
  repeat' (first | apply nx | refine Kq_exit_ne (by decide) ?_ | rw [wrap64 (by omega) (by omega)] | ((first | refine hK _ ?_ | refine hKp _ _ ?_); clear hK hKp K Kp; try clear hanc anc) | ((with_reducible refine And.intro ?_ ?_); (focus (first | trivial | omega | (simp only [Fits]; omega) | assumption | (rw [hanc]; rfl)))) | ((first | refine K_regA hE fun K Kp hK hKp => ?_ | refine K_drwA false mixed hE fun K Kp hK hKp anc hanc => ?_); simp only [go_sem, ge_dec]) | ((first | refine onG_split_t (fun hg => ?_) (fun hg => ?_) | refine onG_split_f (fun hg => ?_) (fun hg => ?_)) <;> simp only [go_sem, ge_dec, hg]) | (refine K_condA (fun hc => ?_) (fun hc => ?_) <;> try (exact absurd hc (by decide))) | (refine K_ret ?_; refine (hQ _ ⟨_, by (try simp only [go_sem, ↓reduceIte, Nat.reduceEqDiff]); rfl, by simp [go_sem], ?_, by first | rfl | assumption⟩).1))
  simp [AV.snap, ht]
theorem sameV_call : ∀ (n : Nat) (a b : Vl), a.sz < n → n ≤ 2 ^ 40 → PCall Try.prog 16 [a.av, b.av] (.bool (decide (a = b))) := by
 intro n
 induction n with
 | zero => intro a b h; omega
 | succ n ih =>
 intro a b hn hN2
 have hx : a = b ↔ a.kind = b.kind ∧ a.id = b.id ∧ a.var = b.var ∧ a.n = b.n ∧ a.fs = b.fs ∧ a.excl = b.excl ∧ a.path = b.path ∧ a.loans = b.loans := ⟨by rintro rfl; simp, fun ⟨h1, h2, h3, h4, h5, h6, h7, h8⟩ => Vl.ext h1 h2 h3 h4 h5 h6 h7 h8⟩
 have hsz := a.sz_eq
 have hlf := Vl.len_le a.fs
 rw [Vl.av_eq, Vl.av_eq]
 by_cases hall : a.kind = b.kind ∧ a.id = b.id ∧ a.var = b.var ∧ a.n = b.n ∧ a.fs.length = b.fs.length ∧ a.excl = b.excl ∧ a.path = b.path ∧ a.loans = b.loans
 ·obtain ⟨h1, h2, h3, h4, h5, h6, h7, h8⟩ := hall
  have q1 : (a.kind != b.kind) = false := by simp [h1]
  have q2 : (a.id != b.id) = false := by simp [h2]
  have q3 : (a.var != b.var) = false := by simp [h3]
  have q4 : (a.n != b.n) = false := by simp [h4]
  have q5 : ((a.fs.length : Int) != (b.fs.length : Int)) = false := by simp [h5]
  have q6 : (!a.excl == b.excl) = false := by simp [h6]
  have i1 := ints_call a.path b.path (by omega)
  have i2 := ints_call a.loans b.loans (by omega)
  rw [decide_eq_true h7] at i1
  rw [decide_eq_true h8] at i2
  refine PCall.intro Try.func16 rfl isf16 (by simp [Try.f16]) (by simp [AV.cloL, AV.clo]) fun E Q hE hN hQ => K_start ?_
  repeat' (first | apply nx | refine Kq_exit_ne (by decide) ?_ | rw [wrap64 (by omega) (by omega)] | ((first | refine hK _ ?_ | refine hKp _ _ ?_); clear hK hKp K Kp; try clear hanc anc) | ((with_reducible refine And.intro ?_ ?_); (focus (first | trivial | omega | (simp only [Fits]; omega) | assumption | (rw [hanc]; rfl)))) | ((first | refine K_regA hE fun K Kp hK hKp => ?_ | refine K_drwA false mixed hE fun K Kp hK hKp anc hanc => ?_ | ((first | apply CallP_mk | apply CallB_mk); (focus (simp only [go_sem] <;> rfl)); (focus (first | exact i1 | exact i2)); (focus (first | (simp [go_sem]; done) | (simp [go_sem, CloRow, AV.cells, AV.clo]; done))); (focus (first | exact .inl rfl | (right; simp [go_sem]))))); simp only [go_sem, q1, q2, q3, q4, q5, q6]) | ((first | refine onG_split_t (fun hg => ?_) (fun hg => ?_) | refine onG_split_f (fun hg => ?_) (fun hg => ?_)) <;> simp only [go_sem, q1, q2, q3, q4, q5, q6, hg]) | (refine K_condA (fun hc => ?_) (fun hc => ?_) <;> try (exact absurd hc (by decide))) | (refine K_ret ?_; refine (hQ _ ⟨_, by (try simp only [go_sem, ↓reduceIte, Nat.reduceEqDiff]); rfl, by simp [go_sem], ?_, by first | rfl | assumption⟩).1))
  refine K_loop (X := Nat) (fun i => i ≤ a.fs.length ∧ decide (a.fs = b.fs) = decide (a.fs.drop i = b.fs.drop i)) (fun i => mkSt [(2, .ptr 0 0), (3, .ptr 1 0), (5, AV.i i)] [(0, .cells a.cs), (1, .cells b.cs)] 2) (fun i => a.fs.length - i) 0 ⟨Nat.zero_le _, rfl⟩ (fun i => if i = 0 then 0 else 1048576) (by refine ent_mk (by simp [go_sem, Vl.cs]) (by simp [go_sem, Vl.cs]) (by simp) (by simp [hN])) ?_
  rintro i ⟨hi, ht⟩
  by_cases hlt : i < a.fs.length
  ·obtain ⟨x, hx2⟩ := get?_of hlt
   obtain ⟨y, hy⟩ := get?_of (show i < b.fs.length by omega)
   have hxm := Vl.sz_mem (List.mem_of_getElem? hx2)
   have hr := ih x y (by omega) (by omega)
   rw [Vl.av_cs, Vl.av_cs] at hr
   rw [drop_of hx2, drop_of hy] at ht
   by_cases hxy : x = y
   ·rw [decide_eq_true hxy] at hr
    repeat' (first | apply nx | refine Kq_exit_ne (by decide) ?_ | rw [wrap64 (by omega) (by omega)] | ((first | refine hK _ ?_ | refine hKp _ _ ?_); clear hK hKp K Kp; try clear hanc anc) | ((with_reducible refine And.intro ?_ ?_); (focus (first | trivial | omega | (simp only [Fits]; omega) | assumption | (rw [hanc]; rfl)))) | ((first | refine K_regA hE fun K Kp hK hKp => ?_ | refine K_drwA false mixed hE fun K Kp hK hKp anc hanc => ?_ | ((first | apply CallP_mk | apply CallB_mk); (focus (simp only [go_sem] <;> rfl)); (focus (exact hr)); (focus (first | (simp [go_sem]; done) | (simp [go_sem, CloRow, AV.cells, AV.clo]; done))); (focus (first | exact .inl rfl | (right; simp [go_sem]))))); simp only [go_sem, lt_dec hlt, hx2, hy, Vl.av_cs, Vl.cs]) | ((first | refine onG_split_t (fun hg => ?_) (fun hg => ?_) | refine onG_split_f (fun hg => ?_) (fun hg => ?_)) <;> simp only [go_sem, lt_dec hlt, hx2, hy, Vl.av_cs, Vl.cs, hg]) | (refine K_condA (fun hc => ?_) (fun hc => ?_) <;> try (exact absurd hc (by decide))) | (refine K_ret ?_; refine (hQ _ ⟨_, by (try simp only [go_sem, ↓reduceIte, Nat.reduceEqDiff]); rfl, by simp [go_sem], ?_, by first | rfl | assumption⟩).1))
    exact ⟨i + 1, ⟨by omega, by rw [ht]; simp [hxy]⟩, by omega, fun i => i, by refine ent_mk (by simp [go_sem, Vl.cs]) (by simp [go_sem, Vl.cs]) (by simp) (by simp [hN])⟩
   ·rw [decide_eq_false hxy] at hr
    repeat' (first | apply nx | refine Kq_exit_ne (by decide) ?_ | rw [wrap64 (by omega) (by omega)] | ((first | refine hK _ ?_ | refine hKp _ _ ?_); clear hK hKp K Kp; try clear hanc anc) | ((with_reducible refine And.intro ?_ ?_); (focus (first | trivial | omega | (simp only [Fits]; omega) | assumption | (rw [hanc]; rfl)))) | ((first | refine K_regA hE fun K Kp hK hKp => ?_ | refine K_drwA false mixed hE fun K Kp hK hKp anc hanc => ?_ | ((first | apply CallP_mk | apply CallB_mk); (focus (simp only [go_sem] <;> rfl)); (focus (exact hr)); (focus (first | (simp [go_sem]; done) | (simp [go_sem, CloRow, AV.cells, AV.clo]; done))); (focus (first | exact .inl rfl | (right; simp [go_sem]))))); simp only [go_sem, lt_dec hlt, hx2, hy, Vl.av_cs, Vl.cs]) | ((first | refine onG_split_t (fun hg => ?_) (fun hg => ?_) | refine onG_split_f (fun hg => ?_) (fun hg => ?_)) <;> simp only [go_sem, lt_dec hlt, hx2, hy, Vl.av_cs, Vl.cs, hg]) | (refine K_condA (fun hc => ?_) (fun hc => ?_) <;> try (exact absurd hc (by decide))) | (refine K_ret ?_; refine (hQ _ ⟨_, by (try simp only [go_sem, ↓reduceIte, Nat.reduceEqDiff]); rfl, by simp [go_sem], ?_, by first | rfl | assumption⟩).1))
    simp [AV.snap, hx, h1, h2, h3, h4, h6, h7, h8, ht, hxy]
  ·obtain rfl : i = a.fs.length := by omega
   rw [List.drop_length, h5, List.drop_length] at ht
   repeat' (first | apply nx | refine Kq_exit_ne (by decide) ?_ | rw [wrap64 (by omega) (by omega)] | ((first | refine hK _ ?_ | refine hKp _ _ ?_); clear hK hKp K Kp; try clear hanc anc) | ((with_reducible refine And.intro ?_ ?_); (focus (first | trivial | omega | (simp only [Fits]; omega) | assumption | (rw [hanc]; rfl)))) | ((first | refine K_regA hE fun K Kp hK hKp => ?_ | refine K_drwA false mixed hE fun K Kp hK hKp anc hanc => ?_); simp only [go_sem, ge_dec, Vl.cs]) | ((first | refine onG_split_t (fun hg => ?_) (fun hg => ?_) | refine onG_split_f (fun hg => ?_) (fun hg => ?_)) <;> simp only [go_sem, ge_dec, Vl.cs, hg]) | (refine K_condA (fun hc => ?_) (fun hc => ?_) <;> try (exact absurd hc (by decide))) | (refine K_ret ?_; refine (hQ _ ⟨_, by (try simp only [go_sem, ↓reduceIte, Nat.reduceEqDiff]); rfl, by simp [go_sem], ?_, by first | rfl | assumption⟩).1))
   simp [AV.snap, hx, h1, h2, h3, h4, h6, h7, h8, ht]
 ·have hne : decide (a = b) = false := by
   simp only [decide_eq_false_iff_not, hx]
   rintro ⟨h1, h2, h3, h4, h5, h6, h7, h8⟩
   exact hall ⟨h1, h2, h3, h4, by rw [h5], h6, h7, h8⟩
  rw [hne]
  have i1 := ints_call a.path b.path (by omega)
  have i2 := ints_call a.loans b.loans (by omega)
  refine PCall.intro Try.func16 rfl isf16 (by simp [Try.f16]) (by simp [AV.cloL, AV.clo]) fun E Q hE hN hQ => K_start ?_
  repeat' (first | apply nx | refine Kq_exit_ne (by decide) ?_ | rw [wrap64 (by omega) (by omega)] | ((first | refine hK _ ?_ | refine hKp _ _ ?_); clear hK hKp K Kp; try clear hanc anc) | ((with_reducible refine And.intro ?_ ?_); (focus (first | trivial | omega | (simp only [Fits]; omega) | assumption | (rw [hanc]; rfl)))) | ((first | refine K_regA hE fun K Kp hK hKp => ?_ | refine K_drwA false mixed hE fun K Kp hK hKp anc hanc => ?_ | ((first | apply CallP_mk | apply CallB_mk); (focus (simp only [go_sem] <;> rfl)); (focus (first | exact i1 | exact i2)); (focus (first | (simp [go_sem]; done) | (simp [go_sem, CloRow, AV.cells, AV.clo]; done))); (focus (first | exact .inl rfl | (right; simp [go_sem]))))); simp only [go_sem]) | ((first | refine onG_split_t (fun hg => ?_) (fun hg => ?_) | refine onG_split_f (fun hg => ?_) (fun hg => ?_)) <;> simp only [go_sem, hg]) | (refine K_condA (fun hc => ?_) (fun hc => ?_) <;> try (exact absurd hc (by decide))) | (refine K_ret ?_; refine (hQ _ ⟨_, by (try simp only [go_sem, ↓reduceIte, Nat.reduceEqDiff]); rfl, by simp [go_sem], ?_, by first | rfl | assumption⟩).1))
  all_goals first | (simp only [AV.snap]; done) | rfl | skip
  all_goals (exfalso; clear hQ; apply hall; simp_all; omega)

theorem cl_cons (x : Cl) (l : List Cl) : cl (x :: l) = x.av :: cl l := rfl
theorem bl_nil : bl [] = [] := rfl
theorem bl_cons (x : Bool) (l : List Bool) : bl (x :: l) = .bool x :: bl l := rfl
theorem clone54_nc (l : List Cl) (hl : l.length ≤ 2 ^ 20) : ACall Try.prog 54 [.sl (cl l)] (fun _ => none) 0 0 (fun r hp' => r = .rw 0 ∧ hp' = mkHp [(0, .row 10 (cl l))]) (fun _ _ => False) := by
 refine ACall.of_bodyR Try.func54 isf54 rfl (by simp [Try.f54]) fun E Q hE hN hQ hQp => K_start ?_
 have hsz := szok_cl l
 have hlen : (cl l).length = l.length := cl_len l
 cases l with
 | nil =>
  repeat (first | refine K_seq ?_ | refine K_blk ?_ | refine AW_skip ?_ | refine Kq_norm_code ?_ | refine Kq_norm_blk ?_)
  refine K_regA hE fun K Kp hK hKp => ?_
  simp only [go_sem, cl_nil]
  refine hK _ ?_; clear hK hKp K Kp; try clear hanc anc
  repeat (first | refine Kq_norm_code ?_ | refine Kq_norm_blk ?_ | refine Kq_norm_lp ?_)
  repeat (first | refine K_seq ?_ | refine K_blk ?_ | refine AW_skip ?_ | refine Kq_norm_code ?_ | refine Kq_norm_blk ?_)
  refine AW_nilq Try.underlying22 (by rw [hE]; decide) (by rw [hE]; decide) (by decide) (by simp only [go_sem, cl_nil]) fun b => ?_
  cases b
  ·repeat' (first | apply nx | refine Kq_exit_ne (by decide) ?_ | rw [wrap64 (by omega) (by omega)] | ((first | refine hK _ ?_ | refine hKp _ _ ?_); clear hK hKp K Kp; try clear hanc anc) | ((with_reducible refine And.intro ?_ ?_); (focus (first | trivial | omega | (simp only [Fits]; omega) | assumption | (rw [hanc]; rfl)))) | ((first | refine K_regA hE fun K Kp hK hKp => ?_ | refine K_drwA true mixed hE fun K Kp hK hKp anc hanc => ?_ | refine K_drwA false mixed hE fun K Kp hK hKp anc hanc => ?_); simp only [go_sem, cl_nil]) | ((first | refine onG_split_t (fun hg => ?_) (fun hg => ?_) | refine onG_split_f (fun hg => ?_) (fun hg => ?_)) <;> simp only [go_sem, cl_nil, hg]) | (refine K_condA (fun hc => ?_) (fun hc => ?_) <;> try (exact absurd hc (by decide))))
   refine K_ret (hQ _ ⟨.rw 0, fun _ => 3145728, _, 1, resA_tmp (by simp only [go_sem, bl_nil]), (by simp [AV.ids, AV.idsL]), ?_, rfl, rfl⟩).1
   show Ent _ _ _ (mkSt [] [(0, .row 10 (cl []))] 1)
   refine ent_mk (by simp [go_sem, bl_nil]) (by simp [go_sem, bl_nil]) (by simp) (by simp [hN])
  ·repeat' (first | apply nx | refine Kq_exit_ne (by decide) ?_ | rw [wrap64 (by omega) (by omega)] | ((first | refine hK _ ?_ | refine hKp _ _ ?_); clear hK hKp K Kp; try clear hanc anc) | ((with_reducible refine And.intro ?_ ?_); (focus (first | trivial | omega | (simp only [Fits]; omega) | assumption | (rw [hanc]; rfl)))) | ((first | refine K_regA hE fun K Kp hK hKp => ?_ | refine K_drwA true mixed hE fun K Kp hK hKp anc hanc => ?_ | refine K_drwA false mixed hE fun K Kp hK hKp anc hanc => ?_); simp only [go_sem, cl_nil]) | ((first | refine onG_split_t (fun hg => ?_) (fun hg => ?_) | refine onG_split_f (fun hg => ?_) (fun hg => ?_)) <;> simp only [go_sem, cl_nil, hg]) | (refine K_condA (fun hc => ?_) (fun hc => ?_) <;> try (exact absurd hc (by decide))))
   refine AW_nil 2 10 (by rw [hE]; decide) (by simp only [go_sem]) ?_
   refine K_ret (hQ _ ⟨.rw 0, fun _ => 2097152, _, 1, resA_tmp (by simp only [go_sem, bl_nil]), (by simp [AV.ids, AV.idsL]), ?_, rfl, rfl⟩).1
   show Ent _ _ _ (mkSt [] [(0, .row 10 (cl []))] 1)
   refine ent_mk (by simp [go_sem, bl_nil]) (by simp [go_sem, bl_nil]) (by simp) (by simp [hN])
 | cons x l =>
  repeat' (first | apply nx | refine Kq_exit_ne (by decide) ?_ | rw [wrap64 (by omega) (by omega)] | ((first | refine hK _ ?_ | refine hKp _ _ ?_); clear hK hKp K Kp; try clear hanc anc) | ((with_reducible refine And.intro ?_ ?_); (focus (first | trivial | omega | (simp only [Fits]; omega) | assumption | (rw [hanc]; rfl)))) | ((first | refine K_regA hE fun K Kp hK hKp => ?_ | refine K_drwA true mixed hE fun K Kp hK hKp anc hanc => ?_ | refine K_drwA false mixed hE fun K Kp hK hKp anc hanc => ?_); simp only [go_sem, cl_cons]) | ((first | refine onG_split_t (fun hg => ?_) (fun hg => ?_) | refine onG_split_f (fun hg => ?_) (fun hg => ?_)) <;> simp only [go_sem, cl_cons, hg]) | (refine K_condA (fun hc => ?_) (fun hc => ?_) <;> try (exact absurd hc (by decide))))
  refine ⟨⟨hsz, (by simp only [List.length_cons] at hl; simp only [Fits]; omega)⟩, ?_⟩
  repeat' (first | apply nx | refine Kq_exit_ne (by decide) ?_ | rw [wrap64 (by omega) (by omega)] | ((first | refine hK _ ?_ | refine hKp _ _ ?_); clear hK hKp K Kp; try clear hanc anc) | ((with_reducible refine And.intro ?_ ?_); (focus (first | trivial | omega | (simp only [Fits]; omega) | assumption | (rw [hanc]; rfl)))) | ((first | refine K_regA hE fun K Kp hK hKp => ?_ | refine K_drwA true mixed hE fun K Kp hK hKp anc hanc => ?_ | refine K_drwA false mixed hE fun K Kp hK hKp anc hanc => ?_); simp only [go_sem, cl_cons]) | ((first | refine onG_split_t (fun hg => ?_) (fun hg => ?_) | refine onG_split_f (fun hg => ?_) (fun hg => ?_)) <;> simp only [go_sem, cl_cons, hg]) | (refine K_condA (fun hc => ?_) (fun hc => ?_) <;> try (exact absurd hc (by decide))))
  refine K_ret (hQ _ ⟨.rw 0, fun _ => 5242880, _, 1, resA_tmp (by simp only [go_sem, cl_cons]), (by simp [AV.ids, AV.idsL]), ?_, rfl, rfl⟩).1
  show Ent _ _ _ (mkSt [] [(0, .row 10 (cl (x :: l)))] 1)
  refine ent_mk (by simp [go_sem, cl_cons]) (by simp [go_sem, cl_cons]) (by simp) (by simp [hN])
theorem clone55_nc (l : List Bool) (hl : l.length ≤ 2 ^ 20) : ACall Try.prog 55 [.sl (bl l)] (fun _ => none) 0 0 (fun r hp' => r = .rw 0 ∧ hp' = mkHp [(0, .row 1 (bl l))]) (fun _ _ => False) := by
 refine ACall.of_bodyR Try.func55 isf55 rfl (by simp [Try.f55]) fun E Q hE hN hQ hQp => K_start ?_
 have hsz := szok_bl l
 have hlen : (bl l).length = l.length := bl_len l
 cases l with
 | nil =>
  repeat (first | refine K_seq ?_ | refine K_blk ?_ | refine AW_skip ?_ | refine Kq_norm_code ?_ | refine Kq_norm_blk ?_)
  refine K_regA hE fun K Kp hK hKp => ?_
  simp only [go_sem, bl_nil]
  refine hK _ ?_; clear hK hKp K Kp; try clear hanc anc
  repeat (first | refine Kq_norm_code ?_ | refine Kq_norm_blk ?_ | refine Kq_norm_lp ?_)
  repeat (first | refine K_seq ?_ | refine K_blk ?_ | refine AW_skip ?_ | refine Kq_norm_code ?_ | refine Kq_norm_blk ?_)
  refine AW_nilq Try.underlying23 (by rw [hE]; decide) (by rw [hE]; decide) (by decide) (by simp only [go_sem, bl_nil]) fun b => ?_
  cases b
  ·repeat' (first | apply nx | refine Kq_exit_ne (by decide) ?_ | rw [wrap64 (by omega) (by omega)] | ((first | refine hK _ ?_ | refine hKp _ _ ?_); clear hK hKp K Kp; try clear hanc anc) | ((with_reducible refine And.intro ?_ ?_); (focus (first | trivial | omega | (simp only [Fits]; omega) | assumption | (rw [hanc]; rfl)))) | ((first | refine K_regA hE fun K Kp hK hKp => ?_ | refine K_drwA true mixed hE fun K Kp hK hKp anc hanc => ?_ | refine K_drwA false mixed hE fun K Kp hK hKp anc hanc => ?_); simp only [go_sem, bl_nil]) | ((first | refine onG_split_t (fun hg => ?_) (fun hg => ?_) | refine onG_split_f (fun hg => ?_) (fun hg => ?_)) <;> simp only [go_sem, bl_nil, hg]) | (refine K_condA (fun hc => ?_) (fun hc => ?_) <;> try (exact absurd hc (by decide))))
   refine K_ret (hQ _ ⟨.rw 0, fun _ => 3145728, _, 1, resA_tmp (by simp only [go_sem, bl_nil]), (by simp [AV.ids, AV.idsL]), ?_, rfl, rfl⟩).1
   show Ent _ _ _ (mkSt [] [(0, .row 1 (bl []))] 1)
   refine ent_mk (by simp [go_sem, bl_nil]) (by simp [go_sem, bl_nil]) (by simp) (by simp [hN])
  ·repeat' (first | apply nx | refine Kq_exit_ne (by decide) ?_ | rw [wrap64 (by omega) (by omega)] | ((first | refine hK _ ?_ | refine hKp _ _ ?_); clear hK hKp K Kp; try clear hanc anc) | ((with_reducible refine And.intro ?_ ?_); (focus (first | trivial | omega | (simp only [Fits]; omega) | assumption | (rw [hanc]; rfl)))) | ((first | refine K_regA hE fun K Kp hK hKp => ?_ | refine K_drwA true mixed hE fun K Kp hK hKp anc hanc => ?_ | refine K_drwA false mixed hE fun K Kp hK hKp anc hanc => ?_); simp only [go_sem, bl_nil]) | ((first | refine onG_split_t (fun hg => ?_) (fun hg => ?_) | refine onG_split_f (fun hg => ?_) (fun hg => ?_)) <;> simp only [go_sem, bl_nil, hg]) | (refine K_condA (fun hc => ?_) (fun hc => ?_) <;> try (exact absurd hc (by decide))))
   refine AW_nil 2 1 (by rw [hE]; decide) (by simp only [go_sem]) ?_
   refine K_ret (hQ _ ⟨.rw 0, fun _ => 2097152, _, 1, resA_tmp (by simp only [go_sem, bl_nil]), (by simp [AV.ids, AV.idsL]), ?_, rfl, rfl⟩).1
   show Ent _ _ _ (mkSt [] [(0, .row 1 (bl []))] 1)
   refine ent_mk (by simp [go_sem, bl_nil]) (by simp [go_sem, bl_nil]) (by simp) (by simp [hN])
 | cons x l =>
  repeat' (first | apply nx | refine Kq_exit_ne (by decide) ?_ | rw [wrap64 (by omega) (by omega)] | ((first | refine hK _ ?_ | refine hKp _ _ ?_); clear hK hKp K Kp; try clear hanc anc) | ((with_reducible refine And.intro ?_ ?_); (focus (first | trivial | omega | (simp only [Fits]; omega) | assumption | (rw [hanc]; rfl)))) | ((first | refine K_regA hE fun K Kp hK hKp => ?_ | refine K_drwA true mixed hE fun K Kp hK hKp anc hanc => ?_ | refine K_drwA false mixed hE fun K Kp hK hKp anc hanc => ?_); simp only [go_sem, bl_cons]) | ((first | refine onG_split_t (fun hg => ?_) (fun hg => ?_) | refine onG_split_f (fun hg => ?_) (fun hg => ?_)) <;> simp only [go_sem, bl_cons, hg]) | (refine K_condA (fun hc => ?_) (fun hc => ?_) <;> try (exact absurd hc (by decide))))
  refine ⟨⟨hsz, (by simp only [List.length_cons] at hl; simp only [Fits]; omega)⟩, ?_⟩
  repeat' (first | apply nx | refine Kq_exit_ne (by decide) ?_ | rw [wrap64 (by omega) (by omega)] | ((first | refine hK _ ?_ | refine hKp _ _ ?_); clear hK hKp K Kp; try clear hanc anc) | ((with_reducible refine And.intro ?_ ?_); (focus (first | trivial | omega | (simp only [Fits]; omega) | assumption | (rw [hanc]; rfl)))) | ((first | refine K_regA hE fun K Kp hK hKp => ?_ | refine K_drwA true mixed hE fun K Kp hK hKp anc hanc => ?_ | refine K_drwA false mixed hE fun K Kp hK hKp anc hanc => ?_); simp only [go_sem, bl_cons]) | ((first | refine onG_split_t (fun hg => ?_) (fun hg => ?_) | refine onG_split_f (fun hg => ?_) (fun hg => ?_)) <;> simp only [go_sem, bl_cons, hg]) | (refine K_condA (fun hc => ?_) (fun hc => ?_) <;> try (exact absurd hc (by decide))))
  refine K_ret (hQ _ ⟨.rw 0, fun _ => 5242880, _, 1, resA_tmp (by simp only [go_sem, bl_cons]), (by simp [AV.ids, AV.idsL]), ?_, rfl, rfl⟩).1
  show Ent _ _ _ (mkSt [] [(0, .row 1 (bl (x :: l)))] 1)
  refine ent_mk (by simp [go_sem, bl_cons]) (by simp [go_sem, bl_cons]) (by simp) (by simp [hN])
def fT41 : Tr := .alt 0 (.alt 1 (.alt 2 (.alt 3 (.alt 4 (.alt 5 (.alt 6 (.alt 7 .leaf .nil) .nil) .nil) .nil) .nil) (.alt 3 (.alt 2 (.alt 4 (.alt 5 (.alt 6 (.alt 7 .leaf .nil) .nil) .nil) .nil) (.alt 4 (.alt 2 (.alt 5 (.alt 6 (.alt 7 .leaf .nil) .nil) .nil) .nil) .nil)) .nil)) (.alt 3 (.alt 1 (.alt 2 (.alt 4 (.alt 5 (.alt 6 (.alt 7 .leaf .nil) .nil) .nil) .nil) (.alt 4 (.alt 2 (.alt 5 (.alt 6 (.alt 7 .leaf .nil) .nil) .nil) .nil) .nil)) (.alt 4 (.alt 1 (.alt 2 (.alt 5 (.alt 6 (.alt 7 .leaf .nil) .nil) .nil) .nil) .nil) .nil)) .nil)) (.alt 3 (.alt 0 (.alt 1 (.alt 2 (.alt 4 (.alt 5 (.alt 6 (.alt 7 .leaf .nil) .nil) .nil) .nil) (.alt 4 (.alt 2 (.alt 5 (.alt 6 (.alt 7 .leaf .nil) .nil) .nil) .nil) .nil)) (.alt 4 (.alt 1 (.alt 2 (.alt 5 (.alt 6 (.alt 7 .leaf .nil) .nil) .nil) .nil) .nil) .nil)) (.alt 4 (.alt 0 (.alt 1 (.alt 2 (.alt 5 (.alt 6 (.alt 7 .leaf .nil) .nil) .nil) .nil) .nil) .nil) .nil)) .nil)
theorem clone_nc (h : Hp) (hl : h.cells.length ≤ 2 ^ 20) (ha : h.arenas.length ≤ 2 ^ 20) : ACall Try.prog 41 [h.av] (fun _ => none) 0 0 (fun r hp' => r = .agg [.rw 0, .rw 1] ∧ hp' = mkHp [(0, .row 10 (cl h.cells)), (1, .row 1 (bl h.arenas))]) (fun _ _ => False) := by
 have c1 := clone54_nc h.cells hl
 have c2 := clone55_nc h.arenas ha
 rw [Hp.av_eq]
 refine ACall.of_bodyR Try.func41 isf41 rfl (by simp [Try.f41]) fun E Q hE hN hQ hQp => K_start ?_
 repeat' (first | apply nx | refine Kq_exit_ne (by decide) ?_ | rw [wrap64 (by omega) (by omega)] | ((first | refine hK _ ?_ | refine hKp _ _ ?_); clear hK hKp K Kp; try clear hanc anc) | ((with_reducible refine And.intro ?_ ?_); (focus (first | trivial | omega | (simp only [Fits]; omega) | assumption | (rw [hanc]; rfl)))) | ((first | refine K_regA hE fun K Kp hK hKp => ?_); simp only [go_sem]) | ((first | refine onG_split_t (fun hg => ?_) (fun hg => ?_) | refine onG_split_f (fun hg => ?_) (fun hg => ?_)) <;> simp only [go_sem, hg]) | (refine K_condA (fun hc => ?_) (fun hc => ?_) <;> try (exact absurd hc (by decide))) | (refine K_ret ?_; refine (hQ _ ⟨_, by (try simp only [go_sem, ↓reduceIte, Nat.reduceEqDiff]); rfl, by simp [go_sem], ?_, by first | rfl | assumption⟩).1))
 refine K_allG (mkSt [(2, .ptr 0 0)] [(0, .cells [.rw 1, .rw 2]), (1, .row 10 (cl h.cells)), (2, .row 1 (bl h.arenas))] 3) fT41 mixed hE (fun σ m he => ?_) fun Kp hKp => ?_
 ·refine Kq_norm_code ?_
  refine AW.ent m he ?_
  refine K_ret (hQ _ ⟨.agg [.rw 0, .rw 1], fun i => i + 1, _, 2, (by simp [resA, rvA, Try.f41, go_sem]; rfl), (by simp [AV.ids, AV.idsL]), ?_, rfl, rfl⟩).1
  show Ent _ _ _ (mkSt [] [(0, .row 10 (cl h.cells)), (1, .row 1 (bl h.arenas))] 2)
  refine ent_mk (by simp [go_sem]) (by simp [go_sem]) (by simp) (by simp [hN])
 ·unfold fT41
  repeat' (first | refine goTr_one rfl ?_ | refine goTr_alt rfl ?_ ?_ | simp only [go_sem] | refine Hold.mk (CallB.newRow c1 (by simp [AV.cloL, AV.clo]) (cl_clo _) ?_) | refine Hold.mk (CallB.newRow c2 (by simp [AV.cloL, AV.clo]) (bl_clo _) ?_))
  all_goals refine ⟨fun i => if i = 0 then 1048576 else if i = 1 then 4194304 else 7340032, ?_⟩
  all_goals show Ent E.np _ _ (mkSt [(2, .ptr 0 0)] [(0, .cells [.rw 1, .rw 2]), (1, .row 10 (cl h.cells)), (2, .row 1 (bl h.arenas))] 3)
  all_goals refine ent_mk (by simp [go_sem]) (by simp [go_sem]) (by simp) (by simp [hN])

@[go_sem] theorem _root_.Go.Hv.Cl.cs_take (c : Cl) : List.take 10 c.cs = c.cs := rfl
@[go_sem] theorem _root_.Go.Hv.Vl.cs_take (c : Vl) : List.take 8 c.cs = c.cs := rfl
theorem sameV (a b : Vl) (h : a.sz < 2 ^ 40) : PCall Try.prog 16 [.agg a.cs, .agg b.cs] (.bool (decide (a = b))) := by
 have := sameV_call (2 ^ 40) a b h (Nat.le_refl _)
 rwa [Vl.av_cs, Vl.av_cs] at this
theorem Cl.eq_iff (a b : Cl) : a = b ↔ a.live = b.live ∧ a.arena = b.arena ∧ a.v = b.v := ⟨by rintro rfl; simp, fun ⟨h1, h2, h3⟩ => Cl.ext' h1 h2 h3⟩
theorem sameC_call (a b : Cl) (h : a.v.sz < 2 ^ 40) : PCall Try.prog 12 [.agg a.cs, .agg b.cs] (.bool (decide (a = b))) := by
 have h0 := sameV a.v b.v h
 have hx := Cl.eq_iff a b
 have e0 : decide (a = b) = (a.live == b.live && (a.arena == b.arena && decide (a.v = b.v))) := by
  simp only [hx]
  cases h1 : a.live == b.live <;> cases h2 : a.arena == b.arena <;> simp_all
 rw [e0]
 rw [Cl.cs_eq, Cl.cs_eq]
 refine PCall.intro Try.func12 rfl isf12 (by simp [Try.f12]) (by simp [AV.cloL, AV.clo]) fun E Q hE hN hQ => K_start ?_
 cases q1 : a.live == b.live
 ·repeat' (first | apply nx | refine Kq_exit_ne (by decide) ?_ | rw [wrap64 (by omega) (by omega)] | ((first | refine hK _ ?_ | refine hKp _ _ ?_); clear hK hKp K Kp; try clear hanc anc) | ((with_reducible refine And.intro ?_ ?_); (focus (first | trivial | omega | (simp only [Fits]; omega) | assumption | (rw [hanc]; rfl)))) | ((first | refine K_regA hE fun K Kp hK hKp => ?_ | refine K_drwA false mixed hE fun K Kp hK hKp anc hanc => ?_); simp only [go_sem, q1]) | ((first | refine onG_split_t (fun hg => ?_) (fun hg => ?_) | refine onG_split_f (fun hg => ?_) (fun hg => ?_)) <;> simp only [go_sem, q1, hg]) | (refine K_condA (fun hc => ?_) (fun hc => ?_) <;> try (exact absurd hc (by decide))) | (refine K_ret ?_; refine (hQ _ ⟨_, by (try simp only [go_sem, ↓reduceIte, Nat.reduceEqDiff]); rfl, by simp [go_sem], ?_, by first | rfl | assumption⟩).1))
  simp [AV.snap, q1]
 ·cases q2 : a.arena == b.arena
  ·repeat' (first | apply nx | refine Kq_exit_ne (by decide) ?_ | rw [wrap64 (by omega) (by omega)] | ((first | refine hK _ ?_ | refine hKp _ _ ?_); clear hK hKp K Kp; try clear hanc anc) | ((with_reducible refine And.intro ?_ ?_); (focus (first | trivial | omega | (simp only [Fits]; omega) | assumption | (rw [hanc]; rfl)))) | ((first | refine K_regA hE fun K Kp hK hKp => ?_ | refine K_drwA false mixed hE fun K Kp hK hKp anc hanc => ?_); simp only [go_sem, q1, q2]) | ((first | refine onG_split_t (fun hg => ?_) (fun hg => ?_) | refine onG_split_f (fun hg => ?_) (fun hg => ?_)) <;> simp only [go_sem, q1, q2, hg]) | (refine K_condA (fun hc => ?_) (fun hc => ?_) <;> try (exact absurd hc (by decide))) | (refine K_ret ?_; refine (hQ _ ⟨_, by (try simp only [go_sem, ↓reduceIte, Nat.reduceEqDiff]); rfl, by simp [go_sem], ?_, by first | rfl | assumption⟩).1))
   simp [AV.snap, q1, q2]
  ·repeat' (first | apply nx | refine Kq_exit_ne (by decide) ?_ | rw [wrap64 (by omega) (by omega)] | ((first | refine hK _ ?_ | refine hKp _ _ ?_); clear hK hKp K Kp; try clear hanc anc) | ((with_reducible refine And.intro ?_ ?_); (focus (first | trivial | omega | (simp only [Fits]; omega) | assumption | (rw [hanc]; rfl)))) | ((first | refine K_regA hE fun K Kp hK hKp => ?_ | refine K_drwA false mixed hE fun K Kp hK hKp anc hanc => ?_ | ((first | apply CallP_mk | apply CallB_mk); (focus (simp only [go_sem] <;> rfl)); (focus (exact h0)); (focus (first | (simp [go_sem]; done) | (simp [go_sem, CloRow, AV.cells, AV.clo]; done))); (focus (first | exact .inl rfl | (right; simp [go_sem]))))); simp only [go_sem, q1, q2]) | ((first | refine onG_split_t (fun hg => ?_) (fun hg => ?_) | refine onG_split_f (fun hg => ?_) (fun hg => ?_)) <;> simp only [go_sem, q1, q2, hg]) | (refine K_condA (fun hc => ?_) (fun hc => ?_) <;> try (exact absurd hc (by decide))) | (refine K_ret ?_; refine (hQ _ ⟨_, by (try simp only [go_sem, ↓reduceIte, Nat.reduceEqDiff]); rfl, by simp [go_sem], ?_, by first | rfl | assumption⟩).1))
   simp [AV.snap, q1, q2]
def liveN : List Cl → Nat
 | [] => 0
 | c :: l => (if c.live then 1 else 0) + liveN l
theorem liveN_le : ∀ l : List Cl, liveN l ≤ l.length
 | [] => Nat.le_refl _
 | c :: l => by have := liveN_le l; simp only [liveN, List.length_cons]; split <;> omega
theorem live_call (h : Hp) (hl : h.cells.length ≤ 2 ^ 40) : PCall Try.prog 13 [h.av] (.i (liveN h.cells)) := by
 rw [Hp.av_eq]
 refine PCall.intro Try.func13 rfl isf13 (by simp [Try.f13]) (by simp [AV.cloL, AV.clo]) fun E Q hE hN hQ => K_start ?_
 repeat' (first | apply nx | refine Kq_exit_ne (by decide) ?_ | rw [wrap64 (by omega) (by omega)] | ((first | refine hK _ ?_ | refine hKp _ _ ?_); clear hK hKp K Kp; try clear hanc anc) | ((with_reducible refine And.intro ?_ ?_); (focus (first | trivial | omega | (simp only [Fits]; omega) | assumption | (rw [hanc]; rfl)))) | ((first | refine K_regA hE fun K Kp hK hKp => ?_ | refine K_drwA false mixed hE fun K Kp hK hKp anc hanc => ?_); simp only [go_sem]) | ((first | refine onG_split_t (fun hg => ?_) (fun hg => ?_) | refine onG_split_f (fun hg => ?_) (fun hg => ?_)) <;> simp only [go_sem, hg]) | (refine K_condA (fun hc => ?_) (fun hc => ?_) <;> try (exact absurd hc (by decide))) | (refine K_ret ?_; refine (hQ _ ⟨_, by (try simp only [go_sem, ↓reduceIte, Nat.reduceEqDiff]); rfl, by simp [go_sem], ?_, by first | rfl | assumption⟩).1))
 have hle := liveN_le h.cells
 refine K_loop (X := Nat × Nat) (fun x => x.1 ≤ h.cells.length ∧ x.2 + liveN (h.cells.drop x.1) = liveN h.cells) (fun x => mkSt [(1, .ptr 0 0), (3, AV.i x.2), (4, AV.i x.1)] [(0, .cells [.sl (cl h.cells), .sl (bl h.arenas)])] 1) (fun x => h.cells.length - x.1) (0, 0) ⟨Nat.zero_le _, by simp⟩ (fun i => i) (by refine ent_mk (by simp [go_sem]) (by simp [go_sem]) (by simp) (by simp [hN])) ?_
 rintro ⟨i, n⟩ ⟨hi, ht⟩
 simp only at hi ht
 by_cases hlt : i < h.cells.length
 ·obtain ⟨c, hcc⟩ := get?_of hlt
  rw [drop_of hcc, liveN] at ht
  cases hv : c.live
  ·rw [hv] at ht
   repeat' (first | apply nx | refine Kq_exit_ne (by decide) ?_ | rw [wrap64 (by omega) (by omega)] | ((first | refine hK _ ?_ | refine hKp _ _ ?_); clear hK hKp K Kp; try clear hanc anc) | ((with_reducible refine And.intro ?_ ?_); (focus (first | trivial | omega | (simp only [Fits]; omega) | assumption | (rw [hanc]; rfl)))) | ((first | refine K_regA hE fun K Kp hK hKp => ?_ | refine K_drwA false mixed hE fun K Kp hK hKp anc hanc => ?_); simp only [go_sem, lt_dec hlt, hcc, Cl.av, Cl.cs_eq, hv]) | ((first | refine onG_split_t (fun hg => ?_) (fun hg => ?_) | refine onG_split_f (fun hg => ?_) (fun hg => ?_)) <;> simp only [go_sem, lt_dec hlt, hcc, Cl.av, Cl.cs_eq, hv, hg]) | (refine K_condA (fun hc => ?_) (fun hc => ?_) <;> try (exact absurd hc (by decide))) | (refine K_ret ?_; refine (hQ _ ⟨_, by (try simp only [go_sem, ↓reduceIte, Nat.reduceEqDiff]); rfl, by simp [go_sem], ?_, by first | rfl | assumption⟩).1))
   exact ⟨(i + 1, n), ⟨by simp only; omega, by simp only; simpa using ht⟩, by simp only; omega, fun i => i, by refine ent_mk (by simp [go_sem]) (by simp [go_sem]) (by simp) (by simp [hN])⟩
  ·rw [hv] at ht
   repeat' (first | apply nx | refine Kq_exit_ne (by decide) ?_ | rw [wrap64 (by omega) (by omega)] | ((first | refine hK _ ?_ | refine hKp _ _ ?_); clear hK hKp K Kp; try clear hanc anc) | ((with_reducible refine And.intro ?_ ?_); (focus (first | trivial | omega | (simp only [Fits]; omega) | assumption | (rw [hanc]; rfl)))) | ((first | refine K_regA hE fun K Kp hK hKp => ?_ | refine K_drwA false mixed hE fun K Kp hK hKp anc hanc => ?_); simp only [go_sem, lt_dec hlt, hcc, Cl.av, Cl.cs_eq, hv]) | ((first | refine onG_split_t (fun hg => ?_) (fun hg => ?_) | refine onG_split_f (fun hg => ?_) (fun hg => ?_)) <;> simp only [go_sem, lt_dec hlt, hcc, Cl.av, Cl.cs_eq, hv, hg]) | (refine K_condA (fun hc => ?_) (fun hc => ?_) <;> try (exact absurd hc (by decide))) | (refine K_ret ?_; refine (hQ _ ⟨_, by (try simp only [go_sem, ↓reduceIte, Nat.reduceEqDiff]); rfl, by simp [go_sem], ?_, by first | rfl | assumption⟩).1))
   exact ⟨(i + 1, n + 1), ⟨by simp only; omega, by simp only; simp only [if_true] at ht; omega⟩, by simp only; omega, fun i => i, by refine ent_mk (by simp [go_sem]) (by simp [go_sem]) (by simp) (by simp [hN])⟩
 ·obtain rfl : i = h.cells.length := by omega
  rw [List.drop_length, liveN] at ht
  repeat' (first | apply nx | refine Kq_exit_ne (by decide) ?_ | rw [wrap64 (by omega) (by omega)] | ((first | refine hK _ ?_ | refine hKp _ _ ?_); clear hK hKp K Kp; try clear hanc anc) | ((with_reducible refine And.intro ?_ ?_); (focus (first | trivial | omega | (simp only [Fits]; omega) | assumption | (rw [hanc]; rfl)))) | ((first | refine K_regA hE fun K Kp hK hKp => ?_ | refine K_drwA false mixed hE fun K Kp hK hKp anc hanc => ?_); simp only [go_sem, ge_dec]) | ((first | refine onG_split_t (fun hg => ?_) (fun hg => ?_) | refine onG_split_f (fun hg => ?_) (fun hg => ?_)) <;> simp only [go_sem, ge_dec, hg]) | (refine K_condA (fun hc => ?_) (fun hc => ?_) <;> try (exact absurd hc (by decide))) | (refine K_ret ?_; refine (hQ _ ⟨_, by (try simp only [go_sem, ↓reduceIte, Nat.reduceEqDiff]); rfl, by simp [go_sem], ?_, by first | rfl | assumption⟩).1))
  simp [AV.snap]; omega
theorem kept_call (h a : Hp) (but : Int) (hl : h.cells.length ≤ 2 ^ 20) (hz : ∀ c, c ∈ h.cells → c.v.sz < 2 ^ 40) : PCall Try.prog 14 [h.av, a.av, .i but] (.bool (decide (h.cells.length ≤ a.cells.length ∧ ∀ i : Nat, (i : Int) ≠ but → ∀ c, h.cells[i]? = some c → a.cells[i]? = some c))) := by
 rw [Hp.av_eq, Hp.av_eq]
 refine PCall.intro Try.func14 rfl isf14 (by simp [Try.f14]) (by simp [AV.cloL, AV.clo]) fun E Q hE hN hQ => K_start ?_
 by_cases hal : a.cells.length < h.cells.length
 ·repeat' (first | apply nx | refine Kq_exit_ne (by decide) ?_ | rw [wrap64 (by omega) (by omega)] | ((first | refine hK _ ?_ | refine hKp _ _ ?_); clear hK hKp K Kp; try clear hanc anc) | ((with_reducible refine And.intro ?_ ?_); (focus (first | trivial | omega | (simp only [Fits]; omega) | assumption | (rw [hanc]; rfl)))) | ((first | refine K_regA hE fun K Kp hK hKp => ?_ | refine K_drwA false mixed hE fun K Kp hK hKp anc hanc => ?_); simp only [go_sem, lt_dec hal]) | ((first | refine onG_split_t (fun hg => ?_) (fun hg => ?_) | refine onG_split_f (fun hg => ?_) (fun hg => ?_)) <;> simp only [go_sem, lt_dec hal, hg]) | (refine K_condA (fun hc => ?_) (fun hc => ?_) <;> try (exact absurd hc (by decide))) | (refine K_ret ?_; refine (hQ _ ⟨_, by (try simp only [go_sem, ↓reduceIte, Nat.reduceEqDiff]); rfl, by simp [go_sem], ?_, by first | rfl | assumption⟩).1))
  simp [AV.snap]
  omega
 ·have hal' : h.cells.length ≤ a.cells.length := by omega
  repeat' (first | apply nx | refine Kq_exit_ne (by decide) ?_ | rw [wrap64 (by omega) (by omega)] | ((first | refine hK _ ?_ | refine hKp _ _ ?_); clear hK hKp K Kp; try clear hanc anc) | ((with_reducible refine And.intro ?_ ?_); (focus (first | trivial | omega | (simp only [Fits]; omega) | assumption | (rw [hanc]; rfl)))) | ((first | refine K_regA hE fun K Kp hK hKp => ?_ | refine K_drwA false mixed hE fun K Kp hK hKp anc hanc => ?_); simp only [go_sem, show decide ((a.cells.length : Int) < (h.cells.length : Int)) = false by simpa using hal']) | ((first | refine onG_split_t (fun hg => ?_) (fun hg => ?_) | refine onG_split_f (fun hg => ?_) (fun hg => ?_)) <;> simp only [go_sem, show decide ((a.cells.length : Int) < (h.cells.length : Int)) = false by simpa using hal', hg]) | (refine K_condA (fun hc => ?_) (fun hc => ?_) <;> try (exact absurd hc (by decide))) | (refine K_ret ?_; refine (hQ _ ⟨_, by (try simp only [go_sem, ↓reduceIte, Nat.reduceEqDiff]); rfl, by simp [go_sem], ?_, by first | rfl | assumption⟩).1))
  refine K_loop (X := Nat) (fun i => i ≤ h.cells.length ∧ ∀ j : Nat, j < i → (j : Int) ≠ but → ∀ c, h.cells[j]? = some c → a.cells[j]? = some c) (fun i => mkSt [(2, AV.i but), (3, .ptr 0 0), (4, .ptr 1 0), (7, AV.i i)] [(0, .cells [.sl (cl h.cells), .sl (bl h.arenas)]), (1, .cells [.sl (cl a.cells), .sl (bl a.arenas)])] 2) (fun i => h.cells.length - i) 0 ⟨Nat.zero_le _, fun j hj => absurd hj (Nat.not_lt_zero _)⟩ (fun i => if i = 0 then 0 else 1048576) (by refine ent_mk (by simp [go_sem]) (by simp [go_sem]) (by simp) (by simp [hN])) ?_
  rintro i ⟨hi, ht⟩
  by_cases hlt : i < h.cells.length
  ·obtain ⟨x, hx⟩ := get?_of hlt
   obtain ⟨y, hy⟩ := get?_of (show i < a.cells.length by omega)
   have hc0 := sameC_call x y (hz x (List.mem_of_getElem? hx))
   by_cases hb : (i : Int) = but
   ·have q1 : ((i : Int) != but) = false := by simp [hb]
    repeat' (first | apply nx | refine Kq_exit_ne (by decide) ?_ | rw [wrap64 (by omega) (by omega)] | ((first | refine hK _ ?_ | refine hKp _ _ ?_); clear hK hKp K Kp; try clear hanc anc) | ((with_reducible refine And.intro ?_ ?_); (focus (first | trivial | omega | (simp only [Fits]; omega) | assumption | (rw [hanc]; rfl)))) | ((first | refine K_regA hE fun K Kp hK hKp => ?_ | refine K_drwA false mixed hE fun K Kp hK hKp anc hanc => ?_); simp only [go_sem, lt_dec hlt, q1]) | ((first | refine onG_split_t (fun hg => ?_) (fun hg => ?_) | refine onG_split_f (fun hg => ?_) (fun hg => ?_)) <;> simp only [go_sem, lt_dec hlt, q1, hg]) | (refine K_condA (fun hc => ?_) (fun hc => ?_) <;> try (exact absurd hc (by decide))) | (refine K_ret ?_; refine (hQ _ ⟨_, by (try simp only [go_sem, ↓reduceIte, Nat.reduceEqDiff]); rfl, by simp [go_sem], ?_, by first | rfl | assumption⟩).1))
    refine ⟨i + 1, ⟨by omega, fun j hj hjb c hc => ?_⟩, by omega, fun i => i, by refine ent_mk (by simp [go_sem]) (by simp [go_sem]) (by simp) (by simp [hN])⟩
    by_cases e : j = i
    ·subst e; exact absurd hb hjb
    ·exact ht j (by omega) hjb c hc
   ·have q1 : ((i : Int) != but) = true := by simp [hb]
    by_cases hxy : x = y
    ·rw [decide_eq_true hxy] at hc0
     repeat' (first | apply nx | refine Kq_exit_ne (by decide) ?_ | rw [wrap64 (by omega) (by omega)] | ((first | refine hK _ ?_ | refine hKp _ _ ?_); clear hK hKp K Kp; try clear hanc anc) | ((with_reducible refine And.intro ?_ ?_); (focus (first | trivial | omega | (simp only [Fits]; omega) | assumption | (rw [hanc]; rfl)))) | ((first | refine K_regA hE fun K Kp hK hKp => ?_ | refine K_drwA false mixed hE fun K Kp hK hKp anc hanc => ?_ | ((first | apply CallP_mk | apply CallB_mk); (focus (simp only [go_sem] <;> rfl)); (focus (exact hc0)); (focus (first | (simp [go_sem]; done) | (simp [go_sem, CloRow, AV.cells, AV.clo]; done))); (focus (first | exact .inl rfl | (right; simp [go_sem]))))); simp only [go_sem, lt_dec hlt, q1, hx, hy, Cl.av, Cl.cs_eq]) | ((first | refine onG_split_t (fun hg => ?_) (fun hg => ?_) | refine onG_split_f (fun hg => ?_) (fun hg => ?_)) <;> simp only [go_sem, lt_dec hlt, q1, hx, hy, Cl.av, Cl.cs_eq, hg]) | (refine K_condA (fun hc => ?_) (fun hc => ?_) <;> try (exact absurd hc (by decide))) | (refine K_ret ?_; refine (hQ _ ⟨_, by (try simp only [go_sem, ↓reduceIte, Nat.reduceEqDiff]); rfl, by simp [go_sem], ?_, by first | rfl | assumption⟩).1))
     refine ⟨i + 1, ⟨by omega, fun j hj hjb c hc => ?_⟩, by omega, fun i => i, by refine ent_mk (by simp [go_sem]) (by simp [go_sem]) (by simp) (by simp [hN])⟩
     by_cases e : j = i
     ·subst e; rw [hx] at hc; cases hc; rw [hy, hxy]
     ·exact ht j (by omega) hjb c hc
    ·rw [decide_eq_false hxy] at hc0
     repeat' (first | apply nx | refine Kq_exit_ne (by decide) ?_ | rw [wrap64 (by omega) (by omega)] | ((first | refine hK _ ?_ | refine hKp _ _ ?_); clear hK hKp K Kp; try clear hanc anc) | ((with_reducible refine And.intro ?_ ?_); (focus (first | trivial | omega | (simp only [Fits]; omega) | assumption | (rw [hanc]; rfl)))) | ((first | refine K_regA hE fun K Kp hK hKp => ?_ | refine K_drwA false mixed hE fun K Kp hK hKp anc hanc => ?_ | ((first | apply CallP_mk | apply CallB_mk); (focus (simp only [go_sem] <;> rfl)); (focus (exact hc0)); (focus (first | (simp [go_sem]; done) | (simp [go_sem, CloRow, AV.cells, AV.clo]; done))); (focus (first | exact .inl rfl | (right; simp [go_sem]))))); simp only [go_sem, lt_dec hlt, q1, hx, hy, Cl.av, Cl.cs_eq]) | ((first | refine onG_split_t (fun hg => ?_) (fun hg => ?_) | refine onG_split_f (fun hg => ?_) (fun hg => ?_)) <;> simp only [go_sem, lt_dec hlt, q1, hx, hy, Cl.av, Cl.cs_eq, hg]) | (refine K_condA (fun hc => ?_) (fun hc => ?_) <;> try (exact absurd hc (by decide))) | (refine K_ret ?_; refine (hQ _ ⟨_, by (try simp only [go_sem, ↓reduceIte, Nat.reduceEqDiff]); rfl, by simp [go_sem], ?_, by first | rfl | assumption⟩).1))
     simp only [AV.snap, AV.bool.injEq, Bool.false_eq, decide_eq_false_iff_not, false_eq_decide_iff]
     rintro ⟨_, h2⟩
     have := h2 i hb x hx
     rw [hy] at this
     exact hxy (Option.some.inj this).symm
  ·obtain rfl : i = h.cells.length := by omega
   repeat' (first | apply nx | refine Kq_exit_ne (by decide) ?_ | rw [wrap64 (by omega) (by omega)] | ((first | refine hK _ ?_ | refine hKp _ _ ?_); clear hK hKp K Kp; try clear hanc anc) | ((with_reducible refine And.intro ?_ ?_); (focus (first | trivial | omega | (simp only [Fits]; omega) | assumption | (rw [hanc]; rfl)))) | ((first | refine K_regA hE fun K Kp hK hKp => ?_ | refine K_drwA false mixed hE fun K Kp hK hKp anc hanc => ?_); simp only [go_sem, ge_dec]) | ((first | refine onG_split_t (fun hg => ?_) (fun hg => ?_) | refine onG_split_f (fun hg => ?_) (fun hg => ?_)) <;> simp only [go_sem, ge_dec, hg]) | (refine K_condA (fun hc => ?_) (fun hc => ?_) <;> try (exact absurd hc (by decide))) | (refine K_ret ?_; refine (hQ _ ⟨_, by (try simp only [go_sem, ↓reduceIte, Nat.reduceEqDiff]); rfl, by simp [go_sem], ?_, by first | rfl | assumption⟩).1))
   simp only [AV.snap, AV.bool.injEq, Bool.true_eq, decide_eq_true_eq, true_eq_decide_iff]
   exact ⟨hal', fun j hj c hc => ht j (List.getElem?_eq_some_iff.1 hc).1 hj c hc⟩
end Go.Proofs.Ytdgmjbgjahmoaaa
