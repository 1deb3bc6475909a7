/- A part of the proof: an abstract machine for the walks, and what the walked functions compute. -/
import Derived.Test.YtakpabiefjlmaaaProg
import Derived.KernelRfl
import Derived.Test.YtakpabiefjlmaaaMe
import Derived.Test.YtakpabiefjlmaaaMj
set_option linter.unusedVariables false
set_option linter.unusedSimpArgs false
/- The types of the program, as the abstract machine asks for them; which numbers are Go functions with a body. -/
set_option maxRecDepth 100000
namespace Go.Proofs.Ytakpabiefjlmaaa
open Go.Am
theorem ti0 : ti Try.prog 0 = some ⟨TK.other, 1, 0, none⟩ := by kernel_rfl
theorem ti1 : ti Try.prog 1 = some ⟨TK.func, 1, 8, some [AV.nilfn]⟩ := by kernel_rfl
theorem ti2 : ti Try.prog 2 = some ⟨TK.int IntKind.i64, 1, 8, some [AV.int IntKind.i64 (0)]⟩ := by kernel_rfl
theorem ti3 : ti Try.prog 3 = some ⟨TK.int IntKind.i64, 1, 8, some [AV.int IntKind.i64 (0)]⟩ := by kernel_rfl
theorem ti4 : ti Try.prog 4 = some ⟨TK.bool, 1, 1, some [AV.bool false]⟩ := by kernel_rfl
theorem ti5 : ti Try.prog 5 = some ⟨TK.int IntKind.u8, 1, 1, some [AV.int IntKind.u8 (0)]⟩ := by kernel_rfl
theorem ti6 : ti Try.prog 6 = some ⟨TK.int IntKind.u8, 1, 1, some [AV.int IntKind.u8 (0)]⟩ := by kernel_rfl
theorem ti7 : ti Try.prog 7 = some ⟨TK.struct [(2, 0), (3, 1), (4, 2), (6, 3)], 4, 24, some [AV.int IntKind.i64 (0), AV.int IntKind.i64 (0), AV.bool false, AV.int IntKind.u8 (0)]⟩ := by kernel_rfl
theorem ti8 : ti Try.prog 8 = some ⟨TK.struct [(2, 0), (3, 1), (4, 2), (6, 3)], 4, 24, some [AV.int IntKind.i64 (0), AV.int IntKind.i64 (0), AV.bool false, AV.int IntKind.u8 (0)]⟩ := by kernel_rfl
theorem ti9 : ti Try.prog 9 = some ⟨TK.str, 1, 16, some [AV.str ⟨#[]⟩]⟩ := by kernel_rfl
theorem ti10 : ti Try.prog 10 = some ⟨TK.str, 1, 16, some [AV.str ⟨#[]⟩]⟩ := by kernel_rfl
theorem ti11 : ti Try.prog 11 = some ⟨TK.str, 1, 16, some [AV.str ⟨#[]⟩]⟩ := by kernel_rfl
theorem ti12 : ti Try.prog 12 = some ⟨TK.int IntKind.u64, 1, 8, some [AV.int IntKind.u64 (0)]⟩ := by kernel_rfl
theorem ti13 : ti Try.prog 13 = some ⟨TK.struct [(9, 0), (12, 1)], 2, 24, some [AV.str ⟨#[]⟩, AV.int IntKind.u64 (0)]⟩ := by kernel_rfl
theorem ti14 : ti Try.prog 14 = some ⟨TK.struct [(9, 0), (12, 1)], 2, 24, some [AV.str ⟨#[]⟩, AV.int IntKind.u64 (0)]⟩ := by kernel_rfl
theorem ti15 : ti Try.prog 15 = some ⟨TK.ptr, 1, 8, some [AV.nilp]⟩ := by kernel_rfl
theorem ti16 : ti Try.prog 16 = some ⟨TK.ptr, 1, 8, some [AV.nilp]⟩ := by kernel_rfl
theorem ti17 : ti Try.prog 17 = some ⟨TK.ptr, 1, 8, some [AV.nilp]⟩ := by kernel_rfl
theorem ti18 : ti Try.prog 18 = some ⟨TK.struct [(17, 0)], 1, 8, some [AV.nilp]⟩ := by kernel_rfl
theorem ti19 : ti Try.prog 19 = some ⟨TK.struct [(17, 0)], 1, 8, some [AV.nilp]⟩ := by kernel_rfl
theorem ti20 : ti Try.prog 20 = some ⟨TK.iface, 1, 16, some [AV.nilif]⟩ := by kernel_rfl
theorem ti21 : ti Try.prog 21 = some ⟨TK.int IntKind.i32, 1, 4, some [AV.int IntKind.i32 (0)]⟩ := by kernel_rfl
theorem ti22 : ti Try.prog 22 = some ⟨TK.slice 25, 1, 24, some [AV.nilsl]⟩ := by kernel_rfl
theorem ti23 : ti Try.prog 23 = some ⟨TK.func, 1, 8, some [AV.nilfn]⟩ := by kernel_rfl
theorem ti24 : ti Try.prog 24 = some ⟨TK.func, 1, 8, some [AV.nilfn]⟩ := by kernel_rfl
theorem ti25 : ti Try.prog 25 = some ⟨TK.slice 3, 1, 24, some [AV.nilsl]⟩ := by kernel_rfl
theorem ti26 : ti Try.prog 26 = some ⟨TK.int IntKind.i64, 1, 8, some [AV.int IntKind.i64 (0)]⟩ := by kernel_rfl
theorem ti27 : ti Try.prog 27 = some ⟨TK.other, 1, 0, none⟩ := by kernel_rfl
theorem ti28 : ti Try.prog 28 = some ⟨TK.func, 1, 8, some [AV.nilfn]⟩ := by kernel_rfl
theorem ti29 : ti Try.prog 29 = some ⟨TK.func, 1, 8, some [AV.nilfn]⟩ := by kernel_rfl
theorem ti30 : ti Try.prog 30 = some ⟨TK.func, 1, 8, some [AV.nilfn]⟩ := by kernel_rfl
theorem ti31 : ti Try.prog 31 = some ⟨TK.func, 1, 8, some [AV.nilfn]⟩ := by kernel_rfl
theorem ti32 : ti Try.prog 32 = some ⟨TK.func, 1, 8, some [AV.nilfn]⟩ := by kernel_rfl
theorem ti33 : ti Try.prog 33 = some ⟨TK.slice 4, 1, 24, some [AV.nilsl]⟩ := by kernel_rfl
theorem ti34 : ti Try.prog 34 = some ⟨TK.func, 1, 8, some [AV.nilfn]⟩ := by kernel_rfl
theorem ti35 : ti Try.prog 35 = some ⟨TK.func, 1, 8, some [AV.nilfn]⟩ := by kernel_rfl
theorem ti36 : ti Try.prog 36 = some ⟨TK.func, 1, 8, some [AV.nilfn]⟩ := by kernel_rfl
theorem ti37 : ti Try.prog 37 = some ⟨TK.func, 1, 8, some [AV.nilfn]⟩ := by kernel_rfl
theorem ti38 : ti Try.prog 38 = some ⟨TK.func, 1, 8, some [AV.nilfn]⟩ := by kernel_rfl
theorem ti39 : ti Try.prog 39 = some ⟨TK.func, 1, 8, some [AV.nilfn]⟩ := by kernel_rfl
theorem ti40 : ti Try.prog 40 = some ⟨TK.func, 1, 8, some [AV.nilfn]⟩ := by kernel_rfl
theorem ti41 : ti Try.prog 41 = some ⟨TK.map 3 4, 1, 8, some [AV.nilmap]⟩ := by kernel_rfl
theorem ti42 : ti Try.prog 42 = some ⟨TK.func, 1, 8, some [AV.nilfn]⟩ := by kernel_rfl
theorem ti43 : ti Try.prog 43 = some ⟨TK.func, 1, 8, some [AV.nilfn]⟩ := by kernel_rfl
theorem ti44 : ti Try.prog 44 = some ⟨TK.func, 1, 8, some [AV.nilfn]⟩ := by kernel_rfl
theorem ti45 : ti Try.prog 45 = some ⟨TK.func, 1, 8, some [AV.nilfn]⟩ := by kernel_rfl
theorem ti46 : ti Try.prog 46 = some ⟨TK.slice 33, 1, 24, some [AV.nilsl]⟩ := by kernel_rfl
theorem ti47 : ti Try.prog 47 = some ⟨TK.func, 1, 8, some [AV.nilfn]⟩ := by kernel_rfl
theorem ti48 : ti Try.prog 48 = some ⟨TK.func, 1, 8, some [AV.nilfn]⟩ := by kernel_rfl
theorem ti49 : ti Try.prog 49 = some ⟨TK.func, 1, 8, some [AV.nilfn]⟩ := by kernel_rfl
theorem ti50 : ti Try.prog 50 = some ⟨TK.map 3 3, 1, 8, some [AV.nilmap]⟩ := by kernel_rfl
theorem ti51 : ti Try.prog 51 = some ⟨TK.func, 1, 8, some [AV.nilfn]⟩ := by kernel_rfl
theorem ti52 : ti Try.prog 52 = some ⟨TK.func, 1, 8, some [AV.nilfn]⟩ := by kernel_rfl
theorem ti53 : ti Try.prog 53 = some ⟨TK.func, 1, 8, some [AV.nilfn]⟩ := by kernel_rfl
theorem ti54 : ti Try.prog 54 = some ⟨TK.func, 1, 8, some [AV.nilfn]⟩ := by kernel_rfl
theorem ti55 : ti Try.prog 55 = some ⟨TK.func, 1, 8, some [AV.nilfn]⟩ := by kernel_rfl
theorem ti56 : ti Try.prog 56 = some ⟨TK.int IntKind.u64, 1, 8, some [AV.int IntKind.u64 (0)]⟩ := by kernel_rfl
theorem ti57 : ti Try.prog 57 = some ⟨TK.func, 1, 8, some [AV.nilfn]⟩ := by kernel_rfl
theorem ti58 : ti Try.prog 58 = some ⟨TK.func, 1, 8, some [AV.nilfn]⟩ := by kernel_rfl
theorem ti59 : ti Try.prog 59 = some ⟨TK.int IntKind.i64, 1, 8, some [AV.int IntKind.i64 (0)]⟩ := by kernel_rfl
theorem ti60 : ti Try.prog 60 = some ⟨TK.other, 1, 0, none⟩ := by kernel_rfl
theorem ti61 : ti Try.prog 61 = some ⟨TK.func, 1, 8, some [AV.nilfn]⟩ := by kernel_rfl
theorem ti62 : ti Try.prog 62 = some ⟨TK.func, 1, 8, some [AV.nilfn]⟩ := by kernel_rfl
theorem ti63 : ti Try.prog 63 = some ⟨TK.func, 1, 8, some [AV.nilfn]⟩ := by kernel_rfl
theorem ti64 : ti Try.prog 64 = some ⟨TK.func, 1, 8, some [AV.nilfn]⟩ := by kernel_rfl
theorem ti65 : ti Try.prog 65 = some ⟨TK.other, 1, 0, none⟩ := by kernel_rfl
theorem ti66 : ti Try.prog 66 = some ⟨TK.func, 1, 8, some [AV.nilfn]⟩ := by kernel_rfl
theorem ti67 : ti Try.prog 67 = some ⟨TK.func, 1, 8, some [AV.nilfn]⟩ := by kernel_rfl
theorem ti68 : ti Try.prog 68 = some ⟨TK.int IntKind.u32, 1, 4, some [AV.int IntKind.u32 (0)]⟩ := by kernel_rfl
theorem ti69 : ti Try.prog 69 = some ⟨TK.func, 1, 8, some [AV.nilfn]⟩ := by kernel_rfl
theorem ti70 : ti Try.prog 70 = some ⟨TK.int IntKind.u64, 1, 8, some [AV.int IntKind.u64 (0)]⟩ := by kernel_rfl
theorem ti71 : ti Try.prog 71 = some ⟨TK.int IntKind.u64, 1, 8, some [AV.int IntKind.u64 (0)]⟩ := by kernel_rfl
theorem ti72 : ti Try.prog 72 = some ⟨TK.func, 1, 8, some [AV.nilfn]⟩ := by kernel_rfl
theorem ti73 : ti Try.prog 73 = some ⟨TK.func, 1, 8, some [AV.nilfn]⟩ := by kernel_rfl
theorem ti74 : ti Try.prog 74 = some ⟨TK.func, 1, 8, some [AV.nilfn]⟩ := by kernel_rfl
theorem ti75 : ti Try.prog 75 = some ⟨TK.ptr, 1, 8, some [AV.nilp]⟩ := by kernel_rfl
theorem ti76 : ti Try.prog 76 = some ⟨TK.func, 1, 8, some [AV.nilfn]⟩ := by kernel_rfl
theorem ti77 : ti Try.prog 77 = some ⟨TK.ptr, 1, 8, some [AV.nilp]⟩ := by kernel_rfl
theorem ti78 : ti Try.prog 78 = some ⟨TK.other, 1, 0, none⟩ := by kernel_rfl
theorem ti79 : ti Try.prog 79 = some ⟨TK.func, 1, 8, some [AV.nilfn]⟩ := by kernel_rfl
theorem ti80 : ti Try.prog 80 = some ⟨TK.func, 1, 8, some [AV.nilfn]⟩ := by kernel_rfl
theorem ti81 : ti Try.prog 81 = some ⟨TK.struct [(17, 0), (17, 1), (17, 2), (9, 3)], 4, 40, some [AV.nilp, AV.nilp, AV.nilp, AV.str ⟨#[]⟩]⟩ := by kernel_rfl
theorem ti82 : ti Try.prog 82 = some ⟨TK.struct [(17, 0), (17, 1), (17, 2), (9, 3)], 4, 40, some [AV.nilp, AV.nilp, AV.nilp, AV.str ⟨#[]⟩]⟩ := by kernel_rfl
theorem ti83 : ti Try.prog 83 = some ⟨TK.array 0 16, 0, 0, some []⟩ := by kernel_rfl
theorem ti84 : ti Try.prog 84 = some ⟨TK.struct [(83, 0)], 0, 0, some []⟩ := by kernel_rfl
theorem ti85 : ti Try.prog 85 = some ⟨TK.struct [(83, 0)], 0, 0, some []⟩ := by kernel_rfl
theorem ti86 : ti Try.prog 86 = some ⟨TK.func, 1, 8, some [AV.nilfn]⟩ := by kernel_rfl
theorem ti87 : ti Try.prog 87 = some ⟨TK.int IntKind.u8, 1, 1, some [AV.int IntKind.u8 (0)]⟩ := by kernel_rfl
theorem ti88 : ti Try.prog 88 = some ⟨TK.int IntKind.u8, 1, 1, some [AV.int IntKind.u8 (0)]⟩ := by kernel_rfl
theorem ti89 : ti Try.prog 89 = some ⟨TK.func, 1, 8, some [AV.nilfn]⟩ := by kernel_rfl
theorem ti90 : ti Try.prog 90 = some ⟨TK.ptr, 1, 8, some [AV.nilp]⟩ := by kernel_rfl
theorem ti91 : ti Try.prog 91 = some ⟨TK.int IntKind.i32, 1, 4, some [AV.int IntKind.i32 (0)]⟩ := by kernel_rfl
theorem ti92 : ti Try.prog 92 = some ⟨TK.int IntKind.i32, 1, 4, some [AV.int IntKind.i32 (0)]⟩ := by kernel_rfl
theorem ti93 : ti Try.prog 93 = some ⟨TK.struct [(12, 0), (12, 1), (68, 2), (87, 3), (5, 4), (5, 5), (88, 6), (89, 7), (90, 8), (91, 9), (92, 10)], 11, 48, some [AV.int IntKind.u64 (0), AV.int IntKind.u64 (0), AV.int IntKind.u32 (0), AV.int IntKind.u8 (0), AV.int IntKind.u8 (0), AV.int IntKind.u8 (0), AV.int IntKind.u8 (0), AV.nilfn, AV.nilp, AV.int IntKind.i32 (0), AV.int IntKind.i32 (0)]⟩ := by kernel_rfl
theorem ti94 : ti Try.prog 94 = some ⟨TK.struct [(12, 0), (12, 1), (68, 2), (87, 3), (5, 4), (5, 5), (88, 6), (89, 7), (90, 8), (91, 9), (92, 10)], 11, 48, some [AV.int IntKind.u64 (0), AV.int IntKind.u64 (0), AV.int IntKind.u32 (0), AV.int IntKind.u8 (0), AV.int IntKind.u8 (0), AV.int IntKind.u8 (0), AV.int IntKind.u8 (0), AV.nilfn, AV.nilp, AV.int IntKind.i32 (0), AV.int IntKind.i32 (0)]⟩ := by kernel_rfl
theorem ti95 : ti Try.prog 95 = some ⟨TK.other, 1, 8, some [AV.nilp]⟩ := by kernel_rfl
theorem zv3 : zv Try.prog 3 = some (AV.int IntKind.i64 (0)) := by kernel_rfl
theorem zv4 : zv Try.prog 4 = some (AV.bool false) := by kernel_rfl
theorem fl7_0 : flT Try.prog 7 0 = some 0 := by kernel_rfl
theorem fl7_1 : flT Try.prog 7 1 = some 1 := by kernel_rfl
theorem fl7_2 : flT Try.prog 7 2 = some 2 := by kernel_rfl
theorem fl7_3 : flT Try.prog 7 3 = some 3 := by kernel_rfl
theorem fl8_0 : flT Try.prog 8 0 = some 0 := by kernel_rfl
theorem fl8_1 : flT Try.prog 8 1 = some 1 := by kernel_rfl
theorem fl8_2 : flT Try.prog 8 2 = some 2 := by kernel_rfl
theorem fl8_3 : flT Try.prog 8 3 = some 3 := by kernel_rfl
theorem fl13_0 : flT Try.prog 13 0 = some 0 := by kernel_rfl
theorem fl13_1 : flT Try.prog 13 1 = some 1 := by kernel_rfl
theorem fl14_0 : flT Try.prog 14 0 = some 0 := by kernel_rfl
theorem fl14_1 : flT Try.prog 14 1 = some 1 := by kernel_rfl
theorem fl18_0 : flT Try.prog 18 0 = some 0 := by kernel_rfl
theorem fl19_0 : flT Try.prog 19 0 = some 0 := by kernel_rfl
theorem el22 : elT Try.prog 22 = some 1 := by kernel_rfl
theorem el25 : elT Try.prog 25 = some 1 := by kernel_rfl
theorem el33 : elT Try.prog 33 = some 1 := by kernel_rfl
theorem mp41 : mpT Try.prog 41 = some 4 := by kernel_rfl
theorem mz41 : mpZ Try.prog 41 = some (AV.bool false) := by kernel_rfl
theorem el46 : elT Try.prog 46 = some 1 := by kernel_rfl
theorem mp50 : mpT Try.prog 50 = some 3 := by kernel_rfl
theorem mz50 : mpZ Try.prog 50 = some (AV.int IntKind.i64 (0)) := by kernel_rfl
theorem fl81_0 : flT Try.prog 81 0 = some 0 := by kernel_rfl
theorem fl81_1 : flT Try.prog 81 1 = some 1 := by kernel_rfl
theorem fl81_2 : flT Try.prog 81 2 = some 2 := by kernel_rfl
theorem fl81_3 : flT Try.prog 81 3 = some 3 := by kernel_rfl
theorem fl82_0 : flT Try.prog 82 0 = some 0 := by kernel_rfl
theorem fl82_1 : flT Try.prog 82 1 = some 1 := by kernel_rfl
theorem fl82_2 : flT Try.prog 82 2 = some 2 := by kernel_rfl
theorem fl82_3 : flT Try.prog 82 3 = some 3 := by kernel_rfl
theorem fl93_0 : flT Try.prog 93 0 = some 0 := by kernel_rfl
theorem fl93_1 : flT Try.prog 93 1 = some 1 := by kernel_rfl
theorem fl93_2 : flT Try.prog 93 2 = some 2 := by kernel_rfl
theorem fl93_3 : flT Try.prog 93 3 = some 3 := by kernel_rfl
theorem fl93_4 : flT Try.prog 93 4 = some 4 := by kernel_rfl
theorem fl93_5 : flT Try.prog 93 5 = some 5 := by kernel_rfl
theorem fl93_6 : flT Try.prog 93 6 = some 6 := by kernel_rfl
theorem fl93_7 : flT Try.prog 93 7 = some 7 := by kernel_rfl
theorem fl93_8 : flT Try.prog 93 8 = some 8 := by kernel_rfl
theorem fl93_9 : flT Try.prog 93 9 = some 9 := by kernel_rfl
theorem fl93_10 : flT Try.prog 93 10 = some 10 := by kernel_rfl
theorem fl94_0 : flT Try.prog 94 0 = some 0 := by kernel_rfl
theorem fl94_1 : flT Try.prog 94 1 = some 1 := by kernel_rfl
theorem fl94_2 : flT Try.prog 94 2 = some 2 := by kernel_rfl
theorem fl94_3 : flT Try.prog 94 3 = some 3 := by kernel_rfl
theorem fl94_4 : flT Try.prog 94 4 = some 4 := by kernel_rfl
theorem fl94_5 : flT Try.prog 94 5 = some 5 := by kernel_rfl
theorem fl94_6 : flT Try.prog 94 6 = some 6 := by kernel_rfl
theorem fl94_7 : flT Try.prog 94 7 = some 7 := by kernel_rfl
theorem fl94_8 : flT Try.prog 94 8 = some 8 := by kernel_rfl
theorem fl94_9 : flT Try.prog 94 9 = some 9 := by kernel_rfl
theorem fl94_10 : flT Try.prog 94 10 = some 10 := by kernel_rfl
theorem isf2 : isFn Try.prog 2 = true := by kernel_rfl
theorem isf3 : isFn Try.prog 3 = true := by kernel_rfl
theorem isf4 : isFn Try.prog 4 = true := by kernel_rfl
theorem isf5 : isFn Try.prog 5 = true := by kernel_rfl
theorem isf6 : isFn Try.prog 6 = true := by kernel_rfl
theorem isf7 : isFn Try.prog 7 = true := by kernel_rfl
theorem isf8 : isFn Try.prog 8 = true := by kernel_rfl
theorem isf9 : isFn Try.prog 9 = true := by kernel_rfl
theorem isf10 : isFn Try.prog 10 = true := by kernel_rfl
theorem isf11 : isFn Try.prog 11 = true := by kernel_rfl
theorem isf12 : isFn Try.prog 12 = true := by kernel_rfl
theorem isf13 : isFn Try.prog 13 = true := by kernel_rfl
theorem isf14 : isFn Try.prog 14 = true := by kernel_rfl
theorem isf15 : isFn Try.prog 15 = true := by kernel_rfl
theorem isf16 : isFn Try.prog 16 = true := by kernel_rfl
theorem isf17 : isFn Try.prog 17 = true := by kernel_rfl
theorem isf18 : isFn Try.prog 18 = true := by kernel_rfl
theorem isf19 : isFn Try.prog 19 = true := by kernel_rfl
theorem isf20 : isFn Try.prog 20 = true := by kernel_rfl
theorem isf21 : isFn Try.prog 21 = true := by kernel_rfl
theorem isf22 : isFn Try.prog 22 = true := by kernel_rfl
theorem isf23 : isFn Try.prog 23 = true := by kernel_rfl
theorem isf24 : isFn Try.prog 24 = true := by kernel_rfl
theorem isf25 : isFn Try.prog 25 = true := by kernel_rfl
theorem isf26 : isFn Try.prog 26 = true := by kernel_rfl
theorem isf27 : isFn Try.prog 27 = true := by kernel_rfl
theorem isf28 : isFn Try.prog 28 = true := by kernel_rfl
theorem isf29 : isFn Try.prog 29 = true := by kernel_rfl
theorem isf30 : isFn Try.prog 30 = true := by kernel_rfl
theorem isf31 : isFn Try.prog 31 = true := by kernel_rfl
theorem isf32 : isFn Try.prog 32 = true := by kernel_rfl
theorem isf33 : isFn Try.prog 33 = true := by kernel_rfl
theorem isf34 : isFn Try.prog 34 = true := by kernel_rfl
theorem isf35 : isFn Try.prog 35 = true := by kernel_rfl
theorem isf36 : isFn Try.prog 36 = true := by kernel_rfl
theorem isf37 : isFn Try.prog 37 = true := by kernel_rfl
theorem isf38 : isFn Try.prog 38 = true := by kernel_rfl
theorem isf39 : isFn Try.prog 39 = true := by kernel_rfl
theorem isf40 : isFn Try.prog 40 = true := by kernel_rfl
theorem isf41 : isFn Try.prog 41 = true := by kernel_rfl
theorem isf42 : isFn Try.prog 42 = true := by kernel_rfl
theorem isf43 : isFn Try.prog 43 = true := by kernel_rfl
theorem isf44 : isFn Try.prog 44 = true := by kernel_rfl
theorem isf45 : isFn Try.prog 45 = true := by kernel_rfl
theorem isf46 : isFn Try.prog 46 = true := by kernel_rfl
theorem isf47 : isFn Try.prog 47 = true := by kernel_rfl
theorem isf48 : isFn Try.prog 48 = true := by kernel_rfl
theorem isf49 : isFn Try.prog 49 = true := by kernel_rfl
theorem isf50 : isFn Try.prog 50 = true := by kernel_rfl
theorem isf51 : isFn Try.prog 51 = true := by kernel_rfl
theorem isf52 : isFn Try.prog 52 = true := by kernel_rfl
theorem isf53 : isFn Try.prog 53 = true := by kernel_rfl
theorem isf54 : isFn Try.prog 54 = true := by kernel_rfl
theorem isf55 : isFn Try.prog 55 = true := by kernel_rfl
theorem isf56 : isFn Try.prog 56 = true := by kernel_rfl
theorem isf57 : isFn Try.prog 57 = true := by kernel_rfl
theorem isf58 : isFn Try.prog 58 = true := by kernel_rfl
theorem isf59 : isFn Try.prog 59 = true := by kernel_rfl
theorem mixed : Try.prog.follows .mixedOrders = true := by kernel_rfl
attribute [go_sem] ti0 ti1 ti2 ti3 ti4 ti5 ti6 ti7 ti8 ti9 ti10 ti11 ti12 ti13 ti14 ti15 ti16 ti17 ti18 ti19 ti20 ti21 ti22 ti23 ti24 ti25 ti26 ti27 ti28 ti29 ti30 ti31 ti32 ti33 ti34 ti35 ti36 ti37 ti38 ti39 ti40 ti41 ti42 ti43 ti44 ti45 ti46 ti47 ti48 ti49 ti50 ti51 ti52 ti53 ti54 ti55 ti56 ti57 ti58 ti59 ti60 ti61 ti62 ti63 ti64 ti65 ti66 ti67 ti68 ti69 ti70 ti71 ti72 ti73 ti74 ti75 ti76 ti77 ti78 ti79 ti80 ti81 ti82 ti83 ti84 ti85 ti86 ti87 ti88 ti89 ti90 ti91 ti92 ti93 ti94 ti95 zv3 zv4 fl7_0 fl7_1 fl7_2 fl7_3 fl8_0 fl8_1 fl8_2 fl8_3 fl13_0 fl13_1 fl14_0 fl14_1 fl18_0 fl19_0 el22 el25 el33 mp41 mz41 el46 mp50 mz50 fl81_0 fl81_1 fl81_2 fl81_3 fl82_0 fl82_1 fl82_2 fl82_3 fl93_0 fl93_1 fl93_2 fl93_3 fl93_4 fl93_5 fl93_6 fl93_7 fl93_8 fl93_9 fl93_10 fl94_0 fl94_1 fl94_2 fl94_3 fl94_4 fl94_5 fl94_6 fl94_7 fl94_8 fl94_9 fl94_10
end Go.Proofs.Ytakpabiefjlmaaa

/- Chapter 22: calls that read objects and change nothing. -/
set_option linter.unusedVariables false
set_option linter.unusedSimpArgs false
namespace Go.Proofs.Ytakpabiefjlmaaa
open Go Go.Am Go.Proofs

/-- The objects 0 .. nx - 1, which name one another alone. -/
def WF (hp : Nat → Option AObj) (nx : Nat) : Prop := (∀ id ob, hp id = some ob → id < nx ∧ ob.ids (· < nx)) ∧ (∀ id, id < nx → hp id ≠ none)

/-- A call that reads such objects, changes nothing and returns r. -/
def HCall (f : FuncId) (vs : List AV) (hp : Nat → Option AObj) (nx : Nat) (r : AV) : Prop :=
  WF hp nx ∧ r.clo = true ∧ ACall Try.prog f vs hp nx nx (fun r' hp' => r' = r ∧ hp' = hp) (fun _ _ => False)

variable {E : En} {Q : AEx → St → Prop} {σ : St}

theorem oids_mono {p q : Nat → Prop} {o : AObj} (h : ∀ i, p i → q i) (ho : o.ids p) : o.ids q := by
  have hL : ∀ {l : List AV}, AV.idsL p l → AV.idsL q l := fun {l} hl => by
    exact idsL_imp h hl
  cases o with
  | cells l => exact hL ho
  | row sz l => exact hL ho
  | map es => exact fun x hx => ⟨ids_imp h (ho x hx).1, ids_imp h (ho x hx).2⟩

theorem HCall.use {f : FuncId} {vs us : List AV} {hp : Nat → Option AObj} {nx : Nat} {r : AV} (hA : HCall f vs hp nx r) (m : Nat → Nat) (hus : us = AV.renL m vs) (hvs : AV.idsL (· < nx) vs)
    (h1 : ∀ id ob, hp id = some ob → σ.hp (m id) = some (ob.ren m)) (h2 : ∀ id id', id < nx → id' < nx → m id = m id' → id = id')
    {k : Nat} {d : Option Nat} {K : St → Prop} {Kp : AV → St → Prop}
    (hK : ∀ σ', σ'.nx = σ.nx → σ'.fr = (σ.put d r).fr → (∀ id ob, σ.hp id = some ob → σ'.hp id = some ob) → K σ') :
    CallB Try.prog f us σ k d K Kp := by
  obtain ⟨hw, hr, hA⟩ := hA
  refine CallB.of_A hA m hus hvs ?_ ?_ ?_ ?_ ?_ ?_ ?_
  · exact fun id ob hid => ⟨h1 id ob hid, hw.1 id ob hid⟩
  · exact fun id id' o1 o2 ho1 ho2 he => h2 id id' (hw.1 _ _ ho1).1 (hw.1 _ _ ho2).1 he
  · exact fun id hid => ⟨hid, hw.2 id hid⟩
  · rintro r' hp' ⟨rfl, rfl⟩
    exact ⟨clo_ids hr, fun id ob hid => ⟨by have := (hw.1 id ob hid).1; omega, oids_mono (fun i hi => by omega) (hw.1 id ob hid).2⟩⟩
  · rintro r' hp' h
    exact h.elim
  · rintro r' hp' σ' ⟨rfl, rfl⟩ hB
    refine hK σ' hB.nx (by rw [hB.fr]; simp only [clo_ren hr]) ?_
    intro id ob hid
    by_cases hj : ∃ j, j < nx ∧ m j = id
    · obtain ⟨j, hj, rfl⟩ := hj
      cases ho : hp' j with
      | none => exact absurd ho (hw.2 j hj)
      | some o =>
        have h3 := h1 j o ho
        rw [h3] at hid
        cases hid
        have b0 := hB.obj j o ho
        have e0 : ∀ j, j < nx → backM m nx (σ.nx + 1048576 * k) j = m j := fun j hj => by simp [backM, hj]
        rw [e0 j hj] at b0
        rw [b0]
        exact congrArg some (oren_congr (fun i hi => e0 i hi) (hw.1 j o ho).2)
    · exact hB.old id ob hid fun j hj' e' => hj ⟨j, by cases ho : hp' j with | none => exact absurd ho hj' | some o => exact (hw.1 j o ho).1, e'⟩
  · rintro r' hp' σ' h
    exact h.elim

theorem HCall.intro {f : FuncId} {fn : Func} {c : Code} {vs : List AV} {hp : Nat → Option AObj} {nx : Nat} {r : AV} (hw : WF hp nx) (hr : r.clo = true) (hf : Try.prog.funcs[f]? = some fn) (hb : fn.body = some c) (hfn : isFn Try.prog f = true) (hn : vs.length ≤ fn.ntmps)
    (h : ∀ (E : En) (Q : AEx → St → Prop), E.nt = fn.ntmps → E.np = nx → (∀ σ, resA Try.prog fn.results.toList σ = some r → (∀ id ob, hp id = some ob → σ.hp id = some ob) → Q .ret σ ∧ Q .norm σ) → AW Try.prog E c Q ⟨mkPar 0 vs, hp, nx⟩) : HCall f vs hp nx r := by
  refine ⟨hw, hr, ACall.of_bodyR hf hfn hb hn fun E Q hE hN hQ _ => h E Q hE hN ?_⟩
  intro σ h1 h5
  refine hQ σ ⟨r, fun j => j, _, nx, by rw [clo_ren hr]; exact h1, clo_ids hr, ?_, rfl, rfl⟩
  refine ⟨fun t x hx => (by cases hx), fun id o ho => ?_, fun id id' o o' ho ho' he => he, fun id hid => ⟨rfl, hid⟩⟩
  exact ⟨by rw [oren_id]; exact h5 id o ho, hw.1 id o ho⟩
end Go.Proofs.Ytakpabiefjlmaaa

/- Chapter 22: comparisons and sizes. -/
set_option linter.unusedSimpArgs false
set_option linter.unusedVariables false
set_option maxHeartbeats 4000000
set_option maxRecDepth 100000
namespace Go.Proofs.Ytakpabiefjlmaaa
open Nat (reduceAdd reduceMul reduceEqDiff reduceLT reduceLeDiff reduceSub reduceDiv)
open Int (reduceBNe reduceLE reduceEq)
open Go.Am Go.Proofs
attribute [local irreducible] AW CallP CallB

theorem ints_call (a b : List Int) (ha : a.length ≤ 2 ^ 40) : PCall Try.prog 21 [.sl (il a), .sl (il b)] (.bool (decide (a = b))) := by
  refine PCall.intro Try.func21 rfl isf21 (by simp [Try.f21]) (by simp [AV.cloL, AV.clo]) fun E Q hE hN hQ => K_start ?_
  by_cases hl : a.length = b.length
  · have q0 : ((a.length : Int) != (b.length : Int)) = false := by simp [hl]
    repeat' (first | apply w1 | apply w2 | apply w3 | apply w4 | apply w5 | apply w6 | apply w7 | refine Kq_exit_ne (by decide) ?_ | apply w8 | apply w9 | apply w0 | rw [wrap64 (by omega) (by omega)] | ((first | refine hK _ ?_ | refine hKp _ _ ?_); clear hK hKp K Kp; try clear hanc anc) | ((with_reducible refine And.intro ?_ ?_); (focus (first | trivial | omega | (simp only [Fits]; omega) | assumption | (rw [hanc]; rfl)))) | ((first | refine K_regA hE fun K Kp hK hKp => ?_ | refine K_drwA false mixed hE fun K Kp hK hKp anc hanc => ?_); simp only [go_sem, ↓reduceIte, reduceCtorEq, reduceAdd, reduceMul, reduceEqDiff, reduceLT, reduceLeDiff, reduceSub, reduceDiv, Nat.reduceBEq, Int.reduceBEq, reduceBNe, Int.reduceLT, reduceLE, reduceEq, q0]) | ((first | refine onG_split_t (fun hg => ?_) (fun hg => ?_) | refine onG_split_f (fun hg => ?_) (fun hg => ?_)) <;> simp only [go_sem, ↓reduceIte, reduceCtorEq, reduceAdd, reduceMul, reduceEqDiff, reduceLT, reduceLeDiff, reduceSub, reduceDiv, Nat.reduceBEq, Int.reduceBEq, reduceBNe, Int.reduceLT, reduceLE, reduceEq, q0, hg]) | (refine K_condA (fun hc => ?_) (fun hc => ?_) <;> try (exact absurd hc (by decide))) | (refine K_ret ?_; refine (hQ _ ⟨_, by (try simp only [go_sem, ↓reduceIte, Nat.reduceEqDiff]); rfl, by simp [go_sem], ?_, by first | rfl | assumption⟩).1))
    refine K_loop (X := Nat) (fun i => i ≤ a.length ∧ decide (a = b) = decide (a.drop i = b.drop i)) (fun i => mkSt [(0, .sl (il a)), (1, .sl (il b)), (5, AV.i i)] [] 0) (fun i => a.length - i) 0 ⟨Nat.zero_le _, rfl⟩ (fun i => i) (by refine ent_mk (by simp [go_sem]) (by simp [go_sem]) (by simp) (by simp [hN])) ?_
    rintro i ⟨hi, ht⟩
    by_cases hlt : i < a.length
    · obtain ⟨x, hx⟩ := get?_of hlt
      obtain ⟨y, hy⟩ := get?_of (show i < b.length by omega)
      rw [drop_of hx, drop_of hy] at ht
      by_cases hxy : x = y
      · have q1 : (x != y) = false := by simp [hxy]
        repeat' (first | apply w1 | apply w2 | apply w3 | apply w4 | apply w5 | apply w6 | apply w7 | refine Kq_exit_ne (by decide) ?_ | apply w8 | apply w9 | apply w0 | rw [wrap64 (by omega) (by omega)] | ((first | refine hK _ ?_ | refine hKp _ _ ?_); clear hK hKp K Kp; try clear hanc anc) | ((with_reducible refine And.intro ?_ ?_); (focus (first | trivial | omega | (simp only [Fits]; omega) | assumption | (rw [hanc]; rfl)))) | ((first | refine K_regA hE fun K Kp hK hKp => ?_ | refine K_drwA false mixed hE fun K Kp hK hKp anc hanc => ?_); simp only [go_sem, ↓reduceIte, reduceCtorEq, reduceAdd, reduceMul, reduceEqDiff, reduceLT, reduceLeDiff, reduceSub, reduceDiv, Nat.reduceBEq, Int.reduceBEq, reduceBNe, Int.reduceLT, reduceLE, reduceEq, lt_dec hlt, hx, hy, q1]) | ((first | refine onG_split_t (fun hg => ?_) (fun hg => ?_) | refine onG_split_f (fun hg => ?_) (fun hg => ?_)) <;> simp only [go_sem, ↓reduceIte, reduceCtorEq, reduceAdd, reduceMul, reduceEqDiff, reduceLT, reduceLeDiff, reduceSub, reduceDiv, Nat.reduceBEq, Int.reduceBEq, reduceBNe, Int.reduceLT, reduceLE, reduceEq, lt_dec hlt, hx, hy, q1, hg]) | (refine K_condA (fun hc => ?_) (fun hc => ?_) <;> try (exact absurd hc (by decide))) | (refine K_ret ?_; refine (hQ _ ⟨_, by (try simp only [go_sem, ↓reduceIte, Nat.reduceEqDiff]); rfl, by simp [go_sem], ?_, by first | rfl | assumption⟩).1))
        exact ⟨i + 1, ⟨by omega, by rw [ht]; simp [hxy]⟩, by omega, fun i => i, by refine ent_mk (by simp [go_sem]) (by simp [go_sem]) (by simp) (by simp [hN])⟩
      · have q1 : (x != y) = true := by simp [hxy]
        repeat' (first | apply w1 | apply w2 | apply w3 | apply w4 | apply w5 | apply w6 | apply w7 | refine Kq_exit_ne (by decide) ?_ | apply w8 | apply w9 | apply w0 | rw [wrap64 (by omega) (by omega)] | ((first | refine hK _ ?_ | refine hKp _ _ ?_); clear hK hKp K Kp; try clear hanc anc) | ((with_reducible refine And.intro ?_ ?_); (focus (first | trivial | omega | (simp only [Fits]; omega) | assumption | (rw [hanc]; rfl)))) | ((first | refine K_regA hE fun K Kp hK hKp => ?_ | refine K_drwA false mixed hE fun K Kp hK hKp anc hanc => ?_); simp only [go_sem, ↓reduceIte, reduceCtorEq, reduceAdd, reduceMul, reduceEqDiff, reduceLT, reduceLeDiff, reduceSub, reduceDiv, Nat.reduceBEq, Int.reduceBEq, reduceBNe, Int.reduceLT, reduceLE, reduceEq, lt_dec hlt, hx, hy, q1]) | ((first | refine onG_split_t (fun hg => ?_) (fun hg => ?_) | refine onG_split_f (fun hg => ?_) (fun hg => ?_)) <;> simp only [go_sem, ↓reduceIte, reduceCtorEq, reduceAdd, reduceMul, reduceEqDiff, reduceLT, reduceLeDiff, reduceSub, reduceDiv, Nat.reduceBEq, Int.reduceBEq, reduceBNe, Int.reduceLT, reduceLE, reduceEq, lt_dec hlt, hx, hy, q1, hg]) | (refine K_condA (fun hc => ?_) (fun hc => ?_) <;> try (exact absurd hc (by decide))) | (refine K_ret ?_; refine (hQ _ ⟨_, by (try simp only [go_sem, ↓reduceIte, Nat.reduceEqDiff]); rfl, by simp [go_sem], ?_, by first | rfl | assumption⟩).1))
        simp [AV.snap, ht, hxy]
    · obtain rfl : i = a.length := by omega
      rw [List.drop_length, hl, List.drop_length] at ht
      repeat' (first | apply w1 | apply w2 | apply w3 | apply w4 | apply w5 | apply w6 | apply w7 | refine Kq_exit_ne (by decide) ?_ | apply w8 | apply w9 | apply w0 | rw [wrap64 (by omega) (by omega)] | ((first | refine hK _ ?_ | refine hKp _ _ ?_); clear hK hKp K Kp; try clear hanc anc) | ((with_reducible refine And.intro ?_ ?_); (focus (first | trivial | omega | (simp only [Fits]; omega) | assumption | (rw [hanc]; rfl)))) | ((first | refine K_regA hE fun K Kp hK hKp => ?_ | refine K_drwA false mixed hE fun K Kp hK hKp anc hanc => ?_); simp only [go_sem, ↓reduceIte, reduceCtorEq, reduceAdd, reduceMul, reduceEqDiff, reduceLT, reduceLeDiff, reduceSub, reduceDiv, Nat.reduceBEq, Int.reduceBEq, reduceBNe, Int.reduceLT, reduceLE, reduceEq, ge_dec]) | ((first | refine onG_split_t (fun hg => ?_) (fun hg => ?_) | refine onG_split_f (fun hg => ?_) (fun hg => ?_)) <;> simp only [go_sem, ↓reduceIte, reduceCtorEq, reduceAdd, reduceMul, reduceEqDiff, reduceLT, reduceLeDiff, reduceSub, reduceDiv, Nat.reduceBEq, Int.reduceBEq, reduceBNe, Int.reduceLT, reduceLE, reduceEq, ge_dec, hg]) | (refine K_condA (fun hc => ?_) (fun hc => ?_) <;> try (exact absurd hc (by decide))) | (refine K_ret ?_; refine (hQ _ ⟨_, by (try simp only [go_sem, ↓reduceIte, Nat.reduceEqDiff]); rfl, by simp [go_sem], ?_, by first | rfl | assumption⟩).1))
      simp [AV.snap, ht]
  · have q0 : ((a.length : Int) != (b.length : Int)) = true := by simp; omega
    repeat' (first | apply w1 | apply w2 | apply w3 | apply w4 | apply w5 | apply w6 | apply w7 | refine Kq_exit_ne (by decide) ?_ | apply w8 | apply w9 | apply w0 | rw [wrap64 (by omega) (by omega)] | ((first | refine hK _ ?_ | refine hKp _ _ ?_); clear hK hKp K Kp; try clear hanc anc) | ((with_reducible refine And.intro ?_ ?_); (focus (first | trivial | omega | (simp only [Fits]; omega) | assumption | (rw [hanc]; rfl)))) | ((first | refine K_regA hE fun K Kp hK hKp => ?_ | refine K_drwA false mixed hE fun K Kp hK hKp anc hanc => ?_); simp only [go_sem, ↓reduceIte, reduceCtorEq, reduceAdd, reduceMul, reduceEqDiff, reduceLT, reduceLeDiff, reduceSub, reduceDiv, Nat.reduceBEq, Int.reduceBEq, reduceBNe, Int.reduceLT, reduceLE, reduceEq, q0]) | ((first | refine onG_split_t (fun hg => ?_) (fun hg => ?_) | refine onG_split_f (fun hg => ?_) (fun hg => ?_)) <;> simp only [go_sem, ↓reduceIte, reduceCtorEq, reduceAdd, reduceMul, reduceEqDiff, reduceLT, reduceLeDiff, reduceSub, reduceDiv, Nat.reduceBEq, Int.reduceBEq, reduceBNe, Int.reduceLT, reduceLE, reduceEq, q0, hg]) | (refine K_condA (fun hc => ?_) (fun hc => ?_) <;> try (exact absurd hc (by decide))) | (refine K_ret ?_; refine (hQ _ ⟨_, by (try simp only [go_sem, ↓reduceIte, Nat.reduceEqDiff]); rfl, by simp [go_sem], ?_, by first | rfl | assumption⟩).1))
    have : a ≠ b := by rintro rfl; exact hl rfl
    simp [AV.snap, this]

theorem in_call (l : List Int) (n : Int) (hl : l.length ≤ 2 ^ 40) : PCall Try.prog 13 [.sl (il l), .i n] (.bool (decide (n ∈ l))) := by
  refine PCall.intro Try.func13 rfl isf13 (by simp [Try.f13]) (by simp [AV.cloL, AV.clo]) fun E Q hE hN hQ => K_start ?_
  repeat' (first | apply w1 | apply w2 | apply w3 | apply w4 | apply w5 | apply w6 | apply w7 | refine Kq_exit_ne (by decide) ?_ | apply w8 | apply w9 | apply w0 | rw [wrap64 (by omega) (by omega)] | ((first | refine hK _ ?_ | refine hKp _ _ ?_); clear hK hKp K Kp; try clear hanc anc) | ((with_reducible refine And.intro ?_ ?_); (focus (first | trivial | omega | (simp only [Fits]; omega) | assumption | (rw [hanc]; rfl)))) | ((first | refine K_regA hE fun K Kp hK hKp => ?_ | refine K_drwA false mixed hE fun K Kp hK hKp anc hanc => ?_); simp only [go_sem, ↓reduceIte, reduceCtorEq, reduceAdd, reduceMul, reduceEqDiff, reduceLT, reduceLeDiff, reduceSub, reduceDiv, Nat.reduceBEq, Int.reduceBEq, reduceBNe, Int.reduceLT, reduceLE, reduceEq, il_len]) | ((first | refine onG_split_t (fun hg => ?_) (fun hg => ?_) | refine onG_split_f (fun hg => ?_) (fun hg => ?_)) <;> simp only [go_sem, ↓reduceIte, reduceCtorEq, reduceAdd, reduceMul, reduceEqDiff, reduceLT, reduceLeDiff, reduceSub, reduceDiv, Nat.reduceBEq, Int.reduceBEq, reduceBNe, Int.reduceLT, reduceLE, reduceEq, il_len, hg]) | (refine K_condA (fun hc => ?_) (fun hc => ?_) <;> try (exact absurd hc (by decide))) | (refine K_ret ?_; refine (hQ _ ⟨_, by (try simp only [go_sem, ↓reduceIte, Nat.reduceEqDiff]); rfl, by simp [go_sem], ?_, by first | rfl | assumption⟩).1))
  refine K_loop (X := Nat) (fun i => i ≤ l.length ∧ decide (n ∈ l) = decide (n ∈ l.drop i)) (fun i => mkSt [(0, .sl (il l)), (1, .i n), (5, AV.i i)] [] 0) (fun i => l.length - i) 0 ⟨Nat.zero_le _, rfl⟩ (fun i => i) (by refine ent_mk (by simp [go_sem]) (by simp [go_sem]) (by simp) (by simp [hN])) ?_
  rintro i ⟨hi, ht⟩
  by_cases hlt : i < l.length
  · obtain ⟨x, hx⟩ := get?_of hlt
    rw [drop_of hx] at ht
    by_cases hxy : x = n
    · have q1 : (x == n) = true := by simp [hxy]
      repeat' (first | apply w1 | apply w2 | apply w3 | apply w4 | apply w5 | apply w6 | apply w7 | refine Kq_exit_ne (by decide) ?_ | apply w8 | apply w9 | apply w0 | rw [wrap64 (by omega) (by omega)] | ((first | refine hK _ ?_ | refine hKp _ _ ?_); clear hK hKp K Kp; try clear hanc anc) | ((with_reducible refine And.intro ?_ ?_); (focus (first | trivial | omega | (simp only [Fits]; omega) | assumption | (rw [hanc]; rfl)))) | ((first | refine K_regA hE fun K Kp hK hKp => ?_ | refine K_drwA false mixed hE fun K Kp hK hKp anc hanc => ?_); simp only [go_sem, ↓reduceIte, reduceCtorEq, reduceAdd, reduceMul, reduceEqDiff, reduceLT, reduceLeDiff, reduceSub, reduceDiv, Nat.reduceBEq, Int.reduceBEq, reduceBNe, Int.reduceLT, reduceLE, reduceEq, lt_dec hlt, hx, q1]) | ((first | refine onG_split_t (fun hg => ?_) (fun hg => ?_) | refine onG_split_f (fun hg => ?_) (fun hg => ?_)) <;> simp only [go_sem, ↓reduceIte, reduceCtorEq, reduceAdd, reduceMul, reduceEqDiff, reduceLT, reduceLeDiff, reduceSub, reduceDiv, Nat.reduceBEq, Int.reduceBEq, reduceBNe, Int.reduceLT, reduceLE, reduceEq, lt_dec hlt, hx, q1, hg]) | (refine K_condA (fun hc => ?_) (fun hc => ?_) <;> try (exact absurd hc (by decide))) | (refine K_ret ?_; refine (hQ _ ⟨_, by (try simp only [go_sem, ↓reduceIte, Nat.reduceEqDiff]); rfl, by simp [go_sem], ?_, by first | rfl | assumption⟩).1))
      simp [AV.snap, ht, hxy]
    · have q1 : (x == n) = false := by simp [hxy]
      repeat' (first | apply w1 | apply w2 | apply w3 | apply w4 | apply w5 | apply w6 | apply w7 | refine Kq_exit_ne (by decide) ?_ | apply w8 | apply w9 | apply w0 | rw [wrap64 (by omega) (by omega)] | ((first | refine hK _ ?_ | refine hKp _ _ ?_); clear hK hKp K Kp; try clear hanc anc) | ((with_reducible refine And.intro ?_ ?_); (focus (first | trivial | omega | (simp only [Fits]; omega) | assumption | (rw [hanc]; rfl)))) | ((first | refine K_regA hE fun K Kp hK hKp => ?_ | refine K_drwA false mixed hE fun K Kp hK hKp anc hanc => ?_); simp only [go_sem, ↓reduceIte, reduceCtorEq, reduceAdd, reduceMul, reduceEqDiff, reduceLT, reduceLeDiff, reduceSub, reduceDiv, Nat.reduceBEq, Int.reduceBEq, reduceBNe, Int.reduceLT, reduceLE, reduceEq, lt_dec hlt, hx, q1]) | ((first | refine onG_split_t (fun hg => ?_) (fun hg => ?_) | refine onG_split_f (fun hg => ?_) (fun hg => ?_)) <;> simp only [go_sem, ↓reduceIte, reduceCtorEq, reduceAdd, reduceMul, reduceEqDiff, reduceLT, reduceLeDiff, reduceSub, reduceDiv, Nat.reduceBEq, Int.reduceBEq, reduceBNe, Int.reduceLT, reduceLE, reduceEq, lt_dec hlt, hx, q1, hg]) | (refine K_condA (fun hc => ?_) (fun hc => ?_) <;> try (exact absurd hc (by decide))) | (refine K_ret ?_; refine (hQ _ ⟨_, by (try simp only [go_sem, ↓reduceIte, Nat.reduceEqDiff]); rfl, by simp [go_sem], ?_, by first | rfl | assumption⟩).1))
      exact ⟨i + 1, ⟨by omega, by rw [ht]; simp [Ne.symm hxy]⟩, by omega, fun i => i, by refine ent_mk (by simp [go_sem]) (by simp [go_sem]) (by simp) (by simp [hN])⟩
  · obtain rfl : i = l.length := by omega
    rw [List.drop_length] at ht
    repeat' (first | apply w1 | apply w2 | apply w3 | apply w4 | apply w5 | apply w6 | apply w7 | refine Kq_exit_ne (by decide) ?_ | apply w8 | apply w9 | apply w0 | rw [wrap64 (by omega) (by omega)] | ((first | refine hK _ ?_ | refine hKp _ _ ?_); clear hK hKp K Kp; try clear hanc anc) | ((with_reducible refine And.intro ?_ ?_); (focus (first | trivial | omega | (simp only [Fits]; omega) | assumption | (rw [hanc]; rfl)))) | ((first | refine K_regA hE fun K Kp hK hKp => ?_ | refine K_drwA false mixed hE fun K Kp hK hKp anc hanc => ?_); simp only [go_sem, ↓reduceIte, reduceCtorEq, reduceAdd, reduceMul, reduceEqDiff, reduceLT, reduceLeDiff, reduceSub, reduceDiv, Nat.reduceBEq, Int.reduceBEq, reduceBNe, Int.reduceLT, reduceLE, reduceEq, ge_dec]) | ((first | refine onG_split_t (fun hg => ?_) (fun hg => ?_) | refine onG_split_f (fun hg => ?_) (fun hg => ?_)) <;> simp only [go_sem, ↓reduceIte, reduceCtorEq, reduceAdd, reduceMul, reduceEqDiff, reduceLT, reduceLeDiff, reduceSub, reduceDiv, Nat.reduceBEq, Int.reduceBEq, reduceBNe, Int.reduceLT, reduceLE, reduceEq, ge_dec, hg]) | (refine K_condA (fun hc => ?_) (fun hc => ?_) <;> try (exact absurd hc (by decide))) | (refine K_ret ?_; refine (hQ _ ⟨_, by (try simp only [go_sem, ↓reduceIte, Nat.reduceEqDiff]); rfl, by simp [go_sem], ?_, by first | rfl | assumption⟩).1))
    simp [AV.snap, ht]

def few (u : List (List Int)) : Bool := u.all (fun l => decide (l.length ≤ 20)) && decide (u.length ≤ 20)
theorem few_call (u : List (List Int)) (hu : u.length ≤ 2 ^ 40) (hl : ∀ l, l ∈ u → l.length ≤ 2 ^ 40) : PCall Try.prog 9 [.sl (ill u)] (.bool (few u)) := by
  refine PCall.intro Try.func9 rfl isf9 (by simp [Try.f9]) (by simp [AV.cloL, AV.clo]) fun E Q hE hN hQ => K_start ?_
  repeat' (first | apply w1 | apply w2 | apply w3 | apply w4 | apply w5 | apply w6 | apply w7 | refine Kq_exit_ne (by decide) ?_ | apply w8 | apply w9 | apply w0 | rw [wrap64 (by omega) (by omega)] | ((first | refine hK _ ?_ | refine hKp _ _ ?_); clear hK hKp K Kp; try clear hanc anc) | ((with_reducible refine And.intro ?_ ?_); (focus (first | trivial | omega | (simp only [Fits]; omega) | assumption | (rw [hanc]; rfl)))) | ((first | refine K_regA hE fun K Kp hK hKp => ?_ | refine K_drwA false mixed hE fun K Kp hK hKp anc hanc => ?_); simp only [go_sem, ↓reduceIte, reduceCtorEq, reduceAdd, reduceMul, reduceEqDiff, reduceLT, reduceLeDiff, reduceSub, reduceDiv, Nat.reduceBEq, Int.reduceBEq, reduceBNe, Int.reduceLT, reduceLE, reduceEq, il_len]) | ((first | refine onG_split_t (fun hg => ?_) (fun hg => ?_) | refine onG_split_f (fun hg => ?_) (fun hg => ?_)) <;> simp only [go_sem, ↓reduceIte, reduceCtorEq, reduceAdd, reduceMul, reduceEqDiff, reduceLT, reduceLeDiff, reduceSub, reduceDiv, Nat.reduceBEq, Int.reduceBEq, reduceBNe, Int.reduceLT, reduceLE, reduceEq, il_len, hg]) | (refine K_condA (fun hc => ?_) (fun hc => ?_) <;> try (exact absurd hc (by decide))) | (refine K_ret ?_; refine (hQ _ ⟨_, by (try simp only [go_sem, ↓reduceIte, Nat.reduceEqDiff]); rfl, by simp [go_sem], ?_, by first | rfl | assumption⟩).1))
  refine K_loop (X := Nat) (fun i => i ≤ u.length ∧ u.all (fun l => decide (l.length ≤ 20)) = (u.drop i).all (fun l => decide (l.length ≤ 20))) (fun i => mkSt [(0, .sl (ill u)), (3, AV.i i)] [] 0) (fun i => u.length - i) 0 ⟨Nat.zero_le _, rfl⟩ (fun i => i) (by refine ent_mk (by simp [go_sem]) (by simp [go_sem]) (by simp) (by simp [hN])) ?_
  rintro i ⟨hi, ht⟩
  by_cases hlt : i < u.length
  · obtain ⟨x, hx⟩ := get?_of hlt
    rw [drop_of hx, List.all_cons] at ht
    have hxl := hl x (List.mem_of_getElem? hx)
    by_cases h20 : x.length ≤ 20
    · have q1 : decide ((20 : Int) < (x.length : Int)) = false := by simp; omega
      repeat' (first | apply w1 | apply w2 | apply w3 | apply w4 | apply w5 | apply w6 | apply w7 | refine Kq_exit_ne (by decide) ?_ | apply w8 | apply w9 | apply w0 | rw [wrap64 (by omega) (by omega)] | ((first | refine hK _ ?_ | refine hKp _ _ ?_); clear hK hKp K Kp; try clear hanc anc) | ((with_reducible refine And.intro ?_ ?_); (focus (first | trivial | omega | (simp only [Fits]; omega) | assumption | (rw [hanc]; rfl)))) | ((first | refine K_regA hE fun K Kp hK hKp => ?_ | refine K_drwA false mixed hE fun K Kp hK hKp anc hanc => ?_); simp only [go_sem, ↓reduceIte, reduceCtorEq, reduceAdd, reduceMul, reduceEqDiff, reduceLT, reduceLeDiff, reduceSub, reduceDiv, Nat.reduceBEq, Int.reduceBEq, reduceBNe, Int.reduceLT, reduceLE, reduceEq, lt_dec hlt, hx, q1]) | ((first | refine onG_split_t (fun hg => ?_) (fun hg => ?_) | refine onG_split_f (fun hg => ?_) (fun hg => ?_)) <;> simp only [go_sem, ↓reduceIte, reduceCtorEq, reduceAdd, reduceMul, reduceEqDiff, reduceLT, reduceLeDiff, reduceSub, reduceDiv, Nat.reduceBEq, Int.reduceBEq, reduceBNe, Int.reduceLT, reduceLE, reduceEq, lt_dec hlt, hx, q1, hg]) | (refine K_condA (fun hc => ?_) (fun hc => ?_) <;> try (exact absurd hc (by decide))) | (refine K_ret ?_; refine (hQ _ ⟨_, by (try simp only [go_sem, ↓reduceIte, Nat.reduceEqDiff]); rfl, by simp [go_sem], ?_, by first | rfl | assumption⟩).1))
      exact ⟨i + 1, ⟨by omega, by rw [ht]; simp [h20]⟩, by omega, fun i => i, by refine ent_mk (by simp [go_sem]) (by simp [go_sem]) (by simp) (by simp [hN])⟩
    · have q1 : decide ((20 : Int) < (x.length : Int)) = true := by simp; omega
      repeat' (first | apply w1 | apply w2 | apply w3 | apply w4 | apply w5 | apply w6 | apply w7 | refine Kq_exit_ne (by decide) ?_ | apply w8 | apply w9 | apply w0 | rw [wrap64 (by omega) (by omega)] | ((first | refine hK _ ?_ | refine hKp _ _ ?_); clear hK hKp K Kp; try clear hanc anc) | ((with_reducible refine And.intro ?_ ?_); (focus (first | trivial | omega | (simp only [Fits]; omega) | assumption | (rw [hanc]; rfl)))) | ((first | refine K_regA hE fun K Kp hK hKp => ?_ | refine K_drwA false mixed hE fun K Kp hK hKp anc hanc => ?_); simp only [go_sem, ↓reduceIte, reduceCtorEq, reduceAdd, reduceMul, reduceEqDiff, reduceLT, reduceLeDiff, reduceSub, reduceDiv, Nat.reduceBEq, Int.reduceBEq, reduceBNe, Int.reduceLT, reduceLE, reduceEq, lt_dec hlt, hx, q1]) | ((first | refine onG_split_t (fun hg => ?_) (fun hg => ?_) | refine onG_split_f (fun hg => ?_) (fun hg => ?_)) <;> simp only [go_sem, ↓reduceIte, reduceCtorEq, reduceAdd, reduceMul, reduceEqDiff, reduceLT, reduceLeDiff, reduceSub, reduceDiv, Nat.reduceBEq, Int.reduceBEq, reduceBNe, Int.reduceLT, reduceLE, reduceEq, lt_dec hlt, hx, q1, hg]) | (refine K_condA (fun hc => ?_) (fun hc => ?_) <;> try (exact absurd hc (by decide))) | (refine K_ret ?_; refine (hQ _ ⟨_, by (try simp only [go_sem, ↓reduceIte, Nat.reduceEqDiff]); rfl, by simp [go_sem], ?_, by first | rfl | assumption⟩).1))
      simp only [go_sem, AV.snap, few, ht]
      simp [h20]
  · obtain rfl : i = u.length := by omega
    rw [List.drop_length] at ht
    repeat' (first | apply w1 | apply w2 | apply w3 | apply w4 | apply w5 | apply w6 | apply w7 | refine Kq_exit_ne (by decide) ?_ | apply w8 | apply w9 | apply w0 | rw [wrap64 (by omega) (by omega)] | ((first | refine hK _ ?_ | refine hKp _ _ ?_); clear hK hKp K Kp; try clear hanc anc) | ((with_reducible refine And.intro ?_ ?_); (focus (first | trivial | omega | (simp only [Fits]; omega) | assumption | (rw [hanc]; rfl)))) | ((first | refine K_regA hE fun K Kp hK hKp => ?_ | refine K_drwA false mixed hE fun K Kp hK hKp anc hanc => ?_); simp only [go_sem, ↓reduceIte, reduceCtorEq, reduceAdd, reduceMul, reduceEqDiff, reduceLT, reduceLeDiff, reduceSub, reduceDiv, Nat.reduceBEq, Int.reduceBEq, reduceBNe, Int.reduceLT, reduceLE, reduceEq, ge_dec]) | ((first | refine onG_split_t (fun hg => ?_) (fun hg => ?_) | refine onG_split_f (fun hg => ?_) (fun hg => ?_)) <;> simp only [go_sem, ↓reduceIte, reduceCtorEq, reduceAdd, reduceMul, reduceEqDiff, reduceLT, reduceLeDiff, reduceSub, reduceDiv, Nat.reduceBEq, Int.reduceBEq, reduceBNe, Int.reduceLT, reduceLE, reduceEq, ge_dec, hg]) | (refine K_condA (fun hc => ?_) (fun hc => ?_) <;> try (exact absurd hc (by decide))) | (refine K_ret ?_; refine (hQ _ ⟨_, by (try simp only [go_sem, ↓reduceIte, Nat.reduceEqDiff]); rfl, by simp [go_sem], ?_, by first | rfl | assumption⟩).1))
    simp only [go_sem, AV.snap, few, ht]
    congr 1
    simp
    omega
end Go.Proofs.Ytakpabiefjlmaaa


/- Chapter 22: searches with a function. -/
set_option linter.unusedSimpArgs false
set_option linter.unusedVariables false
set_option maxHeartbeats 4000000
set_option maxRecDepth 100000
namespace Go.Proofs.Ytakpabiefjlmaaa
open Nat (reduceAdd reduceMul reduceEqDiff reduceLT reduceLeDiff reduceSub reduceDiv)
open Int (reduceBNe reduceLE reduceEq)
open Go.Am Go.Proofs
attribute [local irreducible] AW CallP CallB

def fidx {α : Type} (b : α → Bool) : List α → Nat → Int
  | [], _ => -1
  | x :: l, i => if b x then i else fidx b l (i + 1)

theorem index_hc (l : List Int) (g : Nat) (cap : List AV) (hp : Nat → Option AObj) (nx : Nat) (b : Int → Bool) (hcap : AV.idsL (· < nx) cap) (hw : WF hp nx) (hl : l.length ≤ 2 ^ 40) (hg : ∀ x, x ∈ l → HCall g (.i x :: cap) hp nx (.bool (b x))) : HCall 38 [.sl (il l), .fn (.func g) [] cap] hp nx (.i (fidx b l 0)) := by
  refine HCall.intro hw rfl Try.func38 rfl isf38 (by simp [Try.f38]) fun E Q hE hN hQ => K_start ?_
  repeat' (first | apply w1 | apply w2 | apply w3 | apply w4 | apply w5 | apply w6 | apply w7 | refine Kq_exit_ne (by decide) ?_ | apply w8 | apply w9 | apply w0 | rw [wrap64 (by omega) (by omega)] | ((first | refine hK _ ?_ | refine hKp _ _ ?_); clear hK hKp K Kp; try clear hanc anc) | ((with_reducible refine And.intro ?_ ?_); (focus (first | trivial | omega | (simp only [Fits]; omega) | assumption | (rw [hanc]; rfl)))) | ((first | refine K_regA hE fun K Kp hK hKp => ?_ | refine K_drwA true mixed hE fun K Kp hK hKp anc hanc => ?_ | refine K_drwA false mixed hE fun K Kp hK hKp anc hanc => ?_); simp only [go_sem, ↓reduceIte, reduceCtorEq, reduceAdd, reduceMul, reduceEqDiff, reduceLT, reduceLeDiff, reduceSub, reduceDiv, Nat.reduceBEq, Int.reduceBEq, reduceBNe, Int.reduceLT, reduceLE, reduceEq, il_len]) | ((first | refine onG_split_t (fun hg => ?_) (fun hg => ?_) | refine onG_split_f (fun hg => ?_) (fun hg => ?_)) <;> simp only [go_sem, ↓reduceIte, reduceCtorEq, reduceAdd, reduceMul, reduceEqDiff, reduceLT, reduceLeDiff, reduceSub, reduceDiv, Nat.reduceBEq, Int.reduceBEq, reduceBNe, Int.reduceLT, reduceLE, reduceEq, il_len, hg]) | (refine K_condA (fun hc => ?_) (fun hc => ?_) <;> try (exact absurd hc (by decide))))
  refine K_loop (X := Nat) (fun i => i ≤ l.length ∧ fidx b l 0 = fidx b (l.drop i) i) (fun i => ⟨mkFr [(0, .sl (il l)), (1, .fn (.func g) [] cap), (7, AV.i l.length), (8, AV.i i)], hp, nx⟩) (fun i => l.length - i) 0 ⟨Nat.zero_le _, rfl⟩ (fun i => i) (ent_keep (by simp [go_sem, AV.ids, hcap]) (fun id ob h => ⟨h, hw.1 id ob h⟩) (by omega)) ?_
  rintro i ⟨hi, ht⟩
  by_cases hlt : i < l.length
  · obtain ⟨x, hx⟩ := get?_of hlt
    rw [drop_of hx, fidx] at ht
    repeat' (first | apply w1 | apply w2 | apply w3 | apply w4 | apply w5 | apply w6 | apply w7 | refine Kq_exit_ne (by decide) ?_ | apply w8 | apply w9 | apply w0 | rw [wrap64 (by omega) (by omega)] | ((first | refine hK _ ?_ | refine hKp _ _ ?_); clear hK hKp K Kp; try clear hanc anc) | ((with_reducible refine And.intro ?_ ?_); (focus (first | trivial | omega | (simp only [Fits]; omega) | assumption | (rw [hanc]; rfl)))) | ((first | refine K_regA hE fun K Kp hK hKp => ?_ | refine K_drwA true mixed hE fun K Kp hK hKp anc hanc => ?_ | refine K_drwA false mixed hE fun K Kp hK hKp anc hanc => ?_); simp only [go_sem, ↓reduceIte, reduceCtorEq, reduceAdd, reduceMul, reduceEqDiff, reduceLT, reduceLeDiff, reduceSub, reduceDiv, Nat.reduceBEq, Int.reduceBEq, reduceBNe, Int.reduceLT, reduceLE, reduceEq, lt_dec hlt, hx]) | ((first | refine onG_split_t (fun hg => ?_) (fun hg => ?_) | refine onG_split_f (fun hg => ?_) (fun hg => ?_)) <;> simp only [go_sem, ↓reduceIte, reduceCtorEq, reduceAdd, reduceMul, reduceEqDiff, reduceLT, reduceLeDiff, reduceSub, reduceDiv, Nat.reduceBEq, Int.reduceBEq, reduceBNe, Int.reduceLT, reduceLE, reduceEq, lt_dec hlt, hx, hg]) | (refine K_condA (fun hc => ?_) (fun hc => ?_) <;> try (exact absurd hc (by decide))))
    refine Hold.mk (HCall.use (hg x (List.mem_of_getElem? hx)) (fun i => i) (by rw [renL_id]) ⟨trivial, hcap⟩ (fun id ob h => by rw [oren_id]; exact h) (fun _ _ _ _ e => e) ?_)
    rintro ⟨fr', hp', nx'⟩ hnx hfr hold
    simp only at hnx hfr hold
    subst hnx hfr
    simp only [go_sem, ↓reduceIte, reduceCtorEq, reduceAdd, reduceMul, reduceEqDiff, reduceLT, reduceLeDiff, reduceSub, reduceDiv, Nat.reduceBEq, Int.reduceBEq, reduceBNe, Int.reduceLT, reduceLE, reduceEq]
    refine hK _ ?_; clear hK hKp K Kp; try clear hanc anc
    repeat (first | refine Kq_norm_code ?_ | refine Kq_norm_blk ?_ | refine Kq_norm_lp ?_)
    refine AW.ent (fun i => i) (σ' := ⟨mkFr [(0, .sl (il l)), (1, .fn (.func g) [] cap), (5, AV.i i), (7, AV.i l.length), (8, AV.i i), (16, .bool (b x))], hp, nx⟩) (ent_keep (by simp [go_sem, AV.ids, hcap]) (fun id ob h => ⟨hold id ob h, hw.1 id ob h⟩) (by omega)) ?_
    cases hbx : b x
    · rw [hbx] at ht
      repeat' (first | apply w1 | apply w2 | apply w3 | apply w4 | apply w5 | apply w6 | apply w7 | refine Kq_exit_ne (by decide) ?_ | apply w8 | apply w9 | apply w0 | rw [wrap64 (by omega) (by omega)] | ((first | refine hK _ ?_ | refine hKp _ _ ?_); clear hK hKp K Kp; try clear hanc anc) | ((with_reducible refine And.intro ?_ ?_); (focus (first | trivial | omega | (simp only [Fits]; omega) | assumption | (rw [hanc]; rfl)))) | ((first | refine K_regA hE fun K Kp hK hKp => ?_ | refine K_drwA true mixed hE fun K Kp hK hKp anc hanc => ?_ | refine K_drwA false mixed hE fun K Kp hK hKp anc hanc => ?_); simp only [go_sem, ↓reduceIte, reduceCtorEq, reduceAdd, reduceMul, reduceEqDiff, reduceLT, reduceLeDiff, reduceSub, reduceDiv, Nat.reduceBEq, Int.reduceBEq, reduceBNe, Int.reduceLT, reduceLE, reduceEq]) | ((first | refine onG_split_t (fun hg => ?_) (fun hg => ?_) | refine onG_split_f (fun hg => ?_) (fun hg => ?_)) <;> simp only [go_sem, ↓reduceIte, reduceCtorEq, reduceAdd, reduceMul, reduceEqDiff, reduceLT, reduceLeDiff, reduceSub, reduceDiv, Nat.reduceBEq, Int.reduceBEq, reduceBNe, Int.reduceLT, reduceLE, reduceEq, hg]) | (refine K_condA (fun hc => ?_) (fun hc => ?_) <;> try (exact absurd hc (by decide))))
      exact ⟨i + 1, ⟨by omega, by simpa using ht⟩, by omega, fun i => i, ent_keep (by simp [go_sem, AV.ids, hcap]) (fun id ob h => ⟨h, hw.1 id ob h⟩) (by omega)⟩
    · rw [hbx, if_pos rfl] at ht
      rw [ht] at hQ
      repeat' (first | apply w1 | apply w2 | apply w3 | apply w4 | apply w5 | apply w6 | apply w7 | refine Kq_exit_ne (by decide) ?_ | apply w8 | apply w9 | apply w0 | rw [wrap64 (by omega) (by omega)] | ((first | refine hK _ ?_ | refine hKp _ _ ?_); clear hK hKp K Kp; try clear hanc anc) | ((with_reducible refine And.intro ?_ ?_); (focus (first | trivial | omega | (simp only [Fits]; omega) | assumption | (rw [hanc]; rfl)))) | ((first | refine K_regA hE fun K Kp hK hKp => ?_ | refine K_drwA true mixed hE fun K Kp hK hKp anc hanc => ?_ | refine K_drwA false mixed hE fun K Kp hK hKp anc hanc => ?_); simp only [go_sem, ↓reduceIte, reduceCtorEq, reduceAdd, reduceMul, reduceEqDiff, reduceLT, reduceLeDiff, reduceSub, reduceDiv, Nat.reduceBEq, Int.reduceBEq, reduceBNe, Int.reduceLT, reduceLE, reduceEq]) | ((first | refine onG_split_t (fun hg => ?_) (fun hg => ?_) | refine onG_split_f (fun hg => ?_) (fun hg => ?_)) <;> simp only [go_sem, ↓reduceIte, reduceCtorEq, reduceAdd, reduceMul, reduceEqDiff, reduceLT, reduceLeDiff, reduceSub, reduceDiv, Nat.reduceBEq, Int.reduceBEq, reduceBNe, Int.reduceLT, reduceLE, reduceEq, hg]) | (refine K_condA (fun hc => ?_) (fun hc => ?_) <;> try (exact absurd hc (by decide))))
      exact K_ret (hQ _ (by simp only [go_sem, ↓reduceIte, reduceCtorEq, reduceAdd, reduceMul, reduceEqDiff, reduceLT, reduceLeDiff, reduceSub, reduceDiv, Nat.reduceBEq, Int.reduceBEq, reduceBNe, Int.reduceLT, reduceLE, reduceEq]; rfl) (fun id ob h => h)).1
  · obtain rfl : i = l.length := by omega
    rw [List.drop_length, fidx] at ht
    rw [ht] at hQ
    repeat' (first | apply w1 | apply w2 | apply w3 | apply w4 | apply w5 | apply w6 | apply w7 | refine Kq_exit_ne (by decide) ?_ | apply w8 | apply w9 | apply w0 | rw [wrap64 (by omega) (by omega)] | ((first | refine hK _ ?_ | refine hKp _ _ ?_); clear hK hKp K Kp; try clear hanc anc) | ((with_reducible refine And.intro ?_ ?_); (focus (first | trivial | omega | (simp only [Fits]; omega) | assumption | (rw [hanc]; rfl)))) | ((first | refine K_regA hE fun K Kp hK hKp => ?_ | refine K_drwA true mixed hE fun K Kp hK hKp anc hanc => ?_ | refine K_drwA false mixed hE fun K Kp hK hKp anc hanc => ?_); simp only [go_sem, ↓reduceIte, reduceCtorEq, reduceAdd, reduceMul, reduceEqDiff, reduceLT, reduceLeDiff, reduceSub, reduceDiv, Nat.reduceBEq, Int.reduceBEq, reduceBNe, Int.reduceLT, reduceLE, reduceEq, ge_dec]) | ((first | refine onG_split_t (fun hg => ?_) (fun hg => ?_) | refine onG_split_f (fun hg => ?_) (fun hg => ?_)) <;> simp only [go_sem, ↓reduceIte, reduceCtorEq, reduceAdd, reduceMul, reduceEqDiff, reduceLT, reduceLeDiff, reduceSub, reduceDiv, Nat.reduceBEq, Int.reduceBEq, reduceBNe, Int.reduceLT, reduceLE, reduceEq, ge_dec, hg]) | (refine K_condA (fun hc => ?_) (fun hc => ?_) <;> try (exact absurd hc (by decide))))
    exact K_ret (hQ _ (by simp only [go_sem, ↓reduceIte, reduceCtorEq, reduceAdd, reduceMul, reduceEqDiff, reduceLT, reduceLeDiff, reduceSub, reduceDiv, Nat.reduceBEq, Int.reduceBEq, reduceBNe, Int.reduceLT, reduceLE, reduceEq]; rfl) (fun id ob h => h)).1

theorem indexl_hc (l : List (List Int)) (g : Nat) (cap : List AV) (hp : Nat → Option AObj) (nx : Nat) (b : (List Int) → Bool) (hcap : AV.idsL (· < nx) cap) (hw : WF hp nx) (hl : l.length ≤ 2 ^ 40) (hg : ∀ x, x ∈ l → HCall g (.sl (il x) :: cap) hp nx (.bool (b x))) : HCall 24 [.sl (ill l), .fn (.func g) [] cap] hp nx (.i (fidx b l 0)) := by
  refine HCall.intro hw rfl Try.func24 rfl isf24 (by simp [Try.f24]) fun E Q hE hN hQ => K_start ?_
  repeat' (first | apply w1 | apply w2 | apply w3 | apply w4 | apply w5 | apply w6 | apply w7 | refine Kq_exit_ne (by decide) ?_ | apply w8 | apply w9 | apply w0 | rw [wrap64 (by omega) (by omega)] | ((first | refine hK _ ?_ | refine hKp _ _ ?_); clear hK hKp K Kp; try clear hanc anc) | ((with_reducible refine And.intro ?_ ?_); (focus (first | trivial | omega | (simp only [Fits]; omega) | assumption | (rw [hanc]; rfl)))) | ((first | refine K_regA hE fun K Kp hK hKp => ?_ | refine K_drwA true mixed hE fun K Kp hK hKp anc hanc => ?_ | refine K_drwA false mixed hE fun K Kp hK hKp anc hanc => ?_); simp only [go_sem, ↓reduceIte, reduceCtorEq, reduceAdd, reduceMul, reduceEqDiff, reduceLT, reduceLeDiff, reduceSub, reduceDiv, Nat.reduceBEq, Int.reduceBEq, reduceBNe, Int.reduceLT, reduceLE, reduceEq, ill_len]) | ((first | refine onG_split_t (fun hg => ?_) (fun hg => ?_) | refine onG_split_f (fun hg => ?_) (fun hg => ?_)) <;> simp only [go_sem, ↓reduceIte, reduceCtorEq, reduceAdd, reduceMul, reduceEqDiff, reduceLT, reduceLeDiff, reduceSub, reduceDiv, Nat.reduceBEq, Int.reduceBEq, reduceBNe, Int.reduceLT, reduceLE, reduceEq, ill_len, hg]) | (refine K_condA (fun hc => ?_) (fun hc => ?_) <;> try (exact absurd hc (by decide))))
  refine K_loop (X := Nat) (fun i => i ≤ l.length ∧ fidx b l 0 = fidx b (l.drop i) i) (fun i => ⟨mkFr [(0, .sl (ill l)), (1, .fn (.func g) [] cap), (7, AV.i l.length), (8, AV.i i)], hp, nx⟩) (fun i => l.length - i) 0 ⟨Nat.zero_le _, rfl⟩ (fun i => i) (ent_keep (by simp [go_sem, AV.ids, hcap]) (fun id ob h => ⟨h, hw.1 id ob h⟩) (by omega)) ?_
  rintro i ⟨hi, ht⟩
  by_cases hlt : i < l.length
  · obtain ⟨x, hx⟩ := get?_of hlt
    rw [drop_of hx, fidx] at ht
    repeat' (first | apply w1 | apply w2 | apply w3 | apply w4 | apply w5 | apply w6 | apply w7 | refine Kq_exit_ne (by decide) ?_ | apply w8 | apply w9 | apply w0 | rw [wrap64 (by omega) (by omega)] | ((first | refine hK _ ?_ | refine hKp _ _ ?_); clear hK hKp K Kp; try clear hanc anc) | ((with_reducible refine And.intro ?_ ?_); (focus (first | trivial | omega | (simp only [Fits]; omega) | assumption | (rw [hanc]; rfl)))) | ((first | refine K_regA hE fun K Kp hK hKp => ?_ | refine K_drwA true mixed hE fun K Kp hK hKp anc hanc => ?_ | refine K_drwA false mixed hE fun K Kp hK hKp anc hanc => ?_); simp only [go_sem, ↓reduceIte, reduceCtorEq, reduceAdd, reduceMul, reduceEqDiff, reduceLT, reduceLeDiff, reduceSub, reduceDiv, Nat.reduceBEq, Int.reduceBEq, reduceBNe, Int.reduceLT, reduceLE, reduceEq, lt_dec hlt, hx]) | ((first | refine onG_split_t (fun hg => ?_) (fun hg => ?_) | refine onG_split_f (fun hg => ?_) (fun hg => ?_)) <;> simp only [go_sem, ↓reduceIte, reduceCtorEq, reduceAdd, reduceMul, reduceEqDiff, reduceLT, reduceLeDiff, reduceSub, reduceDiv, Nat.reduceBEq, Int.reduceBEq, reduceBNe, Int.reduceLT, reduceLE, reduceEq, lt_dec hlt, hx, hg]) | (refine K_condA (fun hc => ?_) (fun hc => ?_) <;> try (exact absurd hc (by decide))))
    refine Hold.mk (HCall.use (hg x (List.mem_of_getElem? hx)) (fun i => i) (by rw [renL_id]) ⟨trivial, hcap⟩ (fun id ob h => by rw [oren_id]; exact h) (fun _ _ _ _ e => e) ?_)
    rintro ⟨fr', hp', nx'⟩ hnx hfr hold
    simp only at hnx hfr hold
    subst hnx hfr
    simp only [go_sem, ↓reduceIte, reduceCtorEq, reduceAdd, reduceMul, reduceEqDiff, reduceLT, reduceLeDiff, reduceSub, reduceDiv, Nat.reduceBEq, Int.reduceBEq, reduceBNe, Int.reduceLT, reduceLE, reduceEq]
    refine hK _ ?_; clear hK hKp K Kp; try clear hanc anc
    repeat (first | refine Kq_norm_code ?_ | refine Kq_norm_blk ?_ | refine Kq_norm_lp ?_)
    refine AW.ent (fun i => i) (σ' := ⟨mkFr [(0, .sl (ill l)), (1, .fn (.func g) [] cap), (5, AV.i i), (7, AV.i l.length), (8, AV.i i), (16, .bool (b x))], hp, nx⟩) (ent_keep (by simp [go_sem, AV.ids, hcap]) (fun id ob h => ⟨hold id ob h, hw.1 id ob h⟩) (by omega)) ?_
    cases hbx : b x
    · rw [hbx] at ht
      repeat' (first | apply w1 | apply w2 | apply w3 | apply w4 | apply w5 | apply w6 | apply w7 | refine Kq_exit_ne (by decide) ?_ | apply w8 | apply w9 | apply w0 | rw [wrap64 (by omega) (by omega)] | ((first | refine hK _ ?_ | refine hKp _ _ ?_); clear hK hKp K Kp; try clear hanc anc) | ((with_reducible refine And.intro ?_ ?_); (focus (first | trivial | omega | (simp only [Fits]; omega) | assumption | (rw [hanc]; rfl)))) | ((first | refine K_regA hE fun K Kp hK hKp => ?_ | refine K_drwA true mixed hE fun K Kp hK hKp anc hanc => ?_ | refine K_drwA false mixed hE fun K Kp hK hKp anc hanc => ?_); simp only [go_sem, ↓reduceIte, reduceCtorEq, reduceAdd, reduceMul, reduceEqDiff, reduceLT, reduceLeDiff, reduceSub, reduceDiv, Nat.reduceBEq, Int.reduceBEq, reduceBNe, Int.reduceLT, reduceLE, reduceEq]) | ((first | refine onG_split_t (fun hg => ?_) (fun hg => ?_) | refine onG_split_f (fun hg => ?_) (fun hg => ?_)) <;> simp only [go_sem, ↓reduceIte, reduceCtorEq, reduceAdd, reduceMul, reduceEqDiff, reduceLT, reduceLeDiff, reduceSub, reduceDiv, Nat.reduceBEq, Int.reduceBEq, reduceBNe, Int.reduceLT, reduceLE, reduceEq, hg]) | (refine K_condA (fun hc => ?_) (fun hc => ?_) <;> try (exact absurd hc (by decide))))
      exact ⟨i + 1, ⟨by omega, by simpa using ht⟩, by omega, fun i => i, ent_keep (by simp [go_sem, AV.ids, hcap]) (fun id ob h => ⟨h, hw.1 id ob h⟩) (by omega)⟩
    · rw [hbx, if_pos rfl] at ht
      rw [ht] at hQ
      repeat' (first | apply w1 | apply w2 | apply w3 | apply w4 | apply w5 | apply w6 | apply w7 | refine Kq_exit_ne (by decide) ?_ | apply w8 | apply w9 | apply w0 | rw [wrap64 (by omega) (by omega)] | ((first | refine hK _ ?_ | refine hKp _ _ ?_); clear hK hKp K Kp; try clear hanc anc) | ((with_reducible refine And.intro ?_ ?_); (focus (first | trivial | omega | (simp only [Fits]; omega) | assumption | (rw [hanc]; rfl)))) | ((first | refine K_regA hE fun K Kp hK hKp => ?_ | refine K_drwA true mixed hE fun K Kp hK hKp anc hanc => ?_ | refine K_drwA false mixed hE fun K Kp hK hKp anc hanc => ?_); simp only [go_sem, ↓reduceIte, reduceCtorEq, reduceAdd, reduceMul, reduceEqDiff, reduceLT, reduceLeDiff, reduceSub, reduceDiv, Nat.reduceBEq, Int.reduceBEq, reduceBNe, Int.reduceLT, reduceLE, reduceEq]) | ((first | refine onG_split_t (fun hg => ?_) (fun hg => ?_) | refine onG_split_f (fun hg => ?_) (fun hg => ?_)) <;> simp only [go_sem, ↓reduceIte, reduceCtorEq, reduceAdd, reduceMul, reduceEqDiff, reduceLT, reduceLeDiff, reduceSub, reduceDiv, Nat.reduceBEq, Int.reduceBEq, reduceBNe, Int.reduceLT, reduceLE, reduceEq, hg]) | (refine K_condA (fun hc => ?_) (fun hc => ?_) <;> try (exact absurd hc (by decide))))
      exact K_ret (hQ _ (by simp only [go_sem, ↓reduceIte, reduceCtorEq, reduceAdd, reduceMul, reduceEqDiff, reduceLT, reduceLeDiff, reduceSub, reduceDiv, Nat.reduceBEq, Int.reduceBEq, reduceBNe, Int.reduceLT, reduceLE, reduceEq]; rfl) (fun id ob h => h)).1
  · obtain rfl : i = l.length := by omega
    rw [List.drop_length, fidx] at ht
    rw [ht] at hQ
    repeat' (first | apply w1 | apply w2 | apply w3 | apply w4 | apply w5 | apply w6 | apply w7 | refine Kq_exit_ne (by decide) ?_ | apply w8 | apply w9 | apply w0 | rw [wrap64 (by omega) (by omega)] | ((first | refine hK _ ?_ | refine hKp _ _ ?_); clear hK hKp K Kp; try clear hanc anc) | ((with_reducible refine And.intro ?_ ?_); (focus (first | trivial | omega | (simp only [Fits]; omega) | assumption | (rw [hanc]; rfl)))) | ((first | refine K_regA hE fun K Kp hK hKp => ?_ | refine K_drwA true mixed hE fun K Kp hK hKp anc hanc => ?_ | refine K_drwA false mixed hE fun K Kp hK hKp anc hanc => ?_); simp only [go_sem, ↓reduceIte, reduceCtorEq, reduceAdd, reduceMul, reduceEqDiff, reduceLT, reduceLeDiff, reduceSub, reduceDiv, Nat.reduceBEq, Int.reduceBEq, reduceBNe, Int.reduceLT, reduceLE, reduceEq, ge_dec]) | ((first | refine onG_split_t (fun hg => ?_) (fun hg => ?_) | refine onG_split_f (fun hg => ?_) (fun hg => ?_)) <;> simp only [go_sem, ↓reduceIte, reduceCtorEq, reduceAdd, reduceMul, reduceEqDiff, reduceLT, reduceLeDiff, reduceSub, reduceDiv, Nat.reduceBEq, Int.reduceBEq, reduceBNe, Int.reduceLT, reduceLE, reduceEq, ge_dec, hg]) | (refine K_condA (fun hc => ?_) (fun hc => ?_) <;> try (exact absurd hc (by decide))))
    exact K_ret (hQ _ (by simp only [go_sem, ↓reduceIte, reduceCtorEq, reduceAdd, reduceMul, reduceEqDiff, reduceLT, reduceLeDiff, reduceSub, reduceDiv, Nat.reduceBEq, Int.reduceBEq, reduceBNe, Int.reduceLT, reduceLE, reduceEq]; rfl) (fun id ob h => h)).1

theorem every_hc (l : List Int) (g : Nat) (cap : List AV) (hp : Nat → Option AObj) (nx : Nat) (b : Int → Bool) (hcap : AV.idsL (· < nx) cap) (hw : WF hp nx) (hl : l.length ≤ 2 ^ 40) (hg : ∀ x, x ∈ l → HCall g (.i x :: cap) hp nx (.bool (b x))) : HCall 26 [.sl (il l), .fn (.func g) [] cap] hp nx (.bool (l.all b)) := by
  refine HCall.intro hw rfl Try.func26 rfl isf26 (by simp [Try.f26]) fun E Q hE hN hQ => K_start ?_
  repeat' (first | apply w1 | apply w2 | apply w3 | apply w4 | apply w5 | apply w6 | apply w7 | refine Kq_exit_ne (by decide) ?_ | apply w8 | apply w9 | apply w0 | rw [wrap64 (by omega) (by omega)] | ((first | refine hK _ ?_ | refine hKp _ _ ?_); clear hK hKp K Kp; try clear hanc anc) | ((with_reducible refine And.intro ?_ ?_); (focus (first | trivial | omega | (simp only [Fits]; omega) | assumption | (rw [hanc]; rfl)))) | ((first | refine K_regA hE fun K Kp hK hKp => ?_ | refine K_drwA true mixed hE fun K Kp hK hKp anc hanc => ?_ | refine K_drwA false mixed hE fun K Kp hK hKp anc hanc => ?_); simp only [go_sem, ↓reduceIte, reduceCtorEq, reduceAdd, reduceMul, reduceEqDiff, reduceLT, reduceLeDiff, reduceSub, reduceDiv, Nat.reduceBEq, Int.reduceBEq, reduceBNe, Int.reduceLT, reduceLE, reduceEq, il_len]) | ((first | refine onG_split_t (fun hg => ?_) (fun hg => ?_) | refine onG_split_f (fun hg => ?_) (fun hg => ?_)) <;> simp only [go_sem, ↓reduceIte, reduceCtorEq, reduceAdd, reduceMul, reduceEqDiff, reduceLT, reduceLeDiff, reduceSub, reduceDiv, Nat.reduceBEq, Int.reduceBEq, reduceBNe, Int.reduceLT, reduceLE, reduceEq, il_len, hg]) | (refine K_condA (fun hc => ?_) (fun hc => ?_) <;> try (exact absurd hc (by decide))))
  refine K_loop (X := Nat) (fun i => i ≤ l.length ∧ l.all b = (l.drop i).all b) (fun i => ⟨mkFr [(1, .fn (.func g) [] cap), (7, .sl (il l)), (8, AV.i l.length), (9, AV.i i)], hp, nx⟩) (fun i => l.length - i) 0 ⟨Nat.zero_le _, rfl⟩ (fun i => i) (ent_keep (by simp [go_sem, AV.ids, hcap]) (fun id ob h => ⟨h, hw.1 id ob h⟩) (by omega)) ?_
  rintro i ⟨hi, ht⟩
  by_cases hlt : i < l.length
  · obtain ⟨x, hx⟩ := get?_of hlt
    rw [drop_of hx, List.all_cons] at ht
    repeat' (first | apply w1 | apply w2 | apply w3 | apply w4 | apply w5 | apply w6 | apply w7 | refine Kq_exit_ne (by decide) ?_ | apply w8 | apply w9 | apply w0 | rw [wrap64 (by omega) (by omega)] | ((first | refine hK _ ?_ | refine hKp _ _ ?_); clear hK hKp K Kp; try clear hanc anc) | ((with_reducible refine And.intro ?_ ?_); (focus (first | trivial | omega | (simp only [Fits]; omega) | assumption | (rw [hanc]; rfl)))) | ((first | refine K_regA hE fun K Kp hK hKp => ?_ | refine K_drwA true mixed hE fun K Kp hK hKp anc hanc => ?_ | refine K_drwA false mixed hE fun K Kp hK hKp anc hanc => ?_); simp only [go_sem, ↓reduceIte, reduceCtorEq, reduceAdd, reduceMul, reduceEqDiff, reduceLT, reduceLeDiff, reduceSub, reduceDiv, Nat.reduceBEq, Int.reduceBEq, reduceBNe, Int.reduceLT, reduceLE, reduceEq, lt_dec hlt, hx]) | ((first | refine onG_split_t (fun hg => ?_) (fun hg => ?_) | refine onG_split_f (fun hg => ?_) (fun hg => ?_)) <;> simp only [go_sem, ↓reduceIte, reduceCtorEq, reduceAdd, reduceMul, reduceEqDiff, reduceLT, reduceLeDiff, reduceSub, reduceDiv, Nat.reduceBEq, Int.reduceBEq, reduceBNe, Int.reduceLT, reduceLE, reduceEq, lt_dec hlt, hx, hg]) | (refine K_condA (fun hc => ?_) (fun hc => ?_) <;> try (exact absurd hc (by decide))))
    refine Hold.mk (HCall.use (hg x (List.mem_of_getElem? hx)) (fun i => i) (by rw [renL_id]) ⟨trivial, hcap⟩ (fun id ob h => by rw [oren_id]; exact h) (fun _ _ _ _ e => e) ?_)
    rintro ⟨fr', hp', nx'⟩ hnx hfr hold
    simp only at hnx hfr hold
    subst hnx hfr
    simp only [go_sem, ↓reduceIte, reduceCtorEq, reduceAdd, reduceMul, reduceEqDiff, reduceLT, reduceLeDiff, reduceSub, reduceDiv, Nat.reduceBEq, Int.reduceBEq, reduceBNe, Int.reduceLT, reduceLE, reduceEq]
    refine hK _ ?_; clear hK hKp K Kp; try clear hanc anc
    repeat (first | refine Kq_norm_code ?_ | refine Kq_norm_blk ?_ | refine Kq_norm_lp ?_)
    refine AW.ent (fun i => i) (σ' := ⟨mkFr [(1, .fn (.func g) [] cap), (7, .sl (il l)), (8, AV.i l.length), (9, AV.i i), (16, .bool (!b x))], hp, nx⟩) (ent_keep (by simp [go_sem, AV.ids, hcap]) (fun id ob h => ⟨hold id ob h, hw.1 id ob h⟩) (by omega)) ?_
    cases hbx : b x
    · rw [hbx] at ht
      rw [ht] at hQ
      repeat' (first | apply w1 | apply w2 | apply w3 | apply w4 | apply w5 | apply w6 | apply w7 | refine Kq_exit_ne (by decide) ?_ | apply w8 | apply w9 | apply w0 | rw [wrap64 (by omega) (by omega)] | ((first | refine hK _ ?_ | refine hKp _ _ ?_); clear hK hKp K Kp; try clear hanc anc) | ((with_reducible refine And.intro ?_ ?_); (focus (first | trivial | omega | (simp only [Fits]; omega) | assumption | (rw [hanc]; rfl)))) | ((first | refine K_regA hE fun K Kp hK hKp => ?_ | refine K_drwA true mixed hE fun K Kp hK hKp anc hanc => ?_ | refine K_drwA false mixed hE fun K Kp hK hKp anc hanc => ?_); simp only [go_sem, ↓reduceIte, reduceCtorEq, reduceAdd, reduceMul, reduceEqDiff, reduceLT, reduceLeDiff, reduceSub, reduceDiv, Nat.reduceBEq, Int.reduceBEq, reduceBNe, Int.reduceLT, reduceLE, reduceEq]) | ((first | refine onG_split_t (fun hg => ?_) (fun hg => ?_) | refine onG_split_f (fun hg => ?_) (fun hg => ?_)) <;> simp only [go_sem, ↓reduceIte, reduceCtorEq, reduceAdd, reduceMul, reduceEqDiff, reduceLT, reduceLeDiff, reduceSub, reduceDiv, Nat.reduceBEq, Int.reduceBEq, reduceBNe, Int.reduceLT, reduceLE, reduceEq, hg]) | (refine K_condA (fun hc => ?_) (fun hc => ?_) <;> try (exact absurd hc (by decide))))
      exact K_ret (hQ _ (by simp only [go_sem, ↓reduceIte, reduceCtorEq, reduceAdd, reduceMul, reduceEqDiff, reduceLT, reduceLeDiff, reduceSub, reduceDiv, Nat.reduceBEq, Int.reduceBEq, reduceBNe, Int.reduceLT, reduceLE, reduceEq]; rfl) (fun id ob h => h)).1
    · rw [hbx] at ht
      repeat' (first | apply w1 | apply w2 | apply w3 | apply w4 | apply w5 | apply w6 | apply w7 | refine Kq_exit_ne (by decide) ?_ | apply w8 | apply w9 | apply w0 | rw [wrap64 (by omega) (by omega)] | ((first | refine hK _ ?_ | refine hKp _ _ ?_); clear hK hKp K Kp; try clear hanc anc) | ((with_reducible refine And.intro ?_ ?_); (focus (first | trivial | omega | (simp only [Fits]; omega) | assumption | (rw [hanc]; rfl)))) | ((first | refine K_regA hE fun K Kp hK hKp => ?_ | refine K_drwA true mixed hE fun K Kp hK hKp anc hanc => ?_ | refine K_drwA false mixed hE fun K Kp hK hKp anc hanc => ?_); simp only [go_sem, ↓reduceIte, reduceCtorEq, reduceAdd, reduceMul, reduceEqDiff, reduceLT, reduceLeDiff, reduceSub, reduceDiv, Nat.reduceBEq, Int.reduceBEq, reduceBNe, Int.reduceLT, reduceLE, reduceEq]) | ((first | refine onG_split_t (fun hg => ?_) (fun hg => ?_) | refine onG_split_f (fun hg => ?_) (fun hg => ?_)) <;> simp only [go_sem, ↓reduceIte, reduceCtorEq, reduceAdd, reduceMul, reduceEqDiff, reduceLT, reduceLeDiff, reduceSub, reduceDiv, Nat.reduceBEq, Int.reduceBEq, reduceBNe, Int.reduceLT, reduceLE, reduceEq, hg]) | (refine K_condA (fun hc => ?_) (fun hc => ?_) <;> try (exact absurd hc (by decide))))
      exact ⟨i + 1, ⟨by omega, by simpa using ht⟩, by omega, fun i => i, ent_keep (by simp [go_sem, AV.ids, hcap]) (fun id ob h => ⟨h, hw.1 id ob h⟩) (by omega)⟩
  · obtain rfl : i = l.length := by omega
    rw [List.drop_length] at ht
    rw [ht] at hQ
    repeat' (first | apply w1 | apply w2 | apply w3 | apply w4 | apply w5 | apply w6 | apply w7 | refine Kq_exit_ne (by decide) ?_ | apply w8 | apply w9 | apply w0 | rw [wrap64 (by omega) (by omega)] | ((first | refine hK _ ?_ | refine hKp _ _ ?_); clear hK hKp K Kp; try clear hanc anc) | ((with_reducible refine And.intro ?_ ?_); (focus (first | trivial | omega | (simp only [Fits]; omega) | assumption | (rw [hanc]; rfl)))) | ((first | refine K_regA hE fun K Kp hK hKp => ?_ | refine K_drwA true mixed hE fun K Kp hK hKp anc hanc => ?_ | refine K_drwA false mixed hE fun K Kp hK hKp anc hanc => ?_); simp only [go_sem, ↓reduceIte, reduceCtorEq, reduceAdd, reduceMul, reduceEqDiff, reduceLT, reduceLeDiff, reduceSub, reduceDiv, Nat.reduceBEq, Int.reduceBEq, reduceBNe, Int.reduceLT, reduceLE, reduceEq, ge_dec]) | ((first | refine onG_split_t (fun hg => ?_) (fun hg => ?_) | refine onG_split_f (fun hg => ?_) (fun hg => ?_)) <;> simp only [go_sem, ↓reduceIte, reduceCtorEq, reduceAdd, reduceMul, reduceEqDiff, reduceLT, reduceLeDiff, reduceSub, reduceDiv, Nat.reduceBEq, Int.reduceBEq, reduceBNe, Int.reduceLT, reduceLE, reduceEq, ge_dec, hg]) | (refine K_condA (fun hc => ?_) (fun hc => ?_) <;> try (exact absurd hc (by decide))))
    exact K_ret (hQ _ (by simp only [go_sem, ↓reduceIte, reduceCtorEq, reduceAdd, reduceMul, reduceEqDiff, reduceLT, reduceLeDiff, reduceSub, reduceDiv, Nat.reduceBEq, Int.reduceBEq, reduceBNe, Int.reduceLT, reduceLE, reduceEq]; rfl) (fun id ob h => h)).1
end Go.Proofs.Ytakpabiefjlmaaa


/- Chapter 22: valid. -/
set_option linter.unusedSimpArgs false
set_option linter.unusedVariables false
set_option maxHeartbeats 4000000
set_option maxRecDepth 100000
namespace Go.Proofs.Ytakpabiefjlmaaa
open Nat (reduceAdd reduceMul reduceEqDiff reduceLT reduceLeDiff reduceSub reduceDiv)
open Int (reduceBNe reduceLE reduceEq)
open Go.Am Go.Proofs
attribute [local irreducible] AW CallP CallB

theorem fidx_ge {α : Type} (b : α → Bool) : ∀ (l : List α) (k : Nat), decide (0 ≤ fidx b l k) = l.any b
  | [], k => by simp [fidx]
  | x :: l, k => by
    rw [fidx, List.any_cons]
    cases hb : b x
    · simp only [Bool.false_eq_true, if_false, Bool.false_or]
      exact fidx_ge b l (k + 1)
    · simp

theorem wf1 {o0 : AObj} (h0 : o0.ids (· < 1)) : WF (mkHp [(0, o0)]) 1 := by
  refine ⟨fun id ob h => ?_, fun id hid => ?_⟩
  · simp only [mkHp, updo] at h
    split at h
    · rename_i e; cases h; exact ⟨by omega, h0⟩
    · cases h
  · obtain rfl : id = 0 := by omega
    simp [mkHp, updo]
theorem wf2 {o0 o1 : AObj} (h0 : o0.ids (· < 2)) (h1 : o1.ids (· < 2)) : WF (mkHp [(0, o0), (1, o1)]) 2 := by
  refine ⟨fun id ob h => ?_, fun id hid => ?_⟩
  · simp only [mkHp, updo] at h
    split at h
    · rename_i e; cases h; exact ⟨by omega, h0⟩
    · split at h
      · rename_i e; cases h; exact ⟨by omega, h1⟩
      · cases h
  · rcases (by omega : id = 0 ∨ id = 1) with rfl | rfl <;> simp [mkHp, updo]
theorem wf3 {o0 o1 o2 : AObj} (h0 : o0.ids (· < 3)) (h1 : o1.ids (· < 3)) (h2 : o2.ids (· < 3)) : WF (mkHp [(0, o0), (1, o1), (2, o2)]) 3 := by
  refine ⟨fun id ob h => ?_, fun id hid => ?_⟩
  · simp only [mkHp, updo] at h
    split at h
    · rename_i e; cases h; exact ⟨by omega, h0⟩
    · split at h
      · rename_i e; cases h; exact ⟨by omega, h1⟩
      · split at h
        · rename_i e; cases h; exact ⟨by omega, h2⟩
        · cases h
  · rcases (by omega : id = 0 ∨ id = 1 ∨ id = 2) with rfl | rfl | rfl <;> simp [mkHp, updo]
theorem mkHp_all {objs : List (Nat × AObj)} {p : Nat → AObj → Prop} (h : ∀ q, q ∈ objs → p q.1 q.2) : ∀ id ob, mkHp objs id = some ob → p id ob := by
  induction objs with
  | nil => intro id ob h'; cases h'
  | cons q l ih =>
    intro id ob h'
    obtain ⟨t, o⟩ := q
    simp only [mkHp, updo] at h'
    split at h'
    · rename_i e; cases h'; rw [e]; exact h (t, ob) (by simp)
    · exact ih (fun q hq => h q (List.mem_cons_of_mem _ hq)) id ob h'

theorem contains_hc (l : List Int) (g : Nat) (cap : List AV) (hp : Nat → Option AObj) (nx : Nat) (b : Int → Bool) (hcap : AV.idsL (· < nx) cap) (hw : WF hp nx) (hl : l.length ≤ 2 ^ 40) (hg : ∀ x, x ∈ l → HCall g (.i x :: cap) hp nx (.bool (b x))) : HCall 30 [.sl (il l), .fn (.func g) [] cap] hp nx (.bool (l.any b)) := by
  refine HCall.intro hw rfl Try.func30 rfl isf30 (by simp [Try.f30]) fun E Q hE hN hQ => K_start ?_
  repeat' (first | apply w1 | apply w2 | apply w3 | apply w4 | apply w5 | apply w6 | apply w7 | refine Kq_exit_ne (by decide) ?_ | apply w8 | apply w9 | apply w0 | rw [wrap64 (by omega) (by omega)] | ((first | refine hK _ ?_ | refine hKp _ _ ?_); clear hK hKp K Kp; try clear hanc anc) | ((with_reducible refine And.intro ?_ ?_); (focus (first | trivial | omega | (simp only [Fits]; omega) | assumption | (rw [hanc]; rfl)))) | ((first | refine K_regA hE fun K Kp hK hKp => ?_ | refine K_drwA true mixed hE fun K Kp hK hKp anc hanc => ?_ | refine K_drwA false mixed hE fun K Kp hK hKp anc hanc => ?_); simp only [go_sem, ↓reduceIte, reduceCtorEq, reduceAdd, reduceMul, reduceEqDiff, reduceLT, reduceLeDiff, reduceSub, reduceDiv, Nat.reduceBEq, Int.reduceBEq, reduceBNe, Int.reduceLT, reduceLE, reduceEq]) | ((first | refine onG_split_t (fun hg => ?_) (fun hg => ?_) | refine onG_split_f (fun hg => ?_) (fun hg => ?_)) <;> simp only [go_sem, ↓reduceIte, reduceCtorEq, reduceAdd, reduceMul, reduceEqDiff, reduceLT, reduceLeDiff, reduceSub, reduceDiv, Nat.reduceBEq, Int.reduceBEq, reduceBNe, Int.reduceLT, reduceLE, reduceEq, hg]) | (refine K_condA (fun hc => ?_) (fun hc => ?_) <;> try (exact absurd hc (by decide))))
  refine Hold.mk (HCall.use (index_hc l g cap hp nx b hcap hw hl hg) (fun i => i) (by rw [renL_id]) ⟨trivial, ⟨trivial, hcap⟩, trivial⟩ (fun id ob h => by rw [oren_id]; exact h) (fun _ _ _ _ e => e) ?_)
  rintro ⟨fr', hp', nx'⟩ hnx hfr hold
  simp only at hnx hfr hold
  subst hnx hfr
  simp only [go_sem, ↓reduceIte, reduceCtorEq, reduceAdd, reduceMul, reduceEqDiff, reduceLT, reduceLeDiff, reduceSub, reduceDiv, Nat.reduceBEq, Int.reduceBEq, reduceBNe, Int.reduceLT, reduceLE, reduceEq, fidx_ge]
  refine hK _ ?_; clear hK hKp K Kp; try clear hanc anc
  repeat (first | refine Kq_norm_code ?_ | refine Kq_norm_blk ?_ | refine Kq_norm_lp ?_)
  repeat' (first | apply w1 | apply w2 | apply w3 | apply w4 | apply w5 | apply w6 | apply w7 | refine Kq_exit_ne (by decide) ?_ | apply w8 | apply w9 | apply w0 | rw [wrap64 (by omega) (by omega)] | ((first | refine hK _ ?_ | refine hKp _ _ ?_); clear hK hKp K Kp; try clear hanc anc) | ((with_reducible refine And.intro ?_ ?_); (focus (first | trivial | omega | (simp only [Fits]; omega) | assumption | (rw [hanc]; rfl)))) | ((first | refine K_regA hE fun K Kp hK hKp => ?_ | refine K_drwA true mixed hE fun K Kp hK hKp anc hanc => ?_ | refine K_drwA false mixed hE fun K Kp hK hKp anc hanc => ?_); simp only [go_sem, ↓reduceIte, reduceCtorEq, reduceAdd, reduceMul, reduceEqDiff, reduceLT, reduceLeDiff, reduceSub, reduceDiv, Nat.reduceBEq, Int.reduceBEq, reduceBNe, Int.reduceLT, reduceLE, reduceEq]) | ((first | refine onG_split_t (fun hg => ?_) (fun hg => ?_) | refine onG_split_f (fun hg => ?_) (fun hg => ?_)) <;> simp only [go_sem, ↓reduceIte, reduceCtorEq, reduceAdd, reduceMul, reduceEqDiff, reduceLT, reduceLeDiff, reduceSub, reduceDiv, Nat.reduceBEq, Int.reduceBEq, reduceBNe, Int.reduceLT, reduceLE, reduceEq, hg]) | (refine K_condA (fun hc => ?_) (fun hc => ?_) <;> try (exact absurd hc (by decide))))
  exact K_ret (hQ _ (by simp only [go_sem, ↓reduceIte, reduceCtorEq, reduceAdd, reduceMul, reduceEqDiff, reduceLT, reduceLeDiff, reduceSub, reduceDiv, Nat.reduceBEq, Int.reduceBEq, reduceBNe, Int.reduceLT, reduceLE, reduceEq]; rfl) (fun id ob h => hold id ob h)).1
theorem containsl_hc (l : List (List Int)) (g : Nat) (cap : List AV) (hp : Nat → Option AObj) (nx : Nat) (b : (List Int) → Bool) (hcap : AV.idsL (· < nx) cap) (hw : WF hp nx) (hl : l.length ≤ 2 ^ 40) (hg : ∀ x, x ∈ l → HCall g (.sl (il x) :: cap) hp nx (.bool (b x))) : HCall 34 [.sl (ill l), .fn (.func g) [] cap] hp nx (.bool (l.any b)) := by
  refine HCall.intro hw rfl Try.func34 rfl isf34 (by simp [Try.f34]) fun E Q hE hN hQ => K_start ?_
  repeat' (first | apply w1 | apply w2 | apply w3 | apply w4 | apply w5 | apply w6 | apply w7 | refine Kq_exit_ne (by decide) ?_ | apply w8 | apply w9 | apply w0 | rw [wrap64 (by omega) (by omega)] | ((first | refine hK _ ?_ | refine hKp _ _ ?_); clear hK hKp K Kp; try clear hanc anc) | ((with_reducible refine And.intro ?_ ?_); (focus (first | trivial | omega | (simp only [Fits]; omega) | assumption | (rw [hanc]; rfl)))) | ((first | refine K_regA hE fun K Kp hK hKp => ?_ | refine K_drwA true mixed hE fun K Kp hK hKp anc hanc => ?_ | refine K_drwA false mixed hE fun K Kp hK hKp anc hanc => ?_); simp only [go_sem, ↓reduceIte, reduceCtorEq, reduceAdd, reduceMul, reduceEqDiff, reduceLT, reduceLeDiff, reduceSub, reduceDiv, Nat.reduceBEq, Int.reduceBEq, reduceBNe, Int.reduceLT, reduceLE, reduceEq]) | ((first | refine onG_split_t (fun hg => ?_) (fun hg => ?_) | refine onG_split_f (fun hg => ?_) (fun hg => ?_)) <;> simp only [go_sem, ↓reduceIte, reduceCtorEq, reduceAdd, reduceMul, reduceEqDiff, reduceLT, reduceLeDiff, reduceSub, reduceDiv, Nat.reduceBEq, Int.reduceBEq, reduceBNe, Int.reduceLT, reduceLE, reduceEq, hg]) | (refine K_condA (fun hc => ?_) (fun hc => ?_) <;> try (exact absurd hc (by decide))))
  refine Hold.mk (HCall.use (indexl_hc l g cap hp nx b hcap hw hl hg) (fun i => i) (by rw [renL_id]) ⟨trivial, ⟨trivial, hcap⟩, trivial⟩ (fun id ob h => by rw [oren_id]; exact h) (fun _ _ _ _ e => e) ?_)
  rintro ⟨fr', hp', nx'⟩ hnx hfr hold
  simp only at hnx hfr hold
  subst hnx hfr
  simp only [go_sem, ↓reduceIte, reduceCtorEq, reduceAdd, reduceMul, reduceEqDiff, reduceLT, reduceLeDiff, reduceSub, reduceDiv, Nat.reduceBEq, Int.reduceBEq, reduceBNe, Int.reduceLT, reduceLE, reduceEq, fidx_ge]
  refine hK _ ?_; clear hK hKp K Kp; try clear hanc anc
  repeat (first | refine Kq_norm_code ?_ | refine Kq_norm_blk ?_ | refine Kq_norm_lp ?_)
  repeat' (first | apply w1 | apply w2 | apply w3 | apply w4 | apply w5 | apply w6 | apply w7 | refine Kq_exit_ne (by decide) ?_ | apply w8 | apply w9 | apply w0 | rw [wrap64 (by omega) (by omega)] | ((first | refine hK _ ?_ | refine hKp _ _ ?_); clear hK hKp K Kp; try clear hanc anc) | ((with_reducible refine And.intro ?_ ?_); (focus (first | trivial | omega | (simp only [Fits]; omega) | assumption | (rw [hanc]; rfl)))) | ((first | refine K_regA hE fun K Kp hK hKp => ?_ | refine K_drwA true mixed hE fun K Kp hK hKp anc hanc => ?_ | refine K_drwA false mixed hE fun K Kp hK hKp anc hanc => ?_); simp only [go_sem, ↓reduceIte, reduceCtorEq, reduceAdd, reduceMul, reduceEqDiff, reduceLT, reduceLeDiff, reduceSub, reduceDiv, Nat.reduceBEq, Int.reduceBEq, reduceBNe, Int.reduceLT, reduceLE, reduceEq]) | ((first | refine onG_split_t (fun hg => ?_) (fun hg => ?_) | refine onG_split_f (fun hg => ?_) (fun hg => ?_)) <;> simp only [go_sem, ↓reduceIte, reduceCtorEq, reduceAdd, reduceMul, reduceEqDiff, reduceLT, reduceLeDiff, reduceSub, reduceDiv, Nat.reduceBEq, Int.reduceBEq, reduceBNe, Int.reduceLT, reduceLE, reduceEq, hg]) | (refine K_condA (fun hc => ?_) (fun hc => ?_) <;> try (exact absurd hc (by decide))))
  exact K_ret (hQ _ (by simp only [go_sem, ↓reduceIte, reduceCtorEq, reduceAdd, reduceMul, reduceEqDiff, reduceLT, reduceLeDiff, reduceSub, reduceDiv, Nat.reduceBEq, Int.reduceBEq, reduceBNe, Int.reduceLT, reduceLE, reduceEq]; rfl) (fun id ob h => hold id ob h)).1

def outs (u : List (List Int)) (x : Int) : Bool := decide (x < 0) || decide ((u.length : Int) ≤ x)
theorem out_hc (u : List (List Int)) (x : Int) (hp : Nat → Option AObj) (nx A : Nat) (hw : WF hp nx) (hu : u.length ≤ 2 ^ 40) (hA : hp A = some (.cells [.sl (ill u)])) : HCall 33 [.i x, .ptr A 0] hp nx (.bool (outs u x)) := by
  unfold outs
  refine HCall.intro hw rfl Try.func33 rfl isf33 (by simp [Try.f33]) fun E Q hE hN hQ => K_start ?_
  cases h0 : decide (x < 0)
  · rw [h0] at hQ
    repeat' (first | apply w1 | apply w2 | apply w3 | apply w4 | apply w5 | apply w6 | apply w7 | refine Kq_exit_ne (by decide) ?_ | apply w8 | apply w9 | apply w0 | rw [wrap64 (by omega) (by omega)] | ((first | refine hK _ ?_ | refine hKp _ _ ?_); clear hK hKp K Kp; try clear hanc anc) | ((with_reducible refine And.intro ?_ ?_); (focus (first | trivial | omega | (simp only [Fits]; omega) | assumption | (rw [hanc]; rfl)))) | ((first | refine K_regA hE fun K Kp hK hKp => ?_ | refine K_drwA true mixed hE fun K Kp hK hKp anc hanc => ?_ | refine K_drwA false mixed hE fun K Kp hK hKp anc hanc => ?_); simp only [go_sem, ↓reduceIte, reduceCtorEq, reduceAdd, reduceMul, reduceEqDiff, reduceLT, reduceLeDiff, reduceSub, reduceDiv, Nat.reduceBEq, Int.reduceBEq, reduceBNe, Int.reduceLT, reduceLE, reduceEq, hA, h0]) | ((first | refine onG_split_t (fun hg => ?_) (fun hg => ?_) | refine onG_split_f (fun hg => ?_) (fun hg => ?_)) <;> simp only [go_sem, ↓reduceIte, reduceCtorEq, reduceAdd, reduceMul, reduceEqDiff, reduceLT, reduceLeDiff, reduceSub, reduceDiv, Nat.reduceBEq, Int.reduceBEq, reduceBNe, Int.reduceLT, reduceLE, reduceEq, hA, h0, hg]) | (refine K_condA (fun hc => ?_) (fun hc => ?_) <;> try (exact absurd hc (by decide))))
    exact K_ret (hQ _ (by simp only [go_sem, ↓reduceIte, reduceCtorEq, reduceAdd, reduceMul, reduceEqDiff, reduceLT, reduceLeDiff, reduceSub, reduceDiv, Nat.reduceBEq, Int.reduceBEq, reduceBNe, Int.reduceLT, reduceLE, reduceEq]; rfl) (fun id ob h => h)).1
  · rw [h0] at hQ
    repeat' (first | apply w1 | apply w2 | apply w3 | apply w4 | apply w5 | apply w6 | apply w7 | refine Kq_exit_ne (by decide) ?_ | apply w8 | apply w9 | apply w0 | rw [wrap64 (by omega) (by omega)] | ((first | refine hK _ ?_ | refine hKp _ _ ?_); clear hK hKp K Kp; try clear hanc anc) | ((with_reducible refine And.intro ?_ ?_); (focus (first | trivial | omega | (simp only [Fits]; omega) | assumption | (rw [hanc]; rfl)))) | ((first | refine K_regA hE fun K Kp hK hKp => ?_ | refine K_drwA true mixed hE fun K Kp hK hKp anc hanc => ?_ | refine K_drwA false mixed hE fun K Kp hK hKp anc hanc => ?_); simp only [go_sem, ↓reduceIte, reduceCtorEq, reduceAdd, reduceMul, reduceEqDiff, reduceLT, reduceLeDiff, reduceSub, reduceDiv, Nat.reduceBEq, Int.reduceBEq, reduceBNe, Int.reduceLT, reduceLE, reduceEq, hA, h0]) | ((first | refine onG_split_t (fun hg => ?_) (fun hg => ?_) | refine onG_split_f (fun hg => ?_) (fun hg => ?_)) <;> simp only [go_sem, ↓reduceIte, reduceCtorEq, reduceAdd, reduceMul, reduceEqDiff, reduceLT, reduceLeDiff, reduceSub, reduceDiv, Nat.reduceBEq, Int.reduceBEq, reduceBNe, Int.reduceLT, reduceLE, reduceEq, hA, h0, hg]) | (refine K_condA (fun hc => ?_) (fun hc => ?_) <;> try (exact absurd hc (by decide))))
    exact K_ret (hQ _ (by simp only [go_sem, ↓reduceIte, reduceCtorEq, reduceAdd, reduceMul, reduceEqDiff, reduceLT, reduceLeDiff, reduceSub, reduceDiv, Nat.reduceBEq, Int.reduceBEq, reduceBNe, Int.reduceLT, reduceLE, reduceEq]; rfl) (fun id ob h => h)).1
def valid (u : List (List Int)) : Bool := decide (u.length ≤ 16) && !(u.any fun l => l.any (outs u))

theorem outl_hc (u : List (List Int)) (r : List Int) (hr : r.length ≤ 2 ^ 40) (hu : u.length ≤ 2 ^ 40) : HCall 35 [.sl (il r), .ptr 1 0] (mkHp [(0, .cells [.sl (ill u)]), (1, .cells [.fn (.func 33) [] [.ptr 0 0]])]) 2 (.bool (r.any (outs u))) := by
  have hw : WF (mkHp [(0, .cells [.sl (ill u)]), (1, .cells [.fn (.func 33) [] [.ptr 0 0]])]) 2 := wf2 (by simp [AObj.ids, AV.idsL, AV.ids]) (by simp [AObj.ids, AV.idsL, AV.ids])
  refine HCall.intro hw rfl Try.func35 rfl isf35 (by simp [Try.f35]) fun E Q hE hN hQ => K_start ?_
  repeat' (first | apply w1 | apply w2 | apply w3 | apply w4 | apply w5 | apply w6 | apply w7 | refine Kq_exit_ne (by decide) ?_ | apply w8 | apply w9 | apply w0 | rw [wrap64 (by omega) (by omega)] | ((first | refine hK _ ?_ | refine hKp _ _ ?_); clear hK hKp K Kp; try clear hanc anc) | ((with_reducible refine And.intro ?_ ?_); (focus (first | trivial | omega | (simp only [Fits]; omega) | assumption | (rw [hanc]; rfl)))) | ((first | refine K_regA hE fun K Kp hK hKp => ?_ | refine K_drwA true mixed hE fun K Kp hK hKp anc hanc => ?_ | refine K_drwA false mixed hE fun K Kp hK hKp anc hanc => ?_); simp only [go_sem, ↓reduceIte, reduceCtorEq, reduceAdd, reduceMul, reduceEqDiff, reduceLT, reduceLeDiff, reduceSub, reduceDiv, Nat.reduceBEq, Int.reduceBEq, reduceBNe, Int.reduceLT, reduceLE, reduceEq]) | ((first | refine onG_split_t (fun hg => ?_) (fun hg => ?_) | refine onG_split_f (fun hg => ?_) (fun hg => ?_)) <;> simp only [go_sem, ↓reduceIte, reduceCtorEq, reduceAdd, reduceMul, reduceEqDiff, reduceLT, reduceLeDiff, reduceSub, reduceDiv, Nat.reduceBEq, Int.reduceBEq, reduceBNe, Int.reduceLT, reduceLE, reduceEq, hg]) | (refine K_condA (fun hc => ?_) (fun hc => ?_) <;> try (exact absurd hc (by decide))))
  refine Hold.mk (HCall.use (contains_hc r 33 [.ptr 0 0] (mkHp [(0, .cells [.sl (ill u)]), (1, .cells [.fn (.func 33) [] [.ptr 0 0]])]) 2 (outs u) (by simp [AV.idsL, AV.ids]) hw hr (fun x _ => out_hc u x _ 2 0 hw hu rfl)) (fun i => i) (by rw [renL_id]) (by simp [AV.idsL, AV.ids]) (fun id ob h => by rw [oren_id]; exact h) (fun _ _ _ _ e => e) ?_)
  rintro ⟨fr', hp', nx'⟩ hnx hfr hold
  simp only at hnx hfr hold
  subst hnx hfr
  simp only [go_sem, ↓reduceIte, reduceCtorEq, reduceAdd, reduceMul, reduceEqDiff, reduceLT, reduceLeDiff, reduceSub, reduceDiv, Nat.reduceBEq, Int.reduceBEq, reduceBNe, Int.reduceLT, reduceLE, reduceEq]
  refine hK _ ?_; clear hK hKp K Kp; try clear hanc anc
  repeat (first | refine Kq_norm_code ?_ | refine Kq_norm_blk ?_ | refine Kq_norm_lp ?_)
  repeat' (first | apply w1 | apply w2 | apply w3 | apply w4 | apply w5 | apply w6 | apply w7 | refine Kq_exit_ne (by decide) ?_ | apply w8 | apply w9 | apply w0 | rw [wrap64 (by omega) (by omega)] | ((first | refine hK _ ?_ | refine hKp _ _ ?_); clear hK hKp K Kp; try clear hanc anc) | ((with_reducible refine And.intro ?_ ?_); (focus (first | trivial | omega | (simp only [Fits]; omega) | assumption | (rw [hanc]; rfl)))) | ((first | refine K_regA hE fun K Kp hK hKp => ?_ | refine K_drwA true mixed hE fun K Kp hK hKp anc hanc => ?_ | refine K_drwA false mixed hE fun K Kp hK hKp anc hanc => ?_); simp only [go_sem, ↓reduceIte, reduceCtorEq, reduceAdd, reduceMul, reduceEqDiff, reduceLT, reduceLeDiff, reduceSub, reduceDiv, Nat.reduceBEq, Int.reduceBEq, reduceBNe, Int.reduceLT, reduceLE, reduceEq]) | ((first | refine onG_split_t (fun hg => ?_) (fun hg => ?_) | refine onG_split_f (fun hg => ?_) (fun hg => ?_)) <;> simp only [go_sem, ↓reduceIte, reduceCtorEq, reduceAdd, reduceMul, reduceEqDiff, reduceLT, reduceLeDiff, reduceSub, reduceDiv, Nat.reduceBEq, Int.reduceBEq, reduceBNe, Int.reduceLT, reduceLE, reduceEq, hg]) | (refine K_condA (fun hc => ?_) (fun hc => ?_) <;> try (exact absurd hc (by decide))))
  exact K_ret (hQ _ (by simp only [go_sem, ↓reduceIte, reduceCtorEq, reduceAdd, reduceMul, reduceEqDiff, reduceLT, reduceLeDiff, reduceSub, reduceDiv, Nat.reduceBEq, Int.reduceBEq, reduceBNe, Int.reduceLT, reduceLE, reduceEq]; rfl) (fun id ob h => hold id ob h)).1

theorem valid_call (u : List (List Int)) (hu : u.length ≤ 2 ^ 40) (hl : ∀ l, l ∈ u → l.length ≤ 2 ^ 40) : PCall Try.prog 23 [.sl (ill u)] (.bool (valid u)) := by
  have hw : WF (mkHp [(0, .cells [.sl (ill u)]), (1, .cells [.fn (.func 33) [] [.ptr 0 0]])]) 2 := wf2 (by simp [AObj.ids, AV.idsL, AV.ids]) (by simp [AObj.ids, AV.idsL, AV.ids])
  refine PCall.intro Try.func23 rfl isf23 (by simp [Try.f23]) (by simp [AV.cloL, AV.clo]) fun E Q hE hN hQ => K_start ?_
  by_cases h16 : u.length ≤ 16
  · have q0 : decide ((u.length : Int) ≤ 16) = true := by simp; omega
    have hv := containsl_hc u 35 [.ptr 1 0] (mkHp [(0, .cells [.sl (ill u)]), (1, .cells [.fn (.func 33) [] [.ptr 0 0]])]) 2 (fun l => l.any (outs u)) (by simp [AV.idsL, AV.ids]) hw hu (fun x hx => outl_hc u x (hl x hx) hu)
    repeat' (first | apply w1 | apply w2 | apply w3 | apply w4 | apply w5 | apply w6 | apply w7 | refine Kq_exit_ne (by decide) ?_ | apply w8 | apply w9 | apply w0 | rw [wrap64 (by omega) (by omega)] | ((first | refine hK _ ?_ | refine hKp _ _ ?_); clear hK hKp K Kp; try clear hanc anc) | ((with_reducible refine And.intro ?_ ?_); (focus (first | trivial | omega | (simp only [Fits]; omega) | assumption | (rw [hanc]; rfl)))) | ((first | refine K_regA hE fun K Kp hK hKp => ?_ | refine K_drwA true mixed hE fun K Kp hK hKp anc hanc => ?_ | refine K_drwA false mixed hE fun K Kp hK hKp anc hanc => ?_); simp only [go_sem, ↓reduceIte, reduceCtorEq, reduceAdd, reduceMul, reduceEqDiff, reduceLT, reduceLeDiff, reduceSub, reduceDiv, Nat.reduceBEq, Int.reduceBEq, reduceBNe, Int.reduceLT, reduceLE, reduceEq, q0]) | ((first | refine onG_split_t (fun hg => ?_) (fun hg => ?_) | refine onG_split_f (fun hg => ?_) (fun hg => ?_)) <;> simp only [go_sem, ↓reduceIte, reduceCtorEq, reduceAdd, reduceMul, reduceEqDiff, reduceLT, reduceLeDiff, reduceSub, reduceDiv, Nat.reduceBEq, Int.reduceBEq, reduceBNe, Int.reduceLT, reduceLE, reduceEq, q0, hg]) | (refine K_condA (fun hc => ?_) (fun hc => ?_) <;> try (exact absurd hc (by decide))))
    refine Hold.mk (HCall.use hv (fun i => if i = 0 then 0 else 3145728) (by simp [AV.renL, AV.ren]) (by simp [AV.idsL, AV.ids]) (mkHp_all (by simp [AObj.ren, AV.renL, AV.ren, go_sem])) (fun i j _ _ (e : (if i = 0 then (0 : Nat) else 3145728) = if j = 0 then 0 else 3145728) => by split at e <;> split at e <;> omega) ?_)
    rintro ⟨fr', hp', nx'⟩ hnx hfr hold
    simp only at hnx hfr hold
    subst hnx hfr
    simp only [go_sem, ↓reduceIte, reduceCtorEq, reduceAdd, reduceMul, reduceEqDiff, reduceLT, reduceLeDiff, reduceSub, reduceDiv, Nat.reduceBEq, Int.reduceBEq, reduceBNe, Int.reduceLT, reduceLE, reduceEq]
    refine hK _ ?_; clear hK hKp K Kp; try clear hanc anc
    repeat (first | refine Kq_norm_code ?_ | refine Kq_norm_blk ?_ | refine Kq_norm_lp ?_)
    repeat' (first | apply w1 | apply w2 | apply w3 | apply w4 | apply w5 | apply w6 | apply w7 | refine Kq_exit_ne (by decide) ?_ | apply w8 | apply w9 | apply w0 | rw [wrap64 (by omega) (by omega)] | ((first | refine hK _ ?_ | refine hKp _ _ ?_); clear hK hKp K Kp; try clear hanc anc) | ((with_reducible refine And.intro ?_ ?_); (focus (first | trivial | omega | (simp only [Fits]; omega) | assumption | (rw [hanc]; rfl)))) | ((first | refine K_regA hE fun K Kp hK hKp => ?_ | refine K_drwA false mixed hE fun K Kp hK hKp anc hanc => ?_); simp only [go_sem, ↓reduceIte, reduceCtorEq, reduceAdd, reduceMul, reduceEqDiff, reduceLT, reduceLeDiff, reduceSub, reduceDiv, Nat.reduceBEq, Int.reduceBEq, reduceBNe, Int.reduceLT, reduceLE, reduceEq]) | ((first | refine onG_split_t (fun hg => ?_) (fun hg => ?_) | refine onG_split_f (fun hg => ?_) (fun hg => ?_)) <;> simp only [go_sem, ↓reduceIte, reduceCtorEq, reduceAdd, reduceMul, reduceEqDiff, reduceLT, reduceLeDiff, reduceSub, reduceDiv, Nat.reduceBEq, Int.reduceBEq, reduceBNe, Int.reduceLT, reduceLE, reduceEq, hg]) | (refine K_condA (fun hc => ?_) (fun hc => ?_) <;> try (exact absurd hc (by decide))) | (refine K_ret ?_; refine (hQ _ ⟨_, by (try simp only [go_sem, ↓reduceIte, Nat.reduceEqDiff]); rfl, by simp [go_sem], ?_, by first | rfl | assumption⟩).1))
    simp [AV.snap, valid, h16]
  · have q0 : decide ((u.length : Int) ≤ 16) = false := by simp; omega
    repeat' (first | apply w1 | apply w2 | apply w3 | apply w4 | apply w5 | apply w6 | apply w7 | refine Kq_exit_ne (by decide) ?_ | apply w8 | apply w9 | apply w0 | rw [wrap64 (by omega) (by omega)] | ((first | refine hK _ ?_ | refine hKp _ _ ?_); clear hK hKp K Kp; try clear hanc anc) | ((with_reducible refine And.intro ?_ ?_); (focus (first | trivial | omega | (simp only [Fits]; omega) | assumption | (rw [hanc]; rfl)))) | ((first | refine K_regA hE fun K Kp hK hKp => ?_ | refine K_drwA false mixed hE fun K Kp hK hKp anc hanc => ?_); simp only [go_sem, ↓reduceIte, reduceCtorEq, reduceAdd, reduceMul, reduceEqDiff, reduceLT, reduceLeDiff, reduceSub, reduceDiv, Nat.reduceBEq, Int.reduceBEq, reduceBNe, Int.reduceLT, reduceLE, reduceEq, q0]) | ((first | refine onG_split_t (fun hg => ?_) (fun hg => ?_) | refine onG_split_f (fun hg => ?_) (fun hg => ?_)) <;> simp only [go_sem, ↓reduceIte, reduceCtorEq, reduceAdd, reduceMul, reduceEqDiff, reduceLT, reduceLeDiff, reduceSub, reduceDiv, Nat.reduceBEq, Int.reduceBEq, reduceBNe, Int.reduceLT, reduceLE, reduceEq, q0, hg]) | (refine K_condA (fun hc => ?_) (fun hc => ?_) <;> try (exact absurd hc (by decide))) | (refine K_ret ?_; refine (hQ _ ⟨_, by (try simp only [go_sem, ↓reduceIte, Nat.reduceEqDiff]); rfl, by simp [go_sem], ?_, by first | rfl | assumption⟩).1))
    simp [AV.snap, valid, h16]
end Go.Proofs.Ytakpabiefjlmaaa

