/- A part of the proof: an abstract machine for the walks, and what the walked functions compute. -/
import Derived.Test.YtfiehjbijdmbaaaDoorProg
import Derived.KernelRfl
import Derived.Lib.ItoaLen
import Derived.IntWalk
import Derived.Shelf.Strconv.Itoa3
import Derived.Shelf.LaysM
import Derived.Lib.AppendIntMem
import Derived.Test.YtfiehjbijdmbaaaDoorMe
import Derived.Test.YtfiehjbijdmbaaaDoorMr
set_option linter.unusedVariables false
set_option linter.unusedSimpArgs false
set_option maxRecDepth 100000
namespace Go.Proofs.YtfiehjbijdmbaaaDoor
open Go.Am
theorem ti0 : ti Tryd.prog 0 = some ⟨TK.other, 1, 0, none⟩ := by kernel_rfl
theorem ti1 : ti Tryd.prog 1 = some ⟨TK.func, 1, 8, some [AV.nilfn]⟩ := by kernel_rfl
theorem ti2 : ti Tryd.prog 2 = some ⟨TK.int IntKind.i64, 1, 8, some [AV.int IntKind.i64 (0)]⟩ := by kernel_rfl
theorem ti3 : ti Tryd.prog 3 = some ⟨TK.int IntKind.i64, 1, 8, some [AV.int IntKind.i64 (0)]⟩ := by kernel_rfl
theorem ti4 : ti Tryd.prog 4 = some ⟨TK.bool, 1, 1, some [AV.bool false]⟩ := by kernel_rfl
theorem ti5 : ti Tryd.prog 5 = some ⟨TK.int IntKind.u8, 1, 1, some [AV.int IntKind.u8 (0)]⟩ := by kernel_rfl
theorem ti6 : ti Tryd.prog 6 = some ⟨TK.int IntKind.u8, 1, 1, some [AV.int IntKind.u8 (0)]⟩ := by kernel_rfl
theorem ti7 : ti Tryd.prog 7 = some ⟨TK.struct [(2, 0), (3, 1), (4, 2), (6, 3)], 4, 24, some [AV.int IntKind.i64 (0), AV.int IntKind.i64 (0), AV.bool false, AV.int IntKind.u8 (0)]⟩ := by kernel_rfl
theorem ti8 : ti Tryd.prog 8 = some ⟨TK.struct [(2, 0), (3, 1), (4, 2), (6, 3)], 4, 24, some [AV.int IntKind.i64 (0), AV.int IntKind.i64 (0), AV.bool false, AV.int IntKind.u8 (0)]⟩ := by kernel_rfl
theorem ti9 : ti Tryd.prog 9 = some ⟨TK.str, 1, 16, some [AV.str ⟨#[]⟩]⟩ := by kernel_rfl
theorem ti10 : ti Tryd.prog 10 = some ⟨TK.str, 1, 16, some [AV.str ⟨#[]⟩]⟩ := by kernel_rfl
theorem ti11 : ti Tryd.prog 11 = some ⟨TK.str, 1, 16, some [AV.str ⟨#[]⟩]⟩ := by kernel_rfl
theorem ti12 : ti Tryd.prog 12 = some ⟨TK.int IntKind.u64, 1, 8, some [AV.int IntKind.u64 (0)]⟩ := by kernel_rfl
theorem ti13 : ti Tryd.prog 13 = some ⟨TK.struct [(9, 0), (12, 1)], 2, 24, some [AV.str ⟨#[]⟩, AV.int IntKind.u64 (0)]⟩ := by kernel_rfl
theorem ti14 : ti Tryd.prog 14 = some ⟨TK.struct [(9, 0), (12, 1)], 2, 24, some [AV.str ⟨#[]⟩, AV.int IntKind.u64 (0)]⟩ := by kernel_rfl
theorem ti15 : ti Tryd.prog 15 = some ⟨TK.ptr, 1, 8, some [AV.nilp]⟩ := by kernel_rfl
theorem ti16 : ti Tryd.prog 16 = some ⟨TK.ptr, 1, 8, some [AV.nilp]⟩ := by kernel_rfl
theorem ti17 : ti Tryd.prog 17 = some ⟨TK.ptr, 1, 8, some [AV.nilp]⟩ := by kernel_rfl
theorem ti18 : ti Tryd.prog 18 = some ⟨TK.struct [(17, 0)], 1, 8, some [AV.nilp]⟩ := by kernel_rfl
theorem ti19 : ti Tryd.prog 19 = some ⟨TK.struct [(17, 0)], 1, 8, some [AV.nilp]⟩ := by kernel_rfl
theorem ti20 : ti Tryd.prog 20 = some ⟨TK.iface, 1, 16, some [AV.nilif]⟩ := by kernel_rfl
theorem ti21 : ti Tryd.prog 21 = some ⟨TK.int IntKind.i32, 1, 4, some [AV.int IntKind.i32 (0)]⟩ := by kernel_rfl
theorem ti22 : ti Tryd.prog 22 = some ⟨TK.slice 37, 1, 24, some [AV.nilsl]⟩ := by kernel_rfl
theorem ti23 : ti Tryd.prog 23 = some ⟨TK.slice 5, 1, 24, some [AV.nilsl]⟩ := by kernel_rfl
theorem ti24 : ti Tryd.prog 24 = some ⟨TK.func, 1, 8, some [AV.nilfn]⟩ := by kernel_rfl
theorem ti25 : ti Tryd.prog 25 = some ⟨TK.func, 1, 8, some [AV.nilfn]⟩ := by kernel_rfl
theorem ti26 : ti Tryd.prog 26 = some ⟨TK.int IntKind.i64, 1, 8, some [AV.int IntKind.i64 (0)]⟩ := by kernel_rfl
theorem ti27 : ti Tryd.prog 27 = some ⟨TK.other, 1, 0, none⟩ := by kernel_rfl
theorem ti28 : ti Tryd.prog 28 = some ⟨TK.func, 1, 8, some [AV.nilfn]⟩ := by kernel_rfl
theorem ti29 : ti Tryd.prog 29 = some ⟨TK.other, 1, 0, none⟩ := by kernel_rfl
theorem ti30 : ti Tryd.prog 30 = some ⟨TK.func, 1, 8, some [AV.nilfn]⟩ := by kernel_rfl
theorem ti31 : ti Tryd.prog 31 = some ⟨TK.slice 3, 1, 24, some [AV.nilsl]⟩ := by kernel_rfl
theorem ti32 : ti Tryd.prog 32 = some ⟨TK.func, 1, 8, some [AV.nilfn]⟩ := by kernel_rfl
theorem ti33 : ti Tryd.prog 33 = some ⟨TK.func, 1, 8, some [AV.nilfn]⟩ := by kernel_rfl
theorem ti34 : ti Tryd.prog 34 = some ⟨TK.func, 1, 8, some [AV.nilfn]⟩ := by kernel_rfl
theorem ti35 : ti Tryd.prog 35 = some ⟨TK.func, 1, 8, some [AV.nilfn]⟩ := by kernel_rfl
theorem ti36 : ti Tryd.prog 36 = some ⟨TK.struct [(9, 0), (23, 1)], 2, 40, some [AV.str ⟨#[]⟩, AV.nilsl]⟩ := by kernel_rfl
theorem ti37 : ti Tryd.prog 37 = some ⟨TK.struct [(9, 0), (23, 1)], 2, 40, some [AV.str ⟨#[]⟩, AV.nilsl]⟩ := by kernel_rfl
theorem ti38 : ti Tryd.prog 38 = some ⟨TK.func, 1, 8, some [AV.nilfn]⟩ := by kernel_rfl
theorem ti39 : ti Tryd.prog 39 = some ⟨TK.func, 1, 8, some [AV.nilfn]⟩ := by kernel_rfl
theorem ti40 : ti Tryd.prog 40 = some ⟨TK.func, 1, 8, some [AV.nilfn]⟩ := by kernel_rfl
theorem ti41 : ti Tryd.prog 41 = some ⟨TK.func, 1, 8, some [AV.nilfn]⟩ := by kernel_rfl
theorem ti42 : ti Tryd.prog 42 = some ⟨TK.func, 1, 8, some [AV.nilfn]⟩ := by kernel_rfl
theorem ti43 : ti Tryd.prog 43 = some ⟨TK.func, 1, 8, some [AV.nilfn]⟩ := by kernel_rfl
theorem ti44 : ti Tryd.prog 44 = some ⟨TK.func, 1, 8, some [AV.nilfn]⟩ := by kernel_rfl
theorem ti45 : ti Tryd.prog 45 = some ⟨TK.func, 1, 8, some [AV.nilfn]⟩ := by kernel_rfl
theorem ti46 : ti Tryd.prog 46 = some ⟨TK.func, 1, 8, some [AV.nilfn]⟩ := by kernel_rfl
theorem ti47 : ti Tryd.prog 47 = some ⟨TK.func, 1, 8, some [AV.nilfn]⟩ := by kernel_rfl
theorem ti48 : ti Tryd.prog 48 = some ⟨TK.func, 1, 8, some [AV.nilfn]⟩ := by kernel_rfl
theorem ti49 : ti Tryd.prog 49 = some ⟨TK.func, 1, 8, some [AV.nilfn]⟩ := by kernel_rfl
theorem ti50 : ti Tryd.prog 50 = some ⟨TK.func, 1, 8, some [AV.nilfn]⟩ := by kernel_rfl
theorem ti51 : ti Tryd.prog 51 = some ⟨TK.func, 1, 8, some [AV.nilfn]⟩ := by kernel_rfl
theorem ti52 : ti Tryd.prog 52 = some ⟨TK.func, 1, 8, some [AV.nilfn]⟩ := by kernel_rfl
theorem ti53 : ti Tryd.prog 53 = some ⟨TK.func, 1, 8, some [AV.nilfn]⟩ := by kernel_rfl
theorem ti54 : ti Tryd.prog 54 = some ⟨TK.other, 1, 0, none⟩ := by kernel_rfl
theorem ti55 : ti Tryd.prog 55 = some ⟨TK.func, 1, 8, some [AV.nilfn]⟩ := by kernel_rfl
theorem ti56 : ti Tryd.prog 56 = some ⟨TK.func, 1, 8, some [AV.nilfn]⟩ := by kernel_rfl
theorem ti57 : ti Tryd.prog 57 = some ⟨TK.map 9 3, 1, 8, some [AV.nilmap]⟩ := by kernel_rfl
theorem ti58 : ti Tryd.prog 58 = some ⟨TK.int IntKind.u64, 1, 8, some [AV.int IntKind.u64 (0)]⟩ := by kernel_rfl
theorem ti59 : ti Tryd.prog 59 = some ⟨TK.func, 1, 8, some [AV.nilfn]⟩ := by kernel_rfl
theorem ti60 : ti Tryd.prog 60 = some ⟨TK.func, 1, 8, some [AV.nilfn]⟩ := by kernel_rfl
theorem ti61 : ti Tryd.prog 61 = some ⟨TK.func, 1, 8, some [AV.nilfn]⟩ := by kernel_rfl
theorem ti62 : ti Tryd.prog 62 = some ⟨TK.func, 1, 8, some [AV.nilfn]⟩ := by kernel_rfl
theorem ti63 : ti Tryd.prog 63 = some ⟨TK.slice 23, 1, 24, some [AV.nilsl]⟩ := by kernel_rfl
theorem ti64 : ti Tryd.prog 64 = some ⟨TK.func, 1, 8, some [AV.nilfn]⟩ := by kernel_rfl
theorem ti65 : ti Tryd.prog 65 = some ⟨TK.func, 1, 8, some [AV.nilfn]⟩ := by kernel_rfl
theorem ti66 : ti Tryd.prog 66 = some ⟨TK.func, 1, 8, some [AV.nilfn]⟩ := by kernel_rfl
theorem ti67 : ti Tryd.prog 67 = some ⟨TK.func, 1, 8, some [AV.nilfn]⟩ := by kernel_rfl
theorem ti68 : ti Tryd.prog 68 = some ⟨TK.func, 1, 8, some [AV.nilfn]⟩ := by kernel_rfl
theorem ti69 : ti Tryd.prog 69 = some ⟨TK.func, 1, 8, some [AV.nilfn]⟩ := by kernel_rfl
theorem ti70 : ti Tryd.prog 70 = some ⟨TK.func, 1, 8, some [AV.nilfn]⟩ := by kernel_rfl
theorem ti71 : ti Tryd.prog 71 = some ⟨TK.func, 1, 8, some [AV.nilfn]⟩ := by kernel_rfl
theorem ti72 : ti Tryd.prog 72 = some ⟨TK.int IntKind.u64, 1, 8, some [AV.int IntKind.u64 (0)]⟩ := by kernel_rfl
theorem ti73 : ti Tryd.prog 73 = some ⟨TK.func, 1, 8, some [AV.nilfn]⟩ := by kernel_rfl
theorem ti74 : ti Tryd.prog 74 = some ⟨TK.array 24 5, 24, 24, some [AV.int IntKind.u8 (0), AV.int IntKind.u8 (0), AV.int IntKind.u8 (0), AV.int IntKind.u8 (0), AV.int IntKind.u8 (0), AV.int IntKind.u8 (0), AV.int IntKind.u8 (0), AV.int IntKind.u8 (0), AV.int IntKind.u8 (0), AV.int IntKind.u8 (0), AV.int IntKind.u8 (0), AV.int IntKind.u8 (0), AV.int IntKind.u8 (0), AV.int IntKind.u8 (0), AV.int IntKind.u8 (0), AV.int IntKind.u8 (0), AV.int IntKind.u8 (0), AV.int IntKind.u8 (0), AV.int IntKind.u8 (0), AV.int IntKind.u8 (0), AV.int IntKind.u8 (0), AV.int IntKind.u8 (0), AV.int IntKind.u8 (0), AV.int IntKind.u8 (0)]⟩ := by kernel_rfl
theorem ti75 : ti Tryd.prog 75 = some ⟨TK.func, 1, 8, some [AV.nilfn]⟩ := by kernel_rfl
theorem ti76 : ti Tryd.prog 76 = some ⟨TK.func, 1, 8, some [AV.nilfn]⟩ := by kernel_rfl
theorem ti77 : ti Tryd.prog 77 = some ⟨TK.other, 1, 0, none⟩ := by kernel_rfl
theorem ti78 : ti Tryd.prog 78 = some ⟨TK.func, 1, 8, some [AV.nilfn]⟩ := by kernel_rfl
theorem ti79 : ti Tryd.prog 79 = some ⟨TK.func, 1, 8, some [AV.nilfn]⟩ := by kernel_rfl
theorem ti80 : ti Tryd.prog 80 = some ⟨TK.func, 1, 8, some [AV.nilfn]⟩ := by kernel_rfl
theorem ti81 : ti Tryd.prog 81 = some ⟨TK.array 20 58, 20, 160, some [AV.int IntKind.u64 (0), AV.int IntKind.u64 (0), AV.int IntKind.u64 (0), AV.int IntKind.u64 (0), AV.int IntKind.u64 (0), AV.int IntKind.u64 (0), AV.int IntKind.u64 (0), AV.int IntKind.u64 (0), AV.int IntKind.u64 (0), AV.int IntKind.u64 (0), AV.int IntKind.u64 (0), AV.int IntKind.u64 (0), AV.int IntKind.u64 (0), AV.int IntKind.u64 (0), AV.int IntKind.u64 (0), AV.int IntKind.u64 (0), AV.int IntKind.u64 (0), AV.int IntKind.u64 (0), AV.int IntKind.u64 (0), AV.int IntKind.u64 (0)]⟩ := by kernel_rfl
theorem ti82 : ti Tryd.prog 82 = some ⟨TK.int IntKind.u32, 1, 4, some [AV.int IntKind.u32 (0)]⟩ := by kernel_rfl
theorem ti83 : ti Tryd.prog 83 = some ⟨TK.array 65 5, 65, 65, some [AV.int IntKind.u8 (0), AV.int IntKind.u8 (0), AV.int IntKind.u8 (0), AV.int IntKind.u8 (0), AV.int IntKind.u8 (0), AV.int IntKind.u8 (0), AV.int IntKind.u8 (0), AV.int IntKind.u8 (0), AV.int IntKind.u8 (0), AV.int IntKind.u8 (0), AV.int IntKind.u8 (0), AV.int IntKind.u8 (0), AV.int IntKind.u8 (0), AV.int IntKind.u8 (0), AV.int IntKind.u8 (0), AV.int IntKind.u8 (0), AV.int IntKind.u8 (0), AV.int IntKind.u8 (0), AV.int IntKind.u8 (0), AV.int IntKind.u8 (0), AV.int IntKind.u8 (0), AV.int IntKind.u8 (0), AV.int IntKind.u8 (0), AV.int IntKind.u8 (0), AV.int IntKind.u8 (0), AV.int IntKind.u8 (0), AV.int IntKind.u8 (0), AV.int IntKind.u8 (0), AV.int IntKind.u8 (0), AV.int IntKind.u8 (0), AV.int IntKind.u8 (0), AV.int IntKind.u8 (0), AV.int IntKind.u8 (0), AV.int IntKind.u8 (0), AV.int IntKind.u8 (0), AV.int IntKind.u8 (0), AV.int IntKind.u8 (0), AV.int IntKind.u8 (0), AV.int IntKind.u8 (0), AV.int IntKind.u8 (0), AV.int IntKind.u8 (0), AV.int IntKind.u8 (0), AV.int IntKind.u8 (0), AV.int IntKind.u8 (0), AV.int IntKind.u8 (0), AV.int IntKind.u8 (0), AV.int IntKind.u8 (0), AV.int IntKind.u8 (0), AV.int IntKind.u8 (0), AV.int IntKind.u8 (0), AV.int IntKind.u8 (0), AV.int IntKind.u8 (0), AV.int IntKind.u8 (0), AV.int IntKind.u8 (0), AV.int IntKind.u8 (0), AV.int IntKind.u8 (0), AV.int IntKind.u8 (0), AV.int IntKind.u8 (0), AV.int IntKind.u8 (0), AV.int IntKind.u8 (0), AV.int IntKind.u8 (0), AV.int IntKind.u8 (0), AV.int IntKind.u8 (0), AV.int IntKind.u8 (0), AV.int IntKind.u8 (0)]⟩ := by kernel_rfl
theorem ti84 : ti Tryd.prog 84 = some ⟨TK.func, 1, 8, some [AV.nilfn]⟩ := by kernel_rfl
theorem ti85 : ti Tryd.prog 85 = some ⟨TK.func, 1, 8, some [AV.nilfn]⟩ := by kernel_rfl
theorem ti86 : ti Tryd.prog 86 = some ⟨TK.func, 1, 8, some [AV.nilfn]⟩ := by kernel_rfl
theorem ti87 : ti Tryd.prog 87 = some ⟨TK.array 32 5, 32, 32, some [AV.int IntKind.u8 (0), AV.int IntKind.u8 (0), AV.int IntKind.u8 (0), AV.int IntKind.u8 (0), AV.int IntKind.u8 (0), AV.int IntKind.u8 (0), AV.int IntKind.u8 (0), AV.int IntKind.u8 (0), AV.int IntKind.u8 (0), AV.int IntKind.u8 (0), AV.int IntKind.u8 (0), AV.int IntKind.u8 (0), AV.int IntKind.u8 (0), AV.int IntKind.u8 (0), AV.int IntKind.u8 (0), AV.int IntKind.u8 (0), AV.int IntKind.u8 (0), AV.int IntKind.u8 (0), AV.int IntKind.u8 (0), AV.int IntKind.u8 (0), AV.int IntKind.u8 (0), AV.int IntKind.u8 (0), AV.int IntKind.u8 (0), AV.int IntKind.u8 (0), AV.int IntKind.u8 (0), AV.int IntKind.u8 (0), AV.int IntKind.u8 (0), AV.int IntKind.u8 (0), AV.int IntKind.u8 (0), AV.int IntKind.u8 (0), AV.int IntKind.u8 (0), AV.int IntKind.u8 (0)]⟩ := by kernel_rfl
theorem ti88 : ti Tryd.prog 88 = some ⟨TK.array 64 5, 64, 64, some [AV.int IntKind.u8 (0), AV.int IntKind.u8 (0), AV.int IntKind.u8 (0), AV.int IntKind.u8 (0), AV.int IntKind.u8 (0), AV.int IntKind.u8 (0), AV.int IntKind.u8 (0), AV.int IntKind.u8 (0), AV.int IntKind.u8 (0), AV.int IntKind.u8 (0), AV.int IntKind.u8 (0), AV.int IntKind.u8 (0), AV.int IntKind.u8 (0), AV.int IntKind.u8 (0), AV.int IntKind.u8 (0), AV.int IntKind.u8 (0), AV.int IntKind.u8 (0), AV.int IntKind.u8 (0), AV.int IntKind.u8 (0), AV.int IntKind.u8 (0), AV.int IntKind.u8 (0), AV.int IntKind.u8 (0), AV.int IntKind.u8 (0), AV.int IntKind.u8 (0), AV.int IntKind.u8 (0), AV.int IntKind.u8 (0), AV.int IntKind.u8 (0), AV.int IntKind.u8 (0), AV.int IntKind.u8 (0), AV.int IntKind.u8 (0), AV.int IntKind.u8 (0), AV.int IntKind.u8 (0), AV.int IntKind.u8 (0), AV.int IntKind.u8 (0), AV.int IntKind.u8 (0), AV.int IntKind.u8 (0), AV.int IntKind.u8 (0), AV.int IntKind.u8 (0), AV.int IntKind.u8 (0), AV.int IntKind.u8 (0), AV.int IntKind.u8 (0), AV.int IntKind.u8 (0), AV.int IntKind.u8 (0), AV.int IntKind.u8 (0), AV.int IntKind.u8 (0), AV.int IntKind.u8 (0), AV.int IntKind.u8 (0), AV.int IntKind.u8 (0), AV.int IntKind.u8 (0), AV.int IntKind.u8 (0), AV.int IntKind.u8 (0), AV.int IntKind.u8 (0), AV.int IntKind.u8 (0), AV.int IntKind.u8 (0), AV.int IntKind.u8 (0), AV.int IntKind.u8 (0), AV.int IntKind.u8 (0), AV.int IntKind.u8 (0), AV.int IntKind.u8 (0), AV.int IntKind.u8 (0), AV.int IntKind.u8 (0), AV.int IntKind.u8 (0), AV.int IntKind.u8 (0), AV.int IntKind.u8 (0)]⟩ := by kernel_rfl
theorem ti89 : ti Tryd.prog 89 = some ⟨TK.func, 1, 8, some [AV.nilfn]⟩ := by kernel_rfl
theorem ti90 : ti Tryd.prog 90 = some ⟨TK.struct [(17, 0), (17, 1), (17, 2), (9, 3)], 4, 40, some [AV.nilp, AV.nilp, AV.nilp, AV.str ⟨#[]⟩]⟩ := by kernel_rfl
theorem ti91 : ti Tryd.prog 91 = some ⟨TK.struct [(17, 0), (17, 1), (17, 2), (9, 3)], 4, 40, some [AV.nilp, AV.nilp, AV.nilp, AV.str ⟨#[]⟩]⟩ := by kernel_rfl
theorem ti92 : ti Tryd.prog 92 = some ⟨TK.array 0 16, 0, 0, some []⟩ := by kernel_rfl
theorem ti93 : ti Tryd.prog 93 = some ⟨TK.struct [(92, 0)], 0, 0, some []⟩ := by kernel_rfl
theorem ti94 : ti Tryd.prog 94 = some ⟨TK.struct [(92, 0)], 0, 0, some []⟩ := by kernel_rfl
theorem ti95 : ti Tryd.prog 95 = some ⟨TK.func, 1, 8, some [AV.nilfn]⟩ := by kernel_rfl
theorem ti96 : ti Tryd.prog 96 = some ⟨TK.int IntKind.u8, 1, 1, some [AV.int IntKind.u8 (0)]⟩ := by kernel_rfl
theorem ti97 : ti Tryd.prog 97 = some ⟨TK.int IntKind.u8, 1, 1, some [AV.int IntKind.u8 (0)]⟩ := by kernel_rfl
theorem ti98 : ti Tryd.prog 98 = some ⟨TK.func, 1, 8, some [AV.nilfn]⟩ := by kernel_rfl
theorem ti99 : ti Tryd.prog 99 = some ⟨TK.ptr, 1, 8, some [AV.nilp]⟩ := by kernel_rfl
theorem ti100 : ti Tryd.prog 100 = some ⟨TK.int IntKind.i32, 1, 4, some [AV.int IntKind.i32 (0)]⟩ := by kernel_rfl
theorem ti101 : ti Tryd.prog 101 = some ⟨TK.int IntKind.i32, 1, 4, some [AV.int IntKind.i32 (0)]⟩ := by kernel_rfl
theorem ti102 : ti Tryd.prog 102 = some ⟨TK.struct [(12, 0), (12, 1), (82, 2), (96, 3), (5, 4), (5, 5), (97, 6), (98, 7), (99, 8), (100, 9), (101, 10)], 11, 48, some [AV.int IntKind.u64 (0), AV.int IntKind.u64 (0), AV.int IntKind.u32 (0), AV.int IntKind.u8 (0), AV.int IntKind.u8 (0), AV.int IntKind.u8 (0), AV.int IntKind.u8 (0), AV.nilfn, AV.nilp, AV.int IntKind.i32 (0), AV.int IntKind.i32 (0)]⟩ := by kernel_rfl
theorem ti103 : ti Tryd.prog 103 = some ⟨TK.struct [(12, 0), (12, 1), (82, 2), (96, 3), (5, 4), (5, 5), (97, 6), (98, 7), (99, 8), (100, 9), (101, 10)], 11, 48, some [AV.int IntKind.u64 (0), AV.int IntKind.u64 (0), AV.int IntKind.u32 (0), AV.int IntKind.u8 (0), AV.int IntKind.u8 (0), AV.int IntKind.u8 (0), AV.int IntKind.u8 (0), AV.nilfn, AV.nilp, AV.int IntKind.i32 (0), AV.int IntKind.i32 (0)]⟩ := by kernel_rfl
theorem ti104 : ti Tryd.prog 104 = some ⟨TK.other, 1, 8, some [AV.nilp]⟩ := by kernel_rfl
theorem zv3 : zv Tryd.prog 3 = some (AV.int IntKind.i64 (0)) := by kernel_rfl
theorem fl7_0 : flT Tryd.prog 7 0 = some 0 := by kernel_rfl
theorem fl7_1 : flT Tryd.prog 7 1 = some 1 := by kernel_rfl
theorem fl7_2 : flT Tryd.prog 7 2 = some 2 := by kernel_rfl
theorem fl7_3 : flT Tryd.prog 7 3 = some 3 := by kernel_rfl
theorem fl8_0 : flT Tryd.prog 8 0 = some 0 := by kernel_rfl
theorem fl8_1 : flT Tryd.prog 8 1 = some 1 := by kernel_rfl
theorem fl8_2 : flT Tryd.prog 8 2 = some 2 := by kernel_rfl
theorem fl8_3 : flT Tryd.prog 8 3 = some 3 := by kernel_rfl
theorem fl13_0 : flT Tryd.prog 13 0 = some 0 := by kernel_rfl
theorem fl13_1 : flT Tryd.prog 13 1 = some 1 := by kernel_rfl
theorem fl14_0 : flT Tryd.prog 14 0 = some 0 := by kernel_rfl
theorem fl14_1 : flT Tryd.prog 14 1 = some 1 := by kernel_rfl
theorem fl18_0 : flT Tryd.prog 18 0 = some 0 := by kernel_rfl
theorem fl19_0 : flT Tryd.prog 19 0 = some 0 := by kernel_rfl
theorem el22 : elT Tryd.prog 22 = some 2 := by kernel_rfl
theorem el23 : elT Tryd.prog 23 = some 1 := by kernel_rfl
theorem el31 : elT Tryd.prog 31 = some 1 := by kernel_rfl
theorem fl36_0 : flT Tryd.prog 36 0 = some 0 := by kernel_rfl
theorem fl36_1 : flT Tryd.prog 36 1 = some 1 := by kernel_rfl
theorem fl37_0 : flT Tryd.prog 37 0 = some 0 := by kernel_rfl
theorem fl37_1 : flT Tryd.prog 37 1 = some 1 := by kernel_rfl
theorem el63 : elT Tryd.prog 63 = some 1 := by kernel_rfl
theorem fl90_0 : flT Tryd.prog 90 0 = some 0 := by kernel_rfl
theorem fl90_1 : flT Tryd.prog 90 1 = some 1 := by kernel_rfl
theorem fl90_2 : flT Tryd.prog 90 2 = some 2 := by kernel_rfl
theorem fl90_3 : flT Tryd.prog 90 3 = some 3 := by kernel_rfl
theorem fl91_0 : flT Tryd.prog 91 0 = some 0 := by kernel_rfl
theorem fl91_1 : flT Tryd.prog 91 1 = some 1 := by kernel_rfl
theorem fl91_2 : flT Tryd.prog 91 2 = some 2 := by kernel_rfl
theorem fl91_3 : flT Tryd.prog 91 3 = some 3 := by kernel_rfl
theorem fl102_0 : flT Tryd.prog 102 0 = some 0 := by kernel_rfl
theorem fl102_1 : flT Tryd.prog 102 1 = some 1 := by kernel_rfl
theorem fl102_2 : flT Tryd.prog 102 2 = some 2 := by kernel_rfl
theorem fl102_3 : flT Tryd.prog 102 3 = some 3 := by kernel_rfl
theorem fl102_4 : flT Tryd.prog 102 4 = some 4 := by kernel_rfl
theorem fl102_5 : flT Tryd.prog 102 5 = some 5 := by kernel_rfl
theorem fl102_6 : flT Tryd.prog 102 6 = some 6 := by kernel_rfl
theorem fl102_7 : flT Tryd.prog 102 7 = some 7 := by kernel_rfl
theorem fl102_8 : flT Tryd.prog 102 8 = some 8 := by kernel_rfl
theorem fl102_9 : flT Tryd.prog 102 9 = some 9 := by kernel_rfl
theorem fl102_10 : flT Tryd.prog 102 10 = some 10 := by kernel_rfl
theorem fl103_0 : flT Tryd.prog 103 0 = some 0 := by kernel_rfl
theorem fl103_1 : flT Tryd.prog 103 1 = some 1 := by kernel_rfl
theorem fl103_2 : flT Tryd.prog 103 2 = some 2 := by kernel_rfl
theorem fl103_3 : flT Tryd.prog 103 3 = some 3 := by kernel_rfl
theorem fl103_4 : flT Tryd.prog 103 4 = some 4 := by kernel_rfl
theorem fl103_5 : flT Tryd.prog 103 5 = some 5 := by kernel_rfl
theorem fl103_6 : flT Tryd.prog 103 6 = some 6 := by kernel_rfl
theorem fl103_7 : flT Tryd.prog 103 7 = some 7 := by kernel_rfl
theorem fl103_8 : flT Tryd.prog 103 8 = some 8 := by kernel_rfl
theorem fl103_9 : flT Tryd.prog 103 9 = some 9 := by kernel_rfl
theorem fl103_10 : flT Tryd.prog 103 10 = some 10 := by kernel_rfl
theorem isf2 : isFn Tryd.prog 2 = true := by kernel_rfl
theorem isf3 : isFn Tryd.prog 3 = true := by kernel_rfl
theorem isf4 : isFn Tryd.prog 4 = true := by kernel_rfl
theorem isf5 : isFn Tryd.prog 5 = true := by kernel_rfl
theorem isf6 : isFn Tryd.prog 6 = true := by kernel_rfl
theorem isf7 : isFn Tryd.prog 7 = true := by kernel_rfl
theorem isf8 : isFn Tryd.prog 8 = true := by kernel_rfl
theorem isf9 : isFn Tryd.prog 9 = true := by kernel_rfl
theorem isf10 : isFn Tryd.prog 10 = true := by kernel_rfl
theorem isf11 : isFn Tryd.prog 11 = true := by kernel_rfl
theorem isf12 : isFn Tryd.prog 12 = true := by kernel_rfl
theorem isf13 : isFn Tryd.prog 13 = true := by kernel_rfl
theorem isf14 : isFn Tryd.prog 14 = true := by kernel_rfl
theorem isf15 : isFn Tryd.prog 15 = true := by kernel_rfl
theorem isf16 : isFn Tryd.prog 16 = true := by kernel_rfl
theorem isf17 : isFn Tryd.prog 17 = true := by kernel_rfl
theorem isf18 : isFn Tryd.prog 18 = true := by kernel_rfl
theorem isf19 : isFn Tryd.prog 19 = true := by kernel_rfl
theorem isf20 : isFn Tryd.prog 20 = true := by kernel_rfl
theorem isf21 : isFn Tryd.prog 21 = true := by kernel_rfl
theorem isf22 : isFn Tryd.prog 22 = true := by kernel_rfl
theorem isf23 : isFn Tryd.prog 23 = true := by kernel_rfl
theorem isf24 : isFn Tryd.prog 24 = true := by kernel_rfl
theorem isf25 : isFn Tryd.prog 25 = true := by kernel_rfl
theorem isf26 : isFn Tryd.prog 26 = true := by kernel_rfl
theorem isf27 : isFn Tryd.prog 27 = true := by kernel_rfl
theorem isf28 : isFn Tryd.prog 28 = true := by kernel_rfl
theorem isf29 : isFn Tryd.prog 29 = true := by kernel_rfl
theorem isf30 : isFn Tryd.prog 30 = true := by kernel_rfl
theorem isf31 : isFn Tryd.prog 31 = true := by kernel_rfl
theorem isf32 : isFn Tryd.prog 32 = true := by kernel_rfl
theorem isf33 : isFn Tryd.prog 33 = true := by kernel_rfl
theorem isf34 : isFn Tryd.prog 34 = true := by kernel_rfl
theorem isf35 : isFn Tryd.prog 35 = true := by kernel_rfl
theorem isf36 : isFn Tryd.prog 36 = true := by kernel_rfl
theorem isf37 : isFn Tryd.prog 37 = true := by kernel_rfl
theorem isf38 : isFn Tryd.prog 38 = true := by kernel_rfl
theorem isf39 : isFn Tryd.prog 39 = true := by kernel_rfl
theorem isf40 : isFn Tryd.prog 40 = true := by kernel_rfl
theorem isf41 : isFn Tryd.prog 41 = true := by kernel_rfl
theorem isf42 : isFn Tryd.prog 42 = true := by kernel_rfl
theorem isf43 : isFn Tryd.prog 43 = true := by kernel_rfl
theorem isf44 : isFn Tryd.prog 44 = true := by kernel_rfl
theorem isf45 : isFn Tryd.prog 45 = true := by kernel_rfl
theorem isf46 : isFn Tryd.prog 46 = true := by kernel_rfl
theorem isf47 : isFn Tryd.prog 47 = true := by kernel_rfl
theorem isf48 : isFn Tryd.prog 48 = true := by kernel_rfl
theorem isf49 : isFn Tryd.prog 49 = true := by kernel_rfl
theorem isf50 : isFn Tryd.prog 50 = true := by kernel_rfl
theorem isf51 : isFn Tryd.prog 51 = true := by kernel_rfl
theorem isf52 : isFn Tryd.prog 52 = true := by kernel_rfl
theorem isf53 : isFn Tryd.prog 53 = true := by kernel_rfl
theorem isf54 : isFn Tryd.prog 54 = true := by kernel_rfl
theorem isf55 : isFn Tryd.prog 55 = true := by kernel_rfl
theorem isf56 : isFn Tryd.prog 56 = true := by kernel_rfl
theorem isf57 : isFn Tryd.prog 57 = true := by kernel_rfl
theorem isf58 : isFn Tryd.prog 58 = true := by kernel_rfl
theorem isf59 : isFn Tryd.prog 59 = true := by kernel_rfl
theorem isf60 : isFn Tryd.prog 60 = true := by kernel_rfl
theorem isf61 : isFn Tryd.prog 61 = true := by kernel_rfl
theorem isf62 : isFn Tryd.prog 62 = true := by kernel_rfl
theorem isf63 : isFn Tryd.prog 63 = true := by kernel_rfl
theorem isf85 : isFn Tryd.prog 85 = true := by kernel_rfl
theorem mixed : Tryd.prog.follows .mixedOrders = true := by kernel_rfl
attribute [go_sem] ti0 ti1 ti2 ti3 ti4 ti5 ti6 ti7 ti8 ti9 ti10 ti11 ti12 ti13 ti14 ti15 ti16 ti17 ti18 ti19 ti20 ti21 ti22 ti23 ti24 ti25 ti26 ti27 ti28 ti29 ti30 ti31 ti32 ti33 ti34 ti35 ti36 ti37 ti38 ti39 ti40 ti41 ti42 ti43 ti44 ti45 ti46 ti47 ti48 ti49 ti50 ti51 ti52 ti53 ti54 ti55 ti56 ti57 ti58 ti59 ti60 ti61 ti62 ti63 ti64 ti65 ti66 ti67 ti68 ti69 ti70 ti71 ti72 ti73 ti74 ti75 ti76 ti77 ti78 ti79 ti80 ti81 ti82 ti83 ti84 ti85 ti86 ti87 ti88 ti89 ti90 ti91 ti92 ti93 ti94 ti95 ti96 ti97 ti98 ti99 ti100 ti101 ti102 ti103 ti104 zv3 fl7_0 fl7_1 fl7_2 fl7_3 fl8_0 fl8_1 fl8_2 fl8_3 fl13_0 fl13_1 fl14_0 fl14_1 fl18_0 fl19_0 el22 el23 el31 fl36_0 fl36_1 fl37_0 fl37_1 el63 fl90_0 fl90_1 fl90_2 fl90_3 fl91_0 fl91_1 fl91_2 fl91_3 fl102_0 fl102_1 fl102_2 fl102_3 fl102_4 fl102_5 fl102_6 fl102_7 fl102_8 fl102_9 fl102_10 fl103_0 fl103_1 fl103_2 fl103_3 fl103_4 fl103_5 fl103_6 fl103_7 fl103_8 fl103_9 fl103_10
end Go.Proofs.YtfiehjbijdmbaaaDoor

set_option linter.unusedVariables false
set_option linter.unusedSimpArgs false
namespace Go.Ca
open Go Go.Am
def ub (l : List UInt8) : List AV := l.map fun b => AV.int .u8 (b.toNat : Int)
@[go_sem] theorem ub_len (l : List UInt8) : (ub l).length = l.length := List.length_map ..
@[go_sem] theorem ub_get (l : List UInt8) (i : Nat) : (ub l)[i]? = (l[i]?).map fun b => AV.int .u8 (b.toNat : Int) := List.getElem?_map ..
@[go_sem] theorem ub_set (l : List UInt8) (i : Nat) (b : UInt8) : (ub l).set i (.int .u8 (b.toNat : Int)) = ub (l.set i b) := (List.map_set (f := fun b : UInt8 => AV.int .u8 (b.toNat : Int)) ..).symm
@[go_sem] theorem ub_rep (n : Nat) : List.replicate n (AV.int .u8 0) = ub (List.replicate n 0) := by simp [ub]
@[go_sem] theorem ub_app (l : List UInt8) (x : UInt8) : ub l ++ [.int .u8 (x.toNat : Int)] = ub (l ++ [x]) := by simp [ub]
@[go_sem] theorem ub_app2 (l m : List UInt8) : ub l ++ ub m = ub (l ++ m) := by simp [ub]
@[go_sem] theorem ub_nil : ub [] = [] := rfl
@[go_sem] theorem ub_drop (l : List UInt8) (n : Nat) : (ub l).drop n = ub (l.drop n) := by simp [ub]
@[go_sem] theorem ub_take (l : List UInt8) (n : Nat) : (ub l).take n = ub (l.take n) := by simp [ub]
@[go_sem] theorem ub_cut (l : List UInt8) (a b : Nat) : cutA (ub l) a b = ub ((l.take b).drop a) := by simp [ub, cutA]
theorem ub_clo (l : List UInt8) : AV.cloL (ub l) = true := cloLeq _ fun x hx => by obtain ⟨p, _, rfl⟩ := List.mem_map.1 hx; rfl
@[go_sem] theorem ub_cloT (l : List UInt8) : AV.cloL (ub l) = True := by simp [ub_clo]
@[go_sem] theorem ub_ren (m : Nat → Nat) (l : List UInt8) : AV.renL m (ub l) = ub l := cloL_renL (ub_clo l)
@[go_sem] theorem ub_ids (p : Nat → Prop) (l : List UInt8) : AV.idsL p (ub l) = True := eq_true (cloL_idsL (ub_clo l))
@[go_sem] theorem szok_ub (l : List UInt8) : SzOk (ub l) 1 = True := eq_true fun x hx => by obtain ⟨p, _, rfl⟩ := List.mem_map.1 hx; rfl
theorem clo_ub (l : List UInt8) : CloRow (ub l) := by
 intro x hx c hc
 obtain ⟨p, _, rfl⟩ := List.mem_map.1 hx
 simp only [AV.cells, List.mem_cons, List.not_mem_nil, or_false] at hc
 subst hc
 rfl
@[go_sem] theorem clo_ubT (l : List UInt8) : CloRow (ub l) = True := eq_true (clo_ub l)
@[go_sem] theorem u8s_ub (l : List UInt8) : U8s (ub l) = True := eq_true fun x hx => by obtain ⟨p, _, rfl⟩ := List.mem_map.1 hx; exact ⟨_, rfl⟩
def tx (l : List UInt8) : ByteArray := ⟨l.toArray⟩
@[go_sem] theorem str_ub (l : List UInt8) : strOf (ub l) = tx l := by
 simp only [strOf, ub, tx, List.map_map]
 congr 2
 rw [show (AV.byte ∘ fun b : UInt8 => AV.int .u8 (b.toNat : Int)) = id by funext b; simp [AV.byte]]
 simp
theorem tx_list (l : List UInt8) : (tx l).data.toList = l := by simp [tx]
theorem toList_data (b : ByteArray) : b.toList = b.data.toList := ByteArray.toList_eq b
theorem tx_inj {a b : List UInt8} (h : tx a = tx b) : a = b := by rw [← tx_list a, h, tx_list]
@[go_sem] theorem tx_eqB (a b : List UInt8) : ((tx a).toList == (tx b).toList) = decide (a = b) := by
 rw [toList_data, toList_data, tx_list, tx_list]; by_cases h : a = b <;> simp [h]
theorem ba_eqB (a b : ByteArray) : (a.toList == b.toList) = decide (a = b) := by
 rw [toList_data, toList_data]
 by_cases h : a = b
 ·simp [h]
 ·rw [decide_eq_false h]
  cases hh : (a.data.toList == b.data.toList)
  ·rfl
  ·exact absurd (by cases a; cases b; simpa using hh) h
theorem tx_app (a b : List UInt8) : tx a ++ tx b = tx (a ++ b) := by
 apply ByteArray.ext
 apply Array.toList_inj.1
 simp [tx, ByteArray.data_append]
@[go_sem] theorem tx_size (a : List UInt8) : (tx a).size = a.length := by simp [tx, ByteArray.size]
def u8 (n : Int) : UInt8 := UInt8.ofNat (n % 256).toNat
@[go_sem] theorem wrap_u8 (n : Int) : IntKind.u8.wrap n = ((u8 n).toNat : Int) := by
 rw [IntKind.wrap_u8]
 have h1 : 0 ≤ n % 256 := Int.emod_nonneg _ (by decide)
 have h2 : n % 256 < 256 := Int.emod_lt_of_pos _ (by decide)
 rw [u8, UInt8.toNat_ofNat']
 have : (n % 256).toNat % 2 ^ 8 = (n % 256).toNat := Nat.mod_eq_of_lt (by omega)
 omega
theorem u8_val (n : Int) : ((u8 n).toNat : Int) = n % 256 := by rw [← wrap_u8, IntKind.wrap_u8]
theorem u8_lt (b : UInt8) : (b.toNat : Int) < 256 := by have := b.toNat_lt; omega
theorem u8_of (b : UInt8) : u8 (b.toNat : Int) = b := by
 apply UInt8.toNat_inj.1
 have := u8_val (b.toNat : Int)
 have := u8_lt b
 omega
def vn (l : List UInt8) : Int := l.foldl (fun n b => (n * 256 + (b.toNat : Int)) % 18446744073709551616) 0
theorem vn_snoc (l : List UInt8) (b : UInt8) : vn (l ++ [b]) = (vn l * 256 + (b.toNat : Int)) % 18446744073709551616 := by simp [vn]
theorem vn_range (l : List UInt8) : 0 ≤ vn l ∧ vn l < 18446744073709551616 := by
 rcases List.eq_nil_or_concat l with rfl | ⟨l, b, rfl⟩
 ·decide
 ·rw [List.concat_eq_append, vn_snoc]
  exact ⟨Int.emod_nonneg _ (by decide), Int.emod_lt_of_pos _ (by decide)⟩
theorem div_div (n a b : Int) (h : 0 ≤ a) : n / a / b = n / (a * b) := by
 rw [Int.ediv_ediv, if_neg (by omega), Int.sub_zero]
def be (n : Int) : Nat → List UInt8
 | 0 => []
 | k + 1 => be (n / 256) k ++ [u8 n]
@[simp, go_sem] theorem be_len (n : Int) (k : Nat) : (be n k).length = k := by
 induction k generalizing n with
 | zero => rfl
 | succ k ih => simp [be, ih]
theorem be_front (n : Int) : ∀ k, be n (k + 1) = u8 (n / 256 ^ k) :: be n k := by
 intro k
 induction k generalizing n with
 | zero => simp [be]
 | succ k ih =>
  rw [be, ih (n / 256), be]
  rw [Int.pow_succ', div_div _ _ _ (by decide)]
  rfl
theorem vn_be (n : Int) (k : Nat) (hk : k ≤ 8) : vn (be n k) = n % 256 ^ k := by
 induction k generalizing n with
 | zero => simp [be, vn]
 | succ k ih =>
  rw [be, vn_snoc, ih (n / 256) (by omega), u8_val]
  have h1 : (256 : Int) ^ (k + 1) = 256 * 256 ^ k := Int.pow_succ' ..
  have hp : (0 : Int) < 256 ^ k := Int.pow_pos (by decide)
  have hle : (256 : Int) ^ (k + 1) ≤ 18446744073709551616 := by
   have : (256 : Int) ^ (k + 1) ≤ 256 ^ 8 := by
    have := Nat.pow_le_pow_right (n := 256) (by decide) (show k + 1 ≤ 8 by omega)
    have h3 : ((256 ^ (k + 1) : Nat) : Int) ≤ ((256 ^ 8 : Nat) : Int) := by exact_mod_cast this
    simpa using h3
   exact Int.le_trans this (by decide)
  have h2 : n % 256 ^ (k + 1) = n / 256 % 256 ^ k * 256 + n % 256 := by
   generalize (256 : Int) ^ k = p at hp h1
   rw [h1]
   have e1 := Int.emod_add_mul_ediv n (256 * p)
   have e2 := Int.emod_add_mul_ediv n 256
   have e3 := Int.emod_add_mul_ediv (n / 256) p
   have e4 : n / (256 * p) = n / 256 / p := (div_div _ _ _ (by decide)).symm
   rw [e4] at e1
   have e5 : 256 * p * (n / 256 / p) = 256 * (p * (n / 256 / p)) := Int.mul_assoc ..
   omega
  rw [← h2]
  exact Int.emod_eq_of_lt (Int.emod_nonneg _ (by omega)) (Int.lt_of_lt_of_le (Int.emod_lt_of_pos _ (by omega)) hle)
def sumD (l : List UInt8) : Int := l.foldl (fun h b => (h * 1000003 + (b.toNat : Int) + 1) % 2147483647) 7
theorem sumD_snoc (l : List UInt8) (b : UInt8) : sumD (l ++ [b]) = (sumD l * 1000003 + (b.toNat : Int) + 1) % 2147483647 := by simp [sumD]
theorem sumD_range (l : List UInt8) : 0 ≤ sumD l ∧ sumD l < 2147483647 := by
 rcases List.eq_nil_or_concat l with rfl | ⟨l, b, rfl⟩
 ·decide
 ·rw [List.concat_eq_append, sumD_snoc]
  exact ⟨Int.emod_nonneg _ (by decide), Int.emod_lt_of_pos _ (by decide)⟩
def nmL (k : Int) : List UInt8 := 107 :: Lib.itoa k
def nm (k : Int) : ByteArray := tx (nmL k)
structure Fl where
 nm : ByteArray
 bs : List UInt8
 deriving Inhabited
def Fl.cs (f : Fl) : List AV := [.str f.nm, .sl (ub f.bs)]
def Fl.av (f : Fl) : AV := .agg f.cs
theorem Fl.av_eq (f : Fl) : f.av = .agg [.str f.nm, .sl (ub f.bs)] := rfl
theorem Fl.cs_eq (f : Fl) : f.cs = [.str f.nm, .sl (ub f.bs)] := rfl
theorem Fl.cs_clo (f : Fl) : AV.cloL f.cs = true := rfl
theorem Fl.av_clo (f : Fl) : f.av.clo = true := rfl
@[go_sem] theorem Fl.av_ren (m : Nat → Nat) (f : Fl) : f.av.ren m = f.av := clo_ren f.av_clo
@[go_sem] theorem Fl.av_ids (p : Nat → Prop) (f : Fl) : f.av.ids p = True := eq_true (clo_ids f.av_clo)
@[go_sem] theorem Fl.cs_ren (m : Nat → Nat) (f : Fl) : AV.renL m f.cs = f.cs := cloL_renL f.cs_clo
@[go_sem] theorem Fl.cs_ids (p : Nat → Prop) (f : Fl) : AV.idsL p f.cs = True := eq_true (cloL_idsL f.cs_clo)
@[go_sem] theorem szok_nil (n : Nat) : SzOk [] n = True := eq_true fun x hx => by cases hx
def fl (l : List Fl) : List AV := l.map Fl.av
@[go_sem] theorem fl_len (l : List Fl) : (fl l).length = l.length := List.length_map ..
@[go_sem] theorem fl_get (l : List Fl) (i : Nat) : (fl l)[i]? = (l[i]?).map Fl.av := List.getElem?_map ..
@[go_sem] theorem fl_drop (l : List Fl) (n : Nat) : (fl l).drop n = fl (l.drop n) := by simp [fl]
@[go_sem] theorem fl_take (l : List Fl) (n : Nat) : (fl l).take n = fl (l.take n) := by simp [fl]
@[go_sem] theorem fl_nil : fl [] = [] := rfl
theorem fl_app (l : List Fl) (x : Fl) : fl l ++ [x.av] = fl (l ++ [x]) := by simp [fl]
@[go_sem] theorem fl_app1 (l : List Fl) (s : ByteArray) (b : List UInt8) : fl l ++ [.agg [.str s, .sl (ub b)]] = fl (l ++ [⟨s, b⟩]) := fl_app l ⟨s, b⟩
@[go_sem] theorem fl_app2 (l m : List Fl) : fl l ++ fl m = fl (l ++ m) := by simp [fl]
@[go_sem] theorem fl_set (l : List Fl) (i : Nat) (s : ByteArray) (b : List UInt8) : (fl l).set i (.agg [.str s, .sl (ub b)]) = fl (l.set i ⟨s, b⟩) := (List.map_set (f := Fl.av) (l := l) (i := i) (a := ⟨s, b⟩)).symm
theorem fl_clo (l : List Fl) : AV.cloL (fl l) = true := cloLeq _ fun x hx => by obtain ⟨p, _, rfl⟩ := List.mem_map.1 hx; rfl
@[go_sem] theorem fl_ren (m : Nat → Nat) (l : List Fl) : AV.renL m (fl l) = fl l := cloL_renL (fl_clo l)
@[go_sem] theorem fl_ids (p : Nat → Prop) (l : List Fl) : AV.idsL p (fl l) = True := eq_true (cloL_idsL (fl_clo l))
@[go_sem] theorem szok_fl (l : List Fl) : SzOk (fl l) 2 = True := eq_true fun x hx => by obtain ⟨p, _, rfl⟩ := List.mem_map.1 hx; rfl
theorem clo_fl (l : List Fl) : CloRow (fl l) := by
 intro x hx c hc
 obtain ⟨p, _, rfl⟩ := List.mem_map.1 hx
 simp only [Fl.av_eq, AV.cells, List.mem_cons, List.not_mem_nil, or_false] at hc
 rcases hc with rfl | rfl <;> rfl
@[go_sem] theorem clo_flT (l : List Fl) : CloRow (fl l) = True := eq_true (clo_fl l)
def hdr (k : Int) (b : List UInt8) : List UInt8 := be (k % 18446744073709551616) 8 ++ be b.length 4 ++ b
def fileOf (k : Int) (b : List UInt8) : Fl := ⟨nm k, hdr k b ++ be (sumD (hdr k b)) 4⟩
def others (l : List Fl) (k : Int) : List Fl := l.filter fun f => !decide (f.nm = nm k)
def putR (l : List Fl) (k : Int) (b : List UInt8) : List Fl × Int := if 400 ≤ (others l k).length then ([], 19) else (others l k ++ [fileOf k b], 0)
def sv (l : List UInt8) : Int := IntKind.i64.wrap (vn l)
def openR (b : List UInt8) : Int × List UInt8 × Int :=
 if b.length < 16 then (0, [], 16)
 else if vn ((b.take 12).drop 8) ≠ ((b.length - 16 : Nat) : Int) then (sv (b.take 8), [], 16)
 else if vn (b.drop (b.length - 4)) ≠ sumD (b.take (b.length - 4)) then (sv (b.take 8), [], 17)
 else (sv (b.take 8), (b.take (b.length - 4)).drop 12, 0)
def lastN (l : List Fl) (k : Int) : Nat → Option Nat
 | 0 => none
 | n + 1 => if (l[n]?.map Fl.nm) = some (nm k) then some n else lastN l k n
def lastI (l : List Fl) (k : Int) : Int := match lastN l k l.length with | some i => i | none => -1
def getR (l : List Fl) (k : Int) : List UInt8 × Int :=
 match lastN l k l.length with
 | none => ([], 20)
 | some i =>
  let r := openR (l.getD i default).bs
  if r.1 ≠ k then ([], 16) else (r.2.1, r.2.2)
def trimR (l : List Fl) (n : Int) : List Fl := l.drop (l.length - (min (l.length : Int) (max 0 n)).toNat)
def soundB (l : List Fl) (i : Nat) : Option Int :=
 let f := l.getD i default
 let r := openR f.bs
 if r.2.2 = 0 ∧ f.nm = nm r.1 ∧ lastN l r.1 l.length = some i then some r.1 else none
def soundR (l : List Fl) : List Int := (List.range l.length).filterMap (soundB l)
end Go.Ca
attribute [go_sem] Int.reduceToNat reduceCtorEq Nat.reduceAdd Nat.reduceMul Nat.reduceEqDiff Nat.reduceLT Nat.reduceLeDiff Nat.reduceSub Nat.reduceDiv Nat.reduceBEq Int.reduceBEq Int.reduceBNe Int.reduceLT Int.reduceLE Int.reduceEq
attribute [go_sem ↓] reduceIte

set_option linter.unusedVariables false
set_option maxRecDepth 100000
namespace Go.Proofs.YtfiehjbijdmbaaaDoor
open Go.Am Go.Proofs Go.Shelf
def itoaLay_ren : Ren :=
{
 f := fun x =>
  match x with
  | 171 => 41
  | 243 => 49
  | 246 => 52
  | 283 => 53
  | 284 => 54
  | 285 => 55
  | 286 => 56
  | 129 => 58
  | 317 => 57
  | 318 => 59
  | 319 => 60
  | 320 => 61
  | 337 => 62
  | 338 => 63
  | n => n,
 t := fun x =>
  match x with
  | 3 => 3
  | 9 => 9
  | 2 => 2
  | 4 => 4
  | 171 => 74
  | 0 => 0
  | 53 => 58
  | 37 => 23
  | 5 => 5
  | 173 => 77
  | 212 => 81
  | 51 => 82
  | 20 => 20
  | 213 => 83
  | 46 => 72
  | 232 => 87
  | 233 => 88
  | n => n,
 g := fun x =>
  match x with
  | 17 => 0
  | 18 => 1
  | 19 => 2
  | n => n }
theorem itoaLay : LaysM.n171 Tryd.prog itoaLay_ren where
 mixed := by kernel_rfl
 f129 := Tryd.func58
 f171 := Tryd.func41
 f243 := Tryd.func49
 f246 := Tryd.func52
 f283 := Tryd.func53
 f284 := Tryd.func54
 f285 := Tryd.func55
 f286 := Tryd.func56
 f317 := Tryd.func57
 f318 := Tryd.func59
 f319 := Tryd.func60
 f320 := Tryd.func61
 f337 := Tryd.func62
 f338 := Tryd.func63
 t0 := Tryd.underlying0
 a0 := Tryd.isAgg0
 z0 := Tryd.sizeOf0
 v0 := Tryd.zeroValue0
 t2 := Tryd.underlying2
 a2 := Tryd.isAgg2
 z2 := Tryd.sizeOf2
 v2 := Tryd.zeroValue2
 t3 := Tryd.underlying3
 a3 := Tryd.isAgg3
 z3 := Tryd.sizeOf3
 v3 := Tryd.zeroValue3
 t4 := Tryd.underlying4
 a4 := Tryd.isAgg4
 z4 := Tryd.sizeOf4
 v4 := Tryd.zeroValue4
 t5 := Tryd.underlying5
 a5 := Tryd.isAgg5
 z5 := Tryd.sizeOf5
 v5 := Tryd.zeroValue5
 t9 := Tryd.underlying9
 a9 := Tryd.isAgg9
 z9 := Tryd.sizeOf9
 v9 := Tryd.zeroValue9
 t20 := Tryd.underlying20
 a20 := Tryd.isAgg20
 z20 := Tryd.sizeOf20
 v20 := Tryd.zeroValue20
 t37 := Tryd.underlying23
 a37 := Tryd.isAgg23
 z37 := Tryd.sizeOf23
 v37 := Tryd.zeroValue23
 t46 := Tryd.underlying72
 a46 := Tryd.isAgg72
 z46 := Tryd.sizeOf72
 v46 := Tryd.zeroValue72
 t51 := Tryd.underlying82
 a51 := Tryd.isAgg82
 z51 := Tryd.sizeOf82
 v51 := Tryd.zeroValue82
 t53 := Tryd.underlying58
 a53 := Tryd.isAgg58
 z53 := Tryd.sizeOf58
 v53 := Tryd.zeroValue58
 t171 := Tryd.underlying74
 a171 := Tryd.isAgg74
 z171 := Tryd.sizeOf74
 v171 := Tryd.zeroValue74
 t173 := Tryd.underlying77
 a173 := Tryd.isAgg77
 z173 := Tryd.sizeOf77
 v173 := Tryd.zeroValue77
 t212 := Tryd.underlying81
 a212 := Tryd.isAgg81
 z212 := Tryd.sizeOf81
 v212 := Tryd.zeroValue81
 t213 := Tryd.underlying83
 a213 := Tryd.isAgg83
 z213 := Tryd.sizeOf83
 t232 := Tryd.underlying87
 a232 := Tryd.isAgg87
 z232 := Tryd.sizeOf87
 v232 := Tryd.zeroValue87
 t233 := Tryd.underlying88
 a233 := Tryd.isAgg88
 z233 := Tryd.sizeOf88
 v233 := Tryd.zeroValue88
 g17 := by kernel_rfl
 g18 := by kernel_rfl
 g19 := by kernel_rfl
 i0 := by kernel_rfl
 i2 := by kernel_rfl
 i3 := by kernel_rfl
 i4 := by kernel_rfl
 i5 := by kernel_rfl
 i9 := by kernel_rfl
 i20 := by kernel_rfl
 i37 := by kernel_rfl
 i46 := by kernel_rfl
 i51 := by kernel_rfl
 i53 := by kernel_rfl
 i171 := by kernel_rfl
 i173 := by kernel_rfl
 i212 := by kernel_rfl
 i232 := by kernel_rfl
 i233 := by kernel_rfl
 m17 := by kernel_rfl
 m18 := by kernel_rfl
 m19 := by kernel_rfl
theorem itoa_call (n : Int) (h0 : -9223372036854775808 ≤ n) (h1 : n ≤ 9223372036854775807) : PCall Tryd.prog 41 [.i n] (.str ⟨(Lib.itoa n).toArray⟩) := by
 refine ⟨isf41, fun ρ V Z w args hZ hgl hsz hrel => ?_⟩
 have e1 : args = #[.int .i64 n] := by
  have h2 := hrel 0 (by simp)
  have h3 : args.size = 1 := by simpa using hsz
  have h4 := Rel.int_inv' h2
  apply Array.ext
  ·simpa using h3
  ·intro i g1 g2
   obtain rfl : i = 0 := by omega
   simpa [Array.getD, h3] using h4
 have htab : Lib.TabIs Tryd.prog w "internal/strconv.uint64pow10" .u64 Lib.pow10Tab := by
  obtain ⟨⟨cs, ty, fz, g1, g2⟩, g3⟩ := hgl (0, Lib.pow10Tab.map fun z => Value.int .u64 z) (by simp [tabs])
  unfold Lib.TabIs World.var?
  have hg : Tryd.prog.globalNamed "internal/strconv.uint64pow10" = some 0 := by kernel_rfl
  rw [hg]
  simp only [Option.bind_some, g1]
  have g4 : cs.toList = Lib.pow10Tab.map fun z => Value.int .u64 z := g2
  rw [← g4]
 subst e1
 refine (Any.strconv_Itoa itoaLay n h0 h1 w htab).mono ?_
 rintro e w' ⟨rfl, k, os, rfl⟩
 refine ⟨_, Z, rfl, .str _, ⟨fun b hb _ => ?_, ?_, rfl, rfl, trivial⟩, fun _ _ h => h, fun _ _ h => .inl h⟩
 ·exact Lib.heap_grow_old w k os b hb
 ·exact Lib.size_grow w k os
end Go.Proofs.YtfiehjbijdmbaaaDoor
