/- A part of the proof: an abstract machine for the walks, and what the walked functions compute. -/
import Derived.Test.YtihfjibkmhclfaaDoorProg
import Derived.KernelRfl
import Derived.Test.YtihfjibkmhclfaaDoorMe
import Derived.Test.YtihfjibkmhclfaaDoorPb
set_option linter.unusedVariables false
set_option linter.unusedSimpArgs false
set_option maxRecDepth 100000
namespace Go.Proofs.YtihfjibkmhclfaaDoor
open Go.Am
theorem ti0 : ti Tryd.prog 0 = some ⟨TK.other, 1, 0, none⟩ := by kernel_rfl
theorem ti1 : ti Tryd.prog 1 = some ⟨TK.func, 1, 8, some [AV.nilfn]⟩ := by kernel_rfl
theorem ti2 : ti Tryd.prog 2 = some ⟨TK.int IntKind.i64, 1, 8, some [AV.int IntKind.i64 (0)]⟩ := by kernel_rfl
theorem ti3 : ti Tryd.prog 3 = some ⟨TK.int IntKind.i64, 1, 8, some [AV.int IntKind.i64 (0)]⟩ := by kernel_rfl
theorem ti4 : ti Tryd.prog 4 = some ⟨TK.bool, 1, 1, some [AV.bool false]⟩ := by kernel_rfl
theorem ti5 : ti Tryd.prog 5 = some ⟨TK.int IntKind.u8, 1, 1, some [AV.int IntKind.u8 (0)]⟩ := by kernel_rfl
theorem ti6 : ti Tryd.prog 6 = some ⟨TK.int IntKind.u8, 1, 1, some [AV.int IntKind.u8 (0)]⟩ := by kernel_rfl
theorem ti7 : ti Tryd.prog 7 = some ⟨TK.struct [(2, 0), (3, 1), (4, 2), (6, 3)], 4, 24, some [AV.int IntKind.i64 (0), AV.int IntKind.i64 (0), AV.bool false, AV.int IntKind.u8 (0)]⟩ := by kernel_rfl
theorem ti8 : ti Tryd.prog 8 = some ⟨TK.struct [(2, 0), (3, 1), (4, 2), (6, 3)], 4, 24, some [AV.int IntKind.i64 (0), AV.int IntKind.i64 (0), AV.bool false, AV.int IntKind.u8 (0)]⟩ := by kernel_rfl
theorem ti9 : ti Tryd.prog 9 = some ⟨TK.str, 1, 16, some [AV.str ⟨#[]⟩]⟩ := by kernel_rfl
theorem ti10 : ti Tryd.prog 10 = some ⟨TK.str, 1, 16, some [AV.str ⟨#[]⟩]⟩ := by kernel_rfl
theorem ti11 : ti Tryd.prog 11 = some ⟨TK.str, 1, 16, some [AV.str ⟨#[]⟩]⟩ := by kernel_rfl
theorem ti12 : ti Tryd.prog 12 = some ⟨TK.int IntKind.u64, 1, 8, some [AV.int IntKind.u64 (0)]⟩ := by kernel_rfl
theorem ti13 : ti Tryd.prog 13 = some ⟨TK.struct [(9, 0), (12, 1)], 2, 24, some [AV.str ⟨#[]⟩, AV.int IntKind.u64 (0)]⟩ := by kernel_rfl
theorem ti14 : ti Tryd.prog 14 = some ⟨TK.struct [(9, 0), (12, 1)], 2, 24, some [AV.str ⟨#[]⟩, AV.int IntKind.u64 (0)]⟩ := by kernel_rfl
theorem ti15 : ti Tryd.prog 15 = some ⟨TK.ptr, 1, 8, some [AV.nilp]⟩ := by kernel_rfl
theorem ti16 : ti Tryd.prog 16 = some ⟨TK.ptr, 1, 8, some [AV.nilp]⟩ := by kernel_rfl
theorem ti17 : ti Tryd.prog 17 = some ⟨TK.ptr, 1, 8, some [AV.nilp]⟩ := by kernel_rfl
theorem ti18 : ti Tryd.prog 18 = some ⟨TK.struct [(17, 0)], 1, 8, some [AV.nilp]⟩ := by kernel_rfl
theorem ti19 : ti Tryd.prog 19 = some ⟨TK.struct [(17, 0)], 1, 8, some [AV.nilp]⟩ := by kernel_rfl
theorem ti20 : ti Tryd.prog 20 = some ⟨TK.iface, 1, 16, some [AV.nilif]⟩ := by kernel_rfl
theorem ti21 : ti Tryd.prog 21 = some ⟨TK.int IntKind.i32, 1, 4, some [AV.int IntKind.i32 (0)]⟩ := by kernel_rfl
theorem ti22 : ti Tryd.prog 22 = some ⟨TK.func, 1, 8, some [AV.nilfn]⟩ := by kernel_rfl
theorem ti23 : ti Tryd.prog 23 = some ⟨TK.slice 30, 1, 24, some [AV.nilsl]⟩ := by kernel_rfl
theorem ti24 : ti Tryd.prog 24 = some ⟨TK.int IntKind.i64, 1, 8, some [AV.int IntKind.i64 (0)]⟩ := by kernel_rfl
theorem ti25 : ti Tryd.prog 25 = some ⟨TK.other, 1, 0, none⟩ := by kernel_rfl
theorem ti26 : ti Tryd.prog 26 = some ⟨TK.func, 1, 8, some [AV.nilfn]⟩ := by kernel_rfl
theorem ti27 : ti Tryd.prog 27 = some ⟨TK.func, 1, 8, some [AV.nilfn]⟩ := by kernel_rfl
theorem ti28 : ti Tryd.prog 28 = some ⟨TK.func, 1, 8, some [AV.nilfn]⟩ := by kernel_rfl
theorem ti29 : ti Tryd.prog 29 = some ⟨TK.struct [(3, 0), (9, 1), (3, 2), (3, 3)], 4, 40, some [AV.int IntKind.i64 (0), AV.str ⟨#[]⟩, AV.int IntKind.i64 (0), AV.int IntKind.i64 (0)]⟩ := by kernel_rfl
theorem ti30 : ti Tryd.prog 30 = some ⟨TK.struct [(3, 0), (9, 1), (3, 2), (3, 3)], 4, 40, some [AV.int IntKind.i64 (0), AV.str ⟨#[]⟩, AV.int IntKind.i64 (0), AV.int IntKind.i64 (0)]⟩ := by kernel_rfl
theorem ti31 : ti Tryd.prog 31 = some ⟨TK.func, 1, 8, some [AV.nilfn]⟩ := by kernel_rfl
theorem ti32 : ti Tryd.prog 32 = some ⟨TK.func, 1, 8, some [AV.nilfn]⟩ := by kernel_rfl
theorem ti33 : ti Tryd.prog 33 = some ⟨TK.slice 9, 1, 24, some [AV.nilsl]⟩ := by kernel_rfl
theorem ti34 : ti Tryd.prog 34 = some ⟨TK.func, 1, 8, some [AV.nilfn]⟩ := by kernel_rfl
theorem ti35 : ti Tryd.prog 35 = some ⟨TK.func, 1, 8, some [AV.nilfn]⟩ := by kernel_rfl
theorem ti36 : ti Tryd.prog 36 = some ⟨TK.ptr, 1, 8, some [AV.nilp]⟩ := by kernel_rfl
theorem ti37 : ti Tryd.prog 37 = some ⟨TK.int IntKind.i64, 1, 8, some [AV.int IntKind.i64 (0)]⟩ := by kernel_rfl
theorem ti38 : ti Tryd.prog 38 = some ⟨TK.array 256 37, 256, 2048, some (List.replicate 256 (AV.int IntKind.i64 (0)))⟩ := by kernel_rfl
theorem ti39 : ti Tryd.prog 39 = some ⟨TK.func, 1, 8, some [AV.nilfn]⟩ := by kernel_rfl
theorem ti40 : ti Tryd.prog 40 = some ⟨TK.map 9 4, 1, 8, some [AV.nilmap]⟩ := by kernel_rfl
theorem ti41 : ti Tryd.prog 41 = some ⟨TK.func, 1, 8, some [AV.nilfn]⟩ := by kernel_rfl
theorem ti42 : ti Tryd.prog 42 = some ⟨TK.struct [(9, 0), (38, 1), (40, 257)], 258, 2072, some ([AV.str ⟨#[]⟩] ++ List.replicate 256 (AV.int IntKind.i64 (0)) ++ [AV.nilmap])⟩ := by kernel_rfl
theorem ti43 : ti Tryd.prog 43 = some ⟨TK.struct [(9, 0), (38, 1), (40, 257)], 258, 2072, some ([AV.str ⟨#[]⟩] ++ List.replicate 256 (AV.int IntKind.i64 (0)) ++ [AV.nilmap])⟩ := by kernel_rfl
theorem ti44 : ti Tryd.prog 44 = some ⟨TK.func, 1, 8, some [AV.nilfn]⟩ := by kernel_rfl
theorem ti45 : ti Tryd.prog 45 = some ⟨TK.func, 1, 8, some [AV.nilfn]⟩ := by kernel_rfl
theorem ti46 : ti Tryd.prog 46 = some ⟨TK.func, 1, 8, some [AV.nilfn]⟩ := by kernel_rfl
theorem ti47 : ti Tryd.prog 47 = some ⟨TK.func, 1, 8, some [AV.nilfn]⟩ := by kernel_rfl
theorem ti48 : ti Tryd.prog 48 = some ⟨TK.func, 1, 8, some [AV.nilfn]⟩ := by kernel_rfl
theorem ti49 : ti Tryd.prog 49 = some ⟨TK.func, 1, 8, some [AV.nilfn]⟩ := by kernel_rfl
theorem ti50 : ti Tryd.prog 50 = some ⟨TK.func, 1, 8, some [AV.nilfn]⟩ := by kernel_rfl
theorem ti51 : ti Tryd.prog 51 = some ⟨TK.func, 1, 8, some [AV.nilfn]⟩ := by kernel_rfl
theorem ti52 : ti Tryd.prog 52 = some ⟨TK.other, 1, 0, none⟩ := by kernel_rfl
theorem ti53 : ti Tryd.prog 53 = some ⟨TK.func, 1, 8, some [AV.nilfn]⟩ := by kernel_rfl
theorem ti54 : ti Tryd.prog 54 = some ⟨TK.array 256 5, 256, 256, some (List.replicate 256 (AV.int IntKind.u8 (0)))⟩ := by kernel_rfl
theorem ti55 : ti Tryd.prog 55 = some ⟨TK.func, 1, 8, some [AV.nilfn]⟩ := by kernel_rfl
theorem ti56 : ti Tryd.prog 56 = some ⟨TK.func, 1, 8, some [AV.nilfn]⟩ := by kernel_rfl
theorem ti57 : ti Tryd.prog 57 = some ⟨TK.func, 1, 8, some [AV.nilfn]⟩ := by kernel_rfl
theorem ti58 : ti Tryd.prog 58 = some ⟨TK.func, 1, 8, some [AV.nilfn]⟩ := by kernel_rfl
theorem ti59 : ti Tryd.prog 59 = some ⟨TK.iface, 1, 16, some [AV.nilif]⟩ := by kernel_rfl
theorem ti60 : ti Tryd.prog 60 = some ⟨TK.iface, 1, 16, some [AV.nilif]⟩ := by kernel_rfl
theorem ti61 : ti Tryd.prog 61 = some ⟨TK.other, 1, 0, none⟩ := by kernel_rfl
theorem ti62 : ti Tryd.prog 62 = some ⟨TK.func, 1, 8, some [AV.nilfn]⟩ := by kernel_rfl
theorem ti63 : ti Tryd.prog 63 = some ⟨TK.slice 65, 1, 24, some [AV.nilsl]⟩ := by kernel_rfl
theorem ti64 : ti Tryd.prog 64 = some ⟨TK.struct [(3, 0), (3, 1)], 2, 16, some [AV.int IntKind.i64 (0), AV.int IntKind.i64 (0)]⟩ := by kernel_rfl
theorem ti65 : ti Tryd.prog 65 = some ⟨TK.struct [(3, 0), (3, 1)], 2, 16, some [AV.int IntKind.i64 (0), AV.int IntKind.i64 (0)]⟩ := by kernel_rfl
theorem ti66 : ti Tryd.prog 66 = some ⟨TK.int IntKind.u32, 1, 4, some [AV.int IntKind.u32 (0)]⟩ := by kernel_rfl
theorem ti67 : ti Tryd.prog 67 = some ⟨TK.func, 1, 8, some [AV.nilfn]⟩ := by kernel_rfl
theorem ti68 : ti Tryd.prog 68 = some ⟨TK.ptr, 1, 8, some [AV.nilp]⟩ := by kernel_rfl
theorem ti69 : ti Tryd.prog 69 = some ⟨TK.slice 37, 1, 24, some [AV.nilsl]⟩ := by kernel_rfl
theorem ti70 : ti Tryd.prog 70 = some ⟨TK.func, 1, 8, some [AV.nilfn]⟩ := by kernel_rfl
theorem ti71 : ti Tryd.prog 71 = some ⟨TK.slice 77, 1, 24, some [AV.nilsl]⟩ := by kernel_rfl
theorem ti72 : ti Tryd.prog 72 = some ⟨TK.slice 80, 1, 24, some [AV.nilsl]⟩ := by kernel_rfl
theorem ti73 : ti Tryd.prog 73 = some ⟨TK.struct [(71, 0), (72, 1), (3, 2)], 3, 56, some [AV.nilsl, AV.nilsl, AV.int IntKind.i64 (0)]⟩ := by kernel_rfl
theorem ti74 : ti Tryd.prog 74 = some ⟨TK.struct [(71, 0), (72, 1), (3, 2)], 3, 56, some [AV.nilsl, AV.nilsl, AV.int IntKind.i64 (0)]⟩ := by kernel_rfl
theorem ti75 : ti Tryd.prog 75 = some ⟨TK.int IntKind.u16, 1, 2, some [AV.int IntKind.u16 (0)]⟩ := by kernel_rfl
theorem ti76 : ti Tryd.prog 76 = some ⟨TK.struct [(75, 0), (75, 1), (75, 2)], 3, 6, some [AV.int IntKind.u16 (0), AV.int IntKind.u16 (0), AV.int IntKind.u16 (0)]⟩ := by kernel_rfl
theorem ti77 : ti Tryd.prog 77 = some ⟨TK.struct [(75, 0), (75, 1), (75, 2)], 3, 6, some [AV.int IntKind.u16 (0), AV.int IntKind.u16 (0), AV.int IntKind.u16 (0)]⟩ := by kernel_rfl
theorem ti78 : ti Tryd.prog 78 = some ⟨TK.func, 1, 8, some [AV.nilfn]⟩ := by kernel_rfl
theorem ti79 : ti Tryd.prog 79 = some ⟨TK.struct [(66, 0), (66, 1), (66, 2)], 3, 12, some [AV.int IntKind.u32 (0), AV.int IntKind.u32 (0), AV.int IntKind.u32 (0)]⟩ := by kernel_rfl
theorem ti80 : ti Tryd.prog 80 = some ⟨TK.struct [(66, 0), (66, 1), (66, 2)], 3, 12, some [AV.int IntKind.u32 (0), AV.int IntKind.u32 (0), AV.int IntKind.u32 (0)]⟩ := by kernel_rfl
theorem ti81 : ti Tryd.prog 81 = some ⟨TK.func, 1, 8, some [AV.nilfn]⟩ := by kernel_rfl
theorem ti82 : ti Tryd.prog 82 = some ⟨TK.int IntKind.i64, 1, 8, some [AV.int IntKind.i64 (0)]⟩ := by kernel_rfl
theorem ti83 : ti Tryd.prog 83 = some ⟨TK.slice 5, 1, 24, some [AV.nilsl]⟩ := by kernel_rfl
theorem ti84 : ti Tryd.prog 84 = some ⟨TK.other, 1, 0, none⟩ := by kernel_rfl
theorem ti85 : ti Tryd.prog 85 = some ⟨TK.func, 1, 8, some [AV.nilfn]⟩ := by kernel_rfl
theorem ti86 : ti Tryd.prog 86 = some ⟨TK.ptr, 1, 8, some [AV.nilp]⟩ := by kernel_rfl
theorem ti87 : ti Tryd.prog 87 = some ⟨TK.func, 1, 8, some [AV.nilfn]⟩ := by kernel_rfl
theorem ti88 : ti Tryd.prog 88 = some ⟨TK.func, 1, 8, some [AV.nilfn]⟩ := by kernel_rfl
theorem ti89 : ti Tryd.prog 89 = some ⟨TK.ptr, 1, 8, some [AV.nilp]⟩ := by kernel_rfl
theorem ti90 : ti Tryd.prog 90 = some ⟨TK.int IntKind.u64, 1, 8, some [AV.int IntKind.u64 (0)]⟩ := by kernel_rfl
theorem ti91 : ti Tryd.prog 91 = some ⟨TK.ptr, 1, 8, some [AV.nilp]⟩ := by kernel_rfl
theorem ti92 : ti Tryd.prog 92 = some ⟨TK.int IntKind.u64, 1, 8, some [AV.int IntKind.u64 (0)]⟩ := by kernel_rfl
theorem ti93 : ti Tryd.prog 93 = some ⟨TK.other, 1, 0, none⟩ := by kernel_rfl
theorem ti94 : ti Tryd.prog 94 = some ⟨TK.func, 1, 8, some [AV.nilfn]⟩ := by kernel_rfl
theorem ti95 : ti Tryd.prog 95 = some ⟨TK.func, 1, 8, some [AV.nilfn]⟩ := by kernel_rfl
theorem ti96 : ti Tryd.prog 96 = some ⟨TK.struct [(9, 0), (9, 1), (60, 2)], 3, 48, some [AV.str ⟨#[]⟩, AV.str ⟨#[]⟩, AV.nilif]⟩ := by kernel_rfl
theorem ti97 : ti Tryd.prog 97 = some ⟨TK.struct [(9, 0), (9, 1), (60, 2)], 3, 48, some [AV.str ⟨#[]⟩, AV.str ⟨#[]⟩, AV.nilif]⟩ := by kernel_rfl
theorem ti98 : ti Tryd.prog 98 = some ⟨TK.func, 1, 8, some [AV.nilfn]⟩ := by kernel_rfl
theorem ti99 : ti Tryd.prog 99 = some ⟨TK.func, 1, 8, some [AV.nilfn]⟩ := by kernel_rfl
theorem ti100 : ti Tryd.prog 100 = some ⟨TK.func, 1, 8, some [AV.nilfn]⟩ := by kernel_rfl
theorem ti101 : ti Tryd.prog 101 = some ⟨TK.ptr, 1, 8, some [AV.nilp]⟩ := by kernel_rfl
theorem ti102 : ti Tryd.prog 102 = some ⟨TK.ptr, 1, 8, some [AV.nilp]⟩ := by kernel_rfl
theorem ti103 : ti Tryd.prog 103 = some ⟨TK.struct [(9, 0)], 1, 16, some [AV.str ⟨#[]⟩]⟩ := by kernel_rfl
theorem ti104 : ti Tryd.prog 104 = some ⟨TK.struct [(9, 0)], 1, 16, some [AV.str ⟨#[]⟩]⟩ := by kernel_rfl
theorem ti105 : ti Tryd.prog 105 = some ⟨TK.func, 1, 8, some [AV.nilfn]⟩ := by kernel_rfl
theorem ti106 : ti Tryd.prog 106 = some ⟨TK.array 24 5, 24, 24, some (List.replicate 24 (AV.int IntKind.u8 (0)))⟩ := by kernel_rfl
theorem ti107 : ti Tryd.prog 107 = some ⟨TK.func, 1, 8, some [AV.nilfn]⟩ := by kernel_rfl
theorem ti108 : ti Tryd.prog 108 = some ⟨TK.func, 1, 8, some [AV.nilfn]⟩ := by kernel_rfl
theorem ti109 : ti Tryd.prog 109 = some ⟨TK.other, 1, 0, none⟩ := by kernel_rfl
theorem ti110 : ti Tryd.prog 110 = some ⟨TK.func, 1, 8, some [AV.nilfn]⟩ := by kernel_rfl
theorem ti111 : ti Tryd.prog 111 = some ⟨TK.func, 1, 8, some [AV.nilfn]⟩ := by kernel_rfl
theorem ti112 : ti Tryd.prog 112 = some ⟨TK.array 20 92, 20, 160, some (List.replicate 20 (AV.int IntKind.u64 (0)))⟩ := by kernel_rfl
theorem ti113 : ti Tryd.prog 113 = some ⟨TK.array 65 5, 65, 65, some (List.replicate 65 (AV.int IntKind.u8 (0)))⟩ := by kernel_rfl
theorem ti114 : ti Tryd.prog 114 = some ⟨TK.func, 1, 8, some [AV.nilfn]⟩ := by kernel_rfl
theorem ti115 : ti Tryd.prog 115 = some ⟨TK.func, 1, 8, some [AV.nilfn]⟩ := by kernel_rfl
theorem ti116 : ti Tryd.prog 116 = some ⟨TK.func, 1, 8, some [AV.nilfn]⟩ := by kernel_rfl
theorem ti117 : ti Tryd.prog 117 = some ⟨TK.array 32 5, 32, 32, some (List.replicate 32 (AV.int IntKind.u8 (0)))⟩ := by kernel_rfl
theorem ti118 : ti Tryd.prog 118 = some ⟨TK.array 64 5, 64, 64, some (List.replicate 64 (AV.int IntKind.u8 (0)))⟩ := by kernel_rfl
theorem ti119 : ti Tryd.prog 119 = some ⟨TK.func, 1, 8, some [AV.nilfn]⟩ := by kernel_rfl
theorem ti120 : ti Tryd.prog 120 = some ⟨TK.struct [(17, 0), (17, 1), (17, 2), (9, 3)], 4, 40, some [AV.nilp, AV.nilp, AV.nilp, AV.str ⟨#[]⟩]⟩ := by kernel_rfl
theorem ti121 : ti Tryd.prog 121 = some ⟨TK.struct [(17, 0), (17, 1), (17, 2), (9, 3)], 4, 40, some [AV.nilp, AV.nilp, AV.nilp, AV.str ⟨#[]⟩]⟩ := by kernel_rfl
theorem ti122 : ti Tryd.prog 122 = some ⟨TK.array 0 16, 0, 0, some []⟩ := by kernel_rfl
theorem ti123 : ti Tryd.prog 123 = some ⟨TK.struct [(122, 0)], 0, 0, some []⟩ := by kernel_rfl
theorem ti124 : ti Tryd.prog 124 = some ⟨TK.struct [(122, 0)], 0, 0, some []⟩ := by kernel_rfl
theorem ti125 : ti Tryd.prog 125 = some ⟨TK.func, 1, 8, some [AV.nilfn]⟩ := by kernel_rfl
theorem ti126 : ti Tryd.prog 126 = some ⟨TK.int IntKind.u8, 1, 1, some [AV.int IntKind.u8 (0)]⟩ := by kernel_rfl
theorem ti127 : ti Tryd.prog 127 = some ⟨TK.int IntKind.u8, 1, 1, some [AV.int IntKind.u8 (0)]⟩ := by kernel_rfl
theorem ti128 : ti Tryd.prog 128 = some ⟨TK.func, 1, 8, some [AV.nilfn]⟩ := by kernel_rfl
theorem ti129 : ti Tryd.prog 129 = some ⟨TK.int IntKind.i32, 1, 4, some [AV.int IntKind.i32 (0)]⟩ := by kernel_rfl
theorem ti130 : ti Tryd.prog 130 = some ⟨TK.int IntKind.i32, 1, 4, some [AV.int IntKind.i32 (0)]⟩ := by kernel_rfl
theorem ti131 : ti Tryd.prog 131 = some ⟨TK.struct [(12, 0), (12, 1), (66, 2), (126, 3), (5, 4), (5, 5), (127, 6), (128, 7), (101, 8), (129, 9), (130, 10)], 11, 48, some [AV.int IntKind.u64 (0), AV.int IntKind.u64 (0), AV.int IntKind.u32 (0), AV.int IntKind.u8 (0), AV.int IntKind.u8 (0), AV.int IntKind.u8 (0), AV.int IntKind.u8 (0), AV.nilfn, AV.nilp, AV.int IntKind.i32 (0), AV.int IntKind.i32 (0)]⟩ := by kernel_rfl
theorem ti132 : ti Tryd.prog 132 = some ⟨TK.struct [(12, 0), (12, 1), (66, 2), (126, 3), (5, 4), (5, 5), (127, 6), (128, 7), (101, 8), (129, 9), (130, 10)], 11, 48, some [AV.int IntKind.u64 (0), AV.int IntKind.u64 (0), AV.int IntKind.u32 (0), AV.int IntKind.u8 (0), AV.int IntKind.u8 (0), AV.int IntKind.u8 (0), AV.int IntKind.u8 (0), AV.nilfn, AV.nilp, AV.int IntKind.i32 (0), AV.int IntKind.i32 (0)]⟩ := by kernel_rfl
theorem ti133 : ti Tryd.prog 133 = some ⟨TK.other, 1, 8, some [AV.nilp]⟩ := by kernel_rfl
theorem zv4 : zv Tryd.prog 4 = some (AV.bool false) := by kernel_rfl
theorem fl7_0 : flT Tryd.prog 7 0 = some 0 := by kernel_rfl
theorem fl7_1 : flT Tryd.prog 7 1 = some 1 := by kernel_rfl
theorem fl7_2 : flT Tryd.prog 7 2 = some 2 := by kernel_rfl
theorem fl7_3 : flT Tryd.prog 7 3 = some 3 := by kernel_rfl
theorem fl8_0 : flT Tryd.prog 8 0 = some 0 := by kernel_rfl
theorem fl8_1 : flT Tryd.prog 8 1 = some 1 := by kernel_rfl
theorem fl8_2 : flT Tryd.prog 8 2 = some 2 := by kernel_rfl
theorem fl8_3 : flT Tryd.prog 8 3 = some 3 := by kernel_rfl
theorem fl13_0 : flT Tryd.prog 13 0 = some 0 := by kernel_rfl
theorem fl13_1 : flT Tryd.prog 13 1 = some 1 := by kernel_rfl
theorem fl14_0 : flT Tryd.prog 14 0 = some 0 := by kernel_rfl
theorem fl14_1 : flT Tryd.prog 14 1 = some 1 := by kernel_rfl
theorem fl18_0 : flT Tryd.prog 18 0 = some 0 := by kernel_rfl
theorem fl19_0 : flT Tryd.prog 19 0 = some 0 := by kernel_rfl
theorem el23 : elT Tryd.prog 23 = some 4 := by kernel_rfl
theorem fl29_0 : flT Tryd.prog 29 0 = some 0 := by kernel_rfl
theorem fl29_1 : flT Tryd.prog 29 1 = some 1 := by kernel_rfl
theorem fl29_2 : flT Tryd.prog 29 2 = some 2 := by kernel_rfl
theorem fl29_3 : flT Tryd.prog 29 3 = some 3 := by kernel_rfl
theorem fl30_0 : flT Tryd.prog 30 0 = some 0 := by kernel_rfl
theorem fl30_1 : flT Tryd.prog 30 1 = some 1 := by kernel_rfl
theorem fl30_2 : flT Tryd.prog 30 2 = some 2 := by kernel_rfl
theorem fl30_3 : flT Tryd.prog 30 3 = some 3 := by kernel_rfl
theorem el33 : elT Tryd.prog 33 = some 1 := by kernel_rfl
theorem mp40 : mpTS Tryd.prog 40 = some 4 := by kernel_rfl
theorem mz40 : mpZS Tryd.prog 40 = some (AV.bool false) := by kernel_rfl
theorem fl42_0 : flT Tryd.prog 42 0 = some 0 := by kernel_rfl
theorem fl42_1 : flT Tryd.prog 42 1 = some 1 := by kernel_rfl
theorem fl42_2 : flT Tryd.prog 42 2 = some 257 := by kernel_rfl
theorem fl43_0 : flT Tryd.prog 43 0 = some 0 := by kernel_rfl
theorem fl43_1 : flT Tryd.prog 43 1 = some 1 := by kernel_rfl
theorem fl43_2 : flT Tryd.prog 43 2 = some 257 := by kernel_rfl
theorem el63 : elT Tryd.prog 63 = some 2 := by kernel_rfl
theorem fl64_0 : flT Tryd.prog 64 0 = some 0 := by kernel_rfl
theorem fl64_1 : flT Tryd.prog 64 1 = some 1 := by kernel_rfl
theorem fl65_0 : flT Tryd.prog 65 0 = some 0 := by kernel_rfl
theorem fl65_1 : flT Tryd.prog 65 1 = some 1 := by kernel_rfl
theorem el69 : elT Tryd.prog 69 = some 1 := by kernel_rfl
theorem el71 : elT Tryd.prog 71 = some 3 := by kernel_rfl
theorem el72 : elT Tryd.prog 72 = some 3 := by kernel_rfl
theorem fl73_0 : flT Tryd.prog 73 0 = some 0 := by kernel_rfl
theorem fl73_1 : flT Tryd.prog 73 1 = some 1 := by kernel_rfl
theorem fl73_2 : flT Tryd.prog 73 2 = some 2 := by kernel_rfl
theorem fl74_0 : flT Tryd.prog 74 0 = some 0 := by kernel_rfl
theorem fl74_1 : flT Tryd.prog 74 1 = some 1 := by kernel_rfl
theorem fl74_2 : flT Tryd.prog 74 2 = some 2 := by kernel_rfl
theorem fl76_0 : flT Tryd.prog 76 0 = some 0 := by kernel_rfl
theorem fl76_1 : flT Tryd.prog 76 1 = some 1 := by kernel_rfl
theorem fl76_2 : flT Tryd.prog 76 2 = some 2 := by kernel_rfl
theorem fl77_0 : flT Tryd.prog 77 0 = some 0 := by kernel_rfl
theorem fl77_1 : flT Tryd.prog 77 1 = some 1 := by kernel_rfl
theorem fl77_2 : flT Tryd.prog 77 2 = some 2 := by kernel_rfl
theorem fl79_0 : flT Tryd.prog 79 0 = some 0 := by kernel_rfl
theorem fl79_1 : flT Tryd.prog 79 1 = some 1 := by kernel_rfl
theorem fl79_2 : flT Tryd.prog 79 2 = some 2 := by kernel_rfl
theorem fl80_0 : flT Tryd.prog 80 0 = some 0 := by kernel_rfl
theorem fl80_1 : flT Tryd.prog 80 1 = some 1 := by kernel_rfl
theorem fl80_2 : flT Tryd.prog 80 2 = some 2 := by kernel_rfl
theorem el83 : elT Tryd.prog 83 = some 1 := by kernel_rfl
theorem fl96_0 : flT Tryd.prog 96 0 = some 0 := by kernel_rfl
theorem fl96_1 : flT Tryd.prog 96 1 = some 1 := by kernel_rfl
theorem fl96_2 : flT Tryd.prog 96 2 = some 2 := by kernel_rfl
theorem fl97_0 : flT Tryd.prog 97 0 = some 0 := by kernel_rfl
theorem fl97_1 : flT Tryd.prog 97 1 = some 1 := by kernel_rfl
theorem fl97_2 : flT Tryd.prog 97 2 = some 2 := by kernel_rfl
theorem fl103_0 : flT Tryd.prog 103 0 = some 0 := by kernel_rfl
theorem fl104_0 : flT Tryd.prog 104 0 = some 0 := by kernel_rfl
theorem fl120_0 : flT Tryd.prog 120 0 = some 0 := by kernel_rfl
theorem fl120_1 : flT Tryd.prog 120 1 = some 1 := by kernel_rfl
theorem fl120_2 : flT Tryd.prog 120 2 = some 2 := by kernel_rfl
theorem fl120_3 : flT Tryd.prog 120 3 = some 3 := by kernel_rfl
theorem fl121_0 : flT Tryd.prog 121 0 = some 0 := by kernel_rfl
theorem fl121_1 : flT Tryd.prog 121 1 = some 1 := by kernel_rfl
theorem fl121_2 : flT Tryd.prog 121 2 = some 2 := by kernel_rfl
theorem fl121_3 : flT Tryd.prog 121 3 = some 3 := by kernel_rfl
theorem fl131_0 : flT Tryd.prog 131 0 = some 0 := by kernel_rfl
theorem fl131_1 : flT Tryd.prog 131 1 = some 1 := by kernel_rfl
theorem fl131_2 : flT Tryd.prog 131 2 = some 2 := by kernel_rfl
theorem fl131_3 : flT Tryd.prog 131 3 = some 3 := by kernel_rfl
theorem fl131_4 : flT Tryd.prog 131 4 = some 4 := by kernel_rfl
theorem fl131_5 : flT Tryd.prog 131 5 = some 5 := by kernel_rfl
theorem fl131_6 : flT Tryd.prog 131 6 = some 6 := by kernel_rfl
theorem fl131_7 : flT Tryd.prog 131 7 = some 7 := by kernel_rfl
theorem fl131_8 : flT Tryd.prog 131 8 = some 8 := by kernel_rfl
theorem fl131_9 : flT Tryd.prog 131 9 = some 9 := by kernel_rfl
theorem fl131_10 : flT Tryd.prog 131 10 = some 10 := by kernel_rfl
theorem fl132_0 : flT Tryd.prog 132 0 = some 0 := by kernel_rfl
theorem fl132_1 : flT Tryd.prog 132 1 = some 1 := by kernel_rfl
theorem fl132_2 : flT Tryd.prog 132 2 = some 2 := by kernel_rfl
theorem fl132_3 : flT Tryd.prog 132 3 = some 3 := by kernel_rfl
theorem fl132_4 : flT Tryd.prog 132 4 = some 4 := by kernel_rfl
theorem fl132_5 : flT Tryd.prog 132 5 = some 5 := by kernel_rfl
theorem fl132_6 : flT Tryd.prog 132 6 = some 6 := by kernel_rfl
theorem fl132_7 : flT Tryd.prog 132 7 = some 7 := by kernel_rfl
theorem fl132_8 : flT Tryd.prog 132 8 = some 8 := by kernel_rfl
theorem fl132_9 : flT Tryd.prog 132 9 = some 9 := by kernel_rfl
theorem fl132_10 : flT Tryd.prog 132 10 = some 10 := by kernel_rfl
theorem isf2 : isFn Tryd.prog 2 = true := by kernel_rfl
theorem isf3 : isFn Tryd.prog 3 = true := by kernel_rfl
theorem isf4 : isFn Tryd.prog 4 = true := by kernel_rfl
theorem isf5 : isFn Tryd.prog 5 = true := by kernel_rfl
theorem isf6 : isFn Tryd.prog 6 = true := by kernel_rfl
theorem isf7 : isFn Tryd.prog 7 = true := by kernel_rfl
theorem isf8 : isFn Tryd.prog 8 = true := by kernel_rfl
theorem isf9 : isFn Tryd.prog 9 = true := by kernel_rfl
theorem isf10 : isFn Tryd.prog 10 = true := by kernel_rfl
theorem isf11 : isFn Tryd.prog 11 = true := by kernel_rfl
theorem isf12 : isFn Tryd.prog 12 = true := by kernel_rfl
theorem isf13 : isFn Tryd.prog 13 = true := by kernel_rfl
theorem isf14 : isFn Tryd.prog 14 = true := by kernel_rfl
theorem isf15 : isFn Tryd.prog 15 = true := by kernel_rfl
theorem isf16 : isFn Tryd.prog 16 = true := by kernel_rfl
theorem isf17 : isFn Tryd.prog 17 = true := by kernel_rfl
theorem isf18 : isFn Tryd.prog 18 = true := by kernel_rfl
theorem isf19 : isFn Tryd.prog 19 = true := by kernel_rfl
theorem isf20 : isFn Tryd.prog 20 = true := by kernel_rfl
theorem isf21 : isFn Tryd.prog 21 = true := by kernel_rfl
theorem isf22 : isFn Tryd.prog 22 = true := by kernel_rfl
theorem isf23 : isFn Tryd.prog 23 = true := by kernel_rfl
theorem isf24 : isFn Tryd.prog 24 = true := by kernel_rfl
theorem isf25 : isFn Tryd.prog 25 = true := by kernel_rfl
theorem isf26 : isFn Tryd.prog 26 = true := by kernel_rfl
theorem isf27 : isFn Tryd.prog 27 = true := by kernel_rfl
theorem isf28 : isFn Tryd.prog 28 = true := by kernel_rfl
theorem isf29 : isFn Tryd.prog 29 = true := by kernel_rfl
theorem isf30 : isFn Tryd.prog 30 = true := by kernel_rfl
theorem isf31 : isFn Tryd.prog 31 = true := by kernel_rfl
theorem isf32 : isFn Tryd.prog 32 = true := by kernel_rfl
theorem isf33 : isFn Tryd.prog 33 = true := by kernel_rfl
theorem isf34 : isFn Tryd.prog 34 = true := by kernel_rfl
theorem isf35 : isFn Tryd.prog 35 = true := by kernel_rfl
theorem isf36 : isFn Tryd.prog 36 = true := by kernel_rfl
theorem isf37 : isFn Tryd.prog 37 = true := by kernel_rfl
theorem isf39 : isFn Tryd.prog 39 = true := by kernel_rfl
theorem isf40 : isFn Tryd.prog 40 = true := by kernel_rfl
theorem isf41 : isFn Tryd.prog 41 = true := by kernel_rfl
theorem isf42 : isFn Tryd.prog 42 = true := by kernel_rfl
theorem isf43 : isFn Tryd.prog 43 = true := by kernel_rfl
theorem isf44 : isFn Tryd.prog 44 = true := by kernel_rfl
theorem isf45 : isFn Tryd.prog 45 = true := by kernel_rfl
theorem isf46 : isFn Tryd.prog 46 = true := by kernel_rfl
theorem isf47 : isFn Tryd.prog 47 = true := by kernel_rfl
theorem isf48 : isFn Tryd.prog 48 = true := by kernel_rfl
theorem isf49 : isFn Tryd.prog 49 = true := by kernel_rfl
theorem isf50 : isFn Tryd.prog 50 = true := by kernel_rfl
theorem isf51 : isFn Tryd.prog 51 = true := by kernel_rfl
theorem isf52 : isFn Tryd.prog 52 = true := by kernel_rfl
theorem isf53 : isFn Tryd.prog 53 = true := by kernel_rfl
theorem isf54 : isFn Tryd.prog 54 = true := by kernel_rfl
theorem isf55 : isFn Tryd.prog 55 = true := by kernel_rfl
theorem isf56 : isFn Tryd.prog 56 = true := by kernel_rfl
theorem isf57 : isFn Tryd.prog 57 = true := by kernel_rfl
theorem isf58 : isFn Tryd.prog 58 = true := by kernel_rfl
theorem isf59 : isFn Tryd.prog 59 = true := by kernel_rfl
theorem isf60 : isFn Tryd.prog 60 = true := by kernel_rfl
theorem isf61 : isFn Tryd.prog 61 = true := by kernel_rfl
theorem isf62 : isFn Tryd.prog 62 = true := by kernel_rfl
theorem isf94 : isFn Tryd.prog 94 = true := by kernel_rfl
theorem mixed : Tryd.prog.follows .mixedOrders = true := by kernel_rfl
attribute [go_sem] ti0 ti1 ti2 ti3 ti4 ti5 ti6 ti7 ti8 ti9 ti10 ti11 ti12 ti13 ti14 ti15 ti16 ti17 ti18 ti19 ti20 ti21 ti22 ti23 ti24 ti25 ti26 ti27 ti28 ti29 ti30 ti31 ti32 ti33 ti34 ti35 ti36 ti37 ti38 ti39 ti40 ti41 ti42 ti43 ti44 ti45 ti46 ti47 ti48 ti49 ti50 ti51 ti52 ti53 ti54 ti55 ti56 ti57 ti58 ti59 ti60 ti61 ti62 ti63 ti64 ti65 ti66 ti67 ti68 ti69 ti70 ti71 ti72 ti73 ti74 ti75 ti76 ti77 ti78 ti79 ti80 ti81 ti82 ti83 ti84 ti85 ti86 ti87 ti88 ti89 ti90 ti91 ti92 ti93 ti94 ti95 ti96 ti97 ti98 ti99 ti100 ti101 ti102 ti103 ti104 ti105 ti106 ti107 ti108 ti109 ti110 ti111 ti112 ti113 ti114 ti115 ti116 ti117 ti118 ti119 ti120 ti121 ti122 ti123 ti124 ti125 ti126 ti127 ti128 ti129 ti130 ti131 ti132 ti133 zv4 fl7_0 fl7_1 fl7_2 fl7_3 fl8_0 fl8_1 fl8_2 fl8_3 fl13_0 fl13_1 fl14_0 fl14_1 fl18_0 fl19_0 el23 fl29_0 fl29_1 fl29_2 fl29_3 fl30_0 fl30_1 fl30_2 fl30_3 el33 mp40 mz40 fl42_0 fl42_1 fl42_2 fl43_0 fl43_1 fl43_2 el63 fl64_0 fl64_1 fl65_0 fl65_1 el69 el71 el72 fl73_0 fl73_1 fl73_2 fl74_0 fl74_1 fl74_2 fl76_0 fl76_1 fl76_2 fl77_0 fl77_1 fl77_2 fl79_0 fl79_1 fl79_2 fl80_0 fl80_1 fl80_2 el83 fl96_0 fl96_1 fl96_2 fl97_0 fl97_1 fl97_2 fl103_0 fl104_0 fl120_0 fl120_1 fl120_2 fl120_3 fl121_0 fl121_1 fl121_2 fl121_3 fl131_0 fl131_1 fl131_2 fl131_3 fl131_4 fl131_5 fl131_6 fl131_7 fl131_8 fl131_9 fl131_10 fl132_0 fl132_1 fl132_2 fl132_3 fl132_4 fl132_5 fl132_6 fl132_7 fl132_8 fl132_9 fl132_10
end Go.Proofs.YtihfjibkmhclfaaDoor

set_option linter.unusedSimpArgs false
set_option linter.unusedVariables false
set_option maxHeartbeats 4000000
set_option maxRecDepth 100000
namespace Go.Proofs.YtihfjibkmhclfaaDoor
open Nat (reduceAdd reduceMul reduceEqDiff reduceLT reduceLeDiff reduceSub reduceDiv)
open Int (reduceBNe reduceLE reduceEq)
open Go.Am Go.Proofs Go.Lx
open Classical
attribute [local irreducible] AW CallP CallB
theorem letter_call (c : UInt8) : PCall Tryd.prog 14 [.int .u8 (c.toNat : Int)] (.bool (isLet c)) := by
 have q1 : decide ((c.toNat : Int) ≥ 97) = decide (97 ≤ c.toNat) := by rw [decide_eq_decide]; omega
 have q2 : decide ((c.toNat : Int) ≤ 122) = decide (c.toNat ≤ 122) := by rw [decide_eq_decide]; omega
 have q3 : decide ((c.toNat : Int) ≥ 65) = decide (65 ≤ c.toNat) := by rw [decide_eq_decide]; omega
 have q4 : decide ((c.toNat : Int) ≤ 90) = decide (c.toNat ≤ 90) := by rw [decide_eq_decide]; omega
 unfold isLet
 generalize decide (97 ≤ c.toNat) = b1 at *
 generalize decide (c.toNat ≤ 122) = b2 at *
 generalize decide (65 ≤ c.toNat) = b3 at *
 generalize decide (c.toNat ≤ 90) = b4 at *
 cases b1 <;> cases b2 <;> cases b3 <;> cases b4
 all_goals
  refine PCall.intro Tryd.func14 rfl isf14 (by simp [Tryd.f14]) (by simp [AV.cloL, AV.clo]) fun E Q hE hN hQ => K_start ?_
  repeat' (first | apply nx | refine Kq_exit_ne (by decide) ?_ | rw [wrap64 (by omega) (by omega)] | ((first | refine hK _ ?_ | refine hKp _ _ ?_); clear hK hKp K Kp; try clear hanc anc) | ((with_reducible refine And.intro ?_ ?_); (focus (first | trivial | omega | (simp only [Fits]; omega) | assumption | (rw [hanc]; rfl)))) | ((first | refine K_regA hE fun K Kp hK hKp => ?_ | refine K_drwA false mixed hE fun K Kp hK hKp anc hanc => ?_); simp only [go_sem, q1, q2, q3, q4]) | ((first | refine onG_split_t (fun hg => ?_) (fun hg => ?_) | refine onG_split_f (fun hg => ?_) (fun hg => ?_)) <;> simp only [go_sem, q1, q2, q3, q4, hg]) | (refine K_condA (fun hc => ?_) (fun hc => ?_) <;> try (exact absurd hc (by decide))) | (refine K_ret ?_; refine (hQ _ ⟨_, by (try simp only [go_sem, ↓reduceIte, Nat.reduceEqDiff]); rfl, by simp [go_sem], ?_, by first | rfl | assumption⟩).1))
  simp [AV.snap]
theorem digit_call (c : UInt8) : PCall Tryd.prog 15 [.int .u8 (c.toNat : Int)] (.bool (isDig c)) := by
 have q1 : decide ((c.toNat : Int) ≥ 48) = decide (48 ≤ c.toNat) := by rw [decide_eq_decide]; omega
 have q2 : decide ((c.toNat : Int) ≤ 57) = decide (c.toNat ≤ 57) := by rw [decide_eq_decide]; omega
 unfold isDig
 generalize decide (48 ≤ c.toNat) = b1 at *
 generalize decide (c.toNat ≤ 57) = b2 at *
 cases b1 <;> cases b2
 all_goals
  refine PCall.intro Tryd.func15 rfl isf15 (by simp [Tryd.f15]) (by simp [AV.cloL, AV.clo]) fun E Q hE hN hQ => K_start ?_
  repeat' (first | apply nx | refine Kq_exit_ne (by decide) ?_ | rw [wrap64 (by omega) (by omega)] | ((first | refine hK _ ?_ | refine hKp _ _ ?_); clear hK hKp K Kp; try clear hanc anc) | ((with_reducible refine And.intro ?_ ?_); (focus (first | trivial | omega | (simp only [Fits]; omega) | assumption | (rw [hanc]; rfl)))) | ((first | refine K_regA hE fun K Kp hK hKp => ?_ | refine K_drwA false mixed hE fun K Kp hK hKp anc hanc => ?_); simp only [go_sem, q1, q2]) | ((first | refine onG_split_t (fun hg => ?_) (fun hg => ?_) | refine onG_split_f (fun hg => ?_) (fun hg => ?_)) <;> simp only [go_sem, q1, q2, hg]) | (refine K_condA (fun hc => ?_) (fun hc => ?_) <;> try (exact absurd hc (by decide))) | (refine K_ret ?_; refine (hQ _ ⟨_, by (try simp only [go_sem, ↓reduceIte, Nat.reduceEqDiff]); rfl, by simp [go_sem], ?_, by first | rfl | assumption⟩).1))
  simp [AV.snap]
theorem blank_call (c : UInt8) : PCall Tryd.prog 26 [.int .u8 (c.toNat : Int)] (.bool (isBlank c)) := by
 have q1 := u8_beq c 32 32 rfl
 have q2 := u8_beq c 9 9 rfl
 have q3 := u8_beq c 13 13 rfl
 have q4 := u8_beq c 10 10 rfl
 unfold isBlank
 generalize (c == 32) = b1 at *
 generalize (c == 9) = b2 at *
 generalize (c == 13) = b3 at *
 generalize (c == 10) = b4 at *
 cases b1 <;> cases b2 <;> cases b3 <;> cases b4
 all_goals
  refine PCall.intro Tryd.func26 rfl isf26 (by simp [Tryd.f26]) (by simp [AV.cloL, AV.clo]) fun E Q hE hN hQ => K_start ?_
  repeat' (first | apply nx | refine Kq_exit_ne (by decide) ?_ | rw [wrap64 (by omega) (by omega)] | ((first | refine hK _ ?_ | refine hKp _ _ ?_); clear hK hKp K Kp; try clear hanc anc) | ((with_reducible refine And.intro ?_ ?_); (focus (first | trivial | omega | (simp only [Fits]; omega) | assumption | (rw [hanc]; rfl)))) | ((first | refine K_regA hE fun K Kp hK hKp => ?_ | refine K_drwA false mixed hE fun K Kp hK hKp anc hanc => ?_); simp only [go_sem, q1, q2, q3, q4]) | ((first | refine onG_split_t (fun hg => ?_) (fun hg => ?_) | refine onG_split_f (fun hg => ?_) (fun hg => ?_)) <;> simp only [go_sem, q1, q2, q3, q4, hg]) | (refine K_condA (fun hc => ?_) (fun hc => ?_) <;> try (exact absurd hc (by decide))) | (refine K_ret ?_; refine (hQ _ ⟨_, by (try simp only [go_sem, ↓reduceIte, Nat.reduceEqDiff]); rfl, by simp [go_sem], ?_, by first | rfl | assumption⟩).1))
  simp [AV.snap]
theorem gp_at {l : List UInt8} {at_ : Nat} {c : UInt8} (h : l[at_]? = some c) (b : Bool) : gp b (l.drop at_) = match b with | true => 1 + gp (c != 10) (l.drop (at_ + 1)) | false => if isBlank c then 1 + gp false (l.drop (at_ + 1)) else if c = 35 then 1 + gp true (l.drop (at_ + 1)) else 0 := by
 rw [drop_of h]
 cases b <;> rfl
theorem rgap_call (l : List UInt8) (a : Nat) (ha : a ≤ l.length) (hl : l.length ≤ 2 ^ 40) : PCall Tryd.prog 20 [.str (tx l), .i a] (.i ((a + gp false (l.drop a) : Nat) : Int)) := by
 refine PCall.intro Tryd.func20 rfl isf20 (by simp [Tryd.f20]) (by simp [AV.cloL, AV.clo]) fun E Q hE hN hQ => K_start ?_
 repeat' (first | apply nx | refine Kq_exit_ne (by decide) ?_ | rw [wrap64 (by omega) (by omega)] | ((first | refine hK _ ?_ | refine hKp _ _ ?_); clear hK hKp K Kp; try clear hanc anc) | ((with_reducible refine And.intro ?_ ?_); (focus (first | trivial | omega | (simp only [Fits]; omega) | assumption | (rw [hanc]; rfl)))) | ((first | refine K_regA hE fun K Kp hK hKp => ?_ | refine K_drwA false mixed hE fun K Kp hK hKp anc hanc => ?_); simp only [go_sem]) | ((first | refine onG_split_t (fun hg => ?_) (fun hg => ?_) | refine onG_split_f (fun hg => ?_) (fun hg => ?_)) <;> simp only [go_sem, hg]) | (refine K_condA (fun hc => ?_) (fun hc => ?_) <;> try (exact absurd hc (by decide))) | (refine K_ret ?_; refine (hQ _ ⟨_, by (try simp only [go_sem, ↓reduceIte, Nat.reduceEqDiff]); rfl, by simp [go_sem], ?_, by first | rfl | assumption⟩).1))
 refine K_loop (X := Nat) (fun i => i ≤ l.length ∧ a + gp false (l.drop a) = i + gp false (l.drop i)) (fun i => mkSt [(0, .str (tx l)), (1, .i i)] [] 0) (fun i => l.length - i) a ⟨ha, rfl⟩ (fun i => i) (by refine ent_mk (by simp [go_sem]) (by simp [go_sem]) (by simp) (by simp [hN])) ?_
 rintro i ⟨hi, ht⟩
 have fin : gp false (l.drop i) = 0 → ((i : Nat) : Int) = ((a + gp false (l.drop a) : Nat) : Int) := fun h => by rw [h] at ht; omega
 by_cases hlt : i < l.length
 case neg =>
  obtain rfl : i = l.length := by omega
  have e := fin (by simp [gp])
  rw [← e] at hQ
  repeat' (first | apply nx | refine Kq_exit_ne (by decide) ?_ | rw [wrap64 (by omega) (by omega)] | ((first | refine hK _ ?_ | refine hKp _ _ ?_); clear hK hKp K Kp; try clear hanc anc) | ((with_reducible refine And.intro ?_ ?_); (focus (first | trivial | omega | (simp only [Fits]; omega) | assumption | (rw [hanc]; rfl)))) | ((first | refine K_regA hE fun K Kp hK hKp => ?_ | refine K_drwA false mixed hE fun K Kp hK hKp anc hanc => ?_); simp only [go_sem, ge_dec]) | ((first | refine onG_split_t (fun hg => ?_) (fun hg => ?_) | refine onG_split_f (fun hg => ?_) (fun hg => ?_)) <;> simp only [go_sem, ge_dec, hg]) | (refine K_condA (fun hc => ?_) (fun hc => ?_) <;> try (exact absurd hc (by decide))) | (refine K_ret ?_; refine (hQ _ ⟨_, by (try simp only [go_sem, ↓reduceIte, Nat.reduceEqDiff]); rfl, by simp [go_sem], ?_, by first | rfl | assumption⟩).1))
  simp [AV.snap]
 obtain ⟨c, hc0⟩ := get?_of hlt
 have hb := blank_call c
 have q1 := u8_beq c 35 35 rfl
 have q2 := u8_bne c 35 35 rfl
 have hg := gp_at hc0 false
 simp only at hg
 have hiN : (i : Int).toNat = i := by omega
 have u1 : IntKind.i64.wrap ((i : Int) + 1) = ((i + 1 : Nat) : Int) := by rw [wrap64 (by omega) (by omega)]; omega
 by_cases h35 : c = 35
 ·subst h35
  have hnb : isBlank 35 = false := by decide
  rw [hnb] at hb hg
  rw [if_neg (by simp), if_pos rfl] at hg
  have q1' : ((35 : UInt8) == 35) = true := rfl
  have q2' : ((35 : UInt8) != 35) = false := rfl
  rw [q1'] at q1
  rw [q2'] at q2
  repeat' (first | apply nx | refine Kq_exit_ne (by decide) ?_ | rw [wrap64 (by omega) (by omega)] | ((first | refine hK _ ?_ | refine hKp _ _ ?_); clear hK hKp K Kp; try clear hanc anc) | ((with_reducible refine And.intro ?_ ?_); (focus (first | trivial | omega | (simp only [Fits]; omega) | assumption | (rw [hanc]; rfl)))) | ((first | refine K_regA hE fun K Kp hK hKp => ?_ | refine K_drwA false mixed hE fun K Kp hK hKp anc hanc => ?_ | ((first | apply CallP_mk | apply CallB_mk); (focus (simp only [go_sem] <;> rfl)); (focus (exact hb)); (focus (first | (simp [go_sem]; done) | (simp [go_sem, CloRow, AV.cells, AV.clo]; done))); (focus (first | exact .inl rfl | (right; simp [go_sem]))))); simp only [go_sem, lt_dec hlt, hc0, q1, q2]) | ((first | refine onG_split_t (fun hg => ?_) (fun hg => ?_) | refine onG_split_f (fun hg => ?_) (fun hg => ?_)) <;> simp only [go_sem, lt_dec hlt, hc0, q1, q2, hg]) | (refine K_condA (fun hc => ?_) (fun hc => ?_) <;> try (exact absurd hc (by decide))) | (refine K_ret ?_; refine (hQ _ ⟨_, by (try simp only [go_sem, ↓reduceIte, Nat.reduceEqDiff]); rfl, by simp [go_sem], ?_, by first | rfl | assumption⟩).1))
  refine K_loop (X := Nat) (fun j => i ≤ j ∧ j ≤ l.length ∧ a + gp false (l.drop a) = j + gp true (l.drop j)) (fun j => mkSt [(0, .str (tx l)), (1, .i j)] [] 0) (fun j => l.length - j) i ⟨Nat.le_refl _, hi, ?_⟩ (fun i => i) (by refine ent_mk (by simp [go_sem]) (by simp [go_sem]) (by simp) (by simp [hN])) ?_
  ·rw [ht, hg, gp_at hc0 true]
   rfl
  rintro j ⟨hij, hj, htj⟩
  by_cases hjl : j < l.length
  ·obtain ⟨d, hd⟩ := get?_of hjl
   have q3 := u8_bne d 10 10 rfl
   have hgj := gp_at hd true
   simp only at hgj
   have v1 : IntKind.i64.wrap ((j : Int) + 1) = ((j + 1 : Nat) : Int) := by rw [wrap64 (by omega) (by omega)]; omega
   by_cases h10 : d = 10
   ·subst h10
    have q3' : ((10 : UInt8) != 10) = false := rfl
    rw [q3'] at q3 hgj
    have hne : i ≠ j := fun e => by rw [← e, hc0] at hd; cases hd
    repeat' (first | apply nx | refine Kq_exit_ne (by decide) ?_ | rw [wrap64 (by omega) (by omega)] | ((first | refine hK _ ?_ | refine hKp _ _ ?_); clear hK hKp K Kp; try clear hanc anc) | ((with_reducible refine And.intro ?_ ?_); (focus (first | trivial | omega | (simp only [Fits]; omega) | assumption | (rw [hanc]; rfl)))) | ((first | refine K_regA hE fun K Kp hK hKp => ?_ | refine K_drwA false mixed hE fun K Kp hK hKp anc hanc => ?_); simp only [go_sem, lt_dec hjl, hd, q3]) | ((first | refine onG_split_t (fun hg => ?_) (fun hg => ?_) | refine onG_split_f (fun hg => ?_) (fun hg => ?_)) <;> simp only [go_sem, lt_dec hjl, hd, q3, hg]) | (refine K_condA (fun hc => ?_) (fun hc => ?_) <;> try (exact absurd hc (by decide))) | (refine K_ret ?_; refine (hQ _ ⟨_, by (try simp only [go_sem, ↓reduceIte, Nat.reduceEqDiff]); rfl, by simp [go_sem], ?_, by first | rfl | assumption⟩).1))
    refine ⟨j, ⟨hj, ?_⟩, by omega, fun i => i, by refine ent_mk (by simp [go_sem]) (by simp [go_sem]) (by simp) (by simp [hN])⟩
    rw [htj, hgj, gp_at hd false]
    rfl
   ·have q3' : (d != 10) = true := by simpa using h10
    rw [q3'] at q3 hgj
    repeat' (first | apply nx | refine Kq_exit_ne (by decide) ?_ | rw [wrap64 (by omega) (by omega)] | ((first | refine hK _ ?_ | refine hKp _ _ ?_); clear hK hKp K Kp; try clear hanc anc) | ((with_reducible refine And.intro ?_ ?_); (focus (first | trivial | omega | (simp only [Fits]; omega) | assumption | (rw [hanc]; rfl)))) | ((first | refine K_regA hE fun K Kp hK hKp => ?_ | refine K_drwA false mixed hE fun K Kp hK hKp anc hanc => ?_); simp only [go_sem, lt_dec hjl, hd, q3, v1]) | ((first | refine onG_split_t (fun hg => ?_) (fun hg => ?_) | refine onG_split_f (fun hg => ?_) (fun hg => ?_)) <;> simp only [go_sem, lt_dec hjl, hd, q3, v1, hg]) | (refine K_condA (fun hc => ?_) (fun hc => ?_) <;> try (exact absurd hc (by decide))) | (refine K_ret ?_; refine (hQ _ ⟨_, by (try simp only [go_sem, ↓reduceIte, Nat.reduceEqDiff]); rfl, by simp [go_sem], ?_, by first | rfl | assumption⟩).1))
    exact ⟨j + 1, ⟨by omega, by omega, by rw [htj, hgj]; omega⟩, by omega, fun i => i, by refine ent_mk (by simp [go_sem]) (by simp [go_sem]) (by simp) (by simp [hN])⟩
  ·obtain rfl : j = l.length := by omega
   repeat' (first | apply nx | refine Kq_exit_ne (by decide) ?_ | rw [wrap64 (by omega) (by omega)] | ((first | refine hK _ ?_ | refine hKp _ _ ?_); clear hK hKp K Kp; try clear hanc anc) | ((with_reducible refine And.intro ?_ ?_); (focus (first | trivial | omega | (simp only [Fits]; omega) | assumption | (rw [hanc]; rfl)))) | ((first | refine K_regA hE fun K Kp hK hKp => ?_ | refine K_drwA false mixed hE fun K Kp hK hKp anc hanc => ?_); simp only [go_sem, ge_dec]) | ((first | refine onG_split_t (fun hg => ?_) (fun hg => ?_) | refine onG_split_f (fun hg => ?_) (fun hg => ?_)) <;> simp only [go_sem, ge_dec, hg]) | (refine K_condA (fun hc => ?_) (fun hc => ?_) <;> try (exact absurd hc (by decide))) | (refine K_ret ?_; refine (hQ _ ⟨_, by (try simp only [go_sem, ↓reduceIte, Nat.reduceEqDiff]); rfl, by simp [go_sem], ?_, by first | rfl | assumption⟩).1))
   refine ⟨l.length, ⟨Nat.le_refl _, ?_⟩, by omega, fun i => i, by refine ent_mk (by simp [go_sem]) (by simp [go_sem]) (by simp) (by simp [hN])⟩
   rw [htj]
   simp [gp]
 ·have q1' : (c == 35) = false := by simpa using h35
  have q2' : (c != 35) = true := by simpa using h35
  rw [q1'] at q1
  rw [q2'] at q2
  cases hbl : isBlank c
  ·rw [hbl, if_neg (by simp), if_neg h35] at hg
   rw [hbl] at hb
   have e := fin hg
   rw [← e] at hQ
   repeat' (first | apply nx | refine Kq_exit_ne (by decide) ?_ | rw [wrap64 (by omega) (by omega)] | ((first | refine hK _ ?_ | refine hKp _ _ ?_); clear hK hKp K Kp; try clear hanc anc) | ((with_reducible refine And.intro ?_ ?_); (focus (first | trivial | omega | (simp only [Fits]; omega) | assumption | (rw [hanc]; rfl)))) | ((first | refine K_regA hE fun K Kp hK hKp => ?_ | refine K_drwA false mixed hE fun K Kp hK hKp anc hanc => ?_ | ((first | apply CallP_mk | apply CallB_mk); (focus (simp only [go_sem] <;> rfl)); (focus (exact hb)); (focus (first | (simp [go_sem]; done) | (simp [go_sem, CloRow, AV.cells, AV.clo]; done))); (focus (first | exact .inl rfl | (right; simp [go_sem]))))); simp only [go_sem, lt_dec hlt, hc0, q1, q2]) | ((first | refine onG_split_t (fun hg => ?_) (fun hg => ?_) | refine onG_split_f (fun hg => ?_) (fun hg => ?_)) <;> simp only [go_sem, lt_dec hlt, hc0, q1, q2, hg]) | (refine K_condA (fun hc => ?_) (fun hc => ?_) <;> try (exact absurd hc (by decide))) | (refine K_ret ?_; refine (hQ _ ⟨_, by (try simp only [go_sem, ↓reduceIte, Nat.reduceEqDiff]); rfl, by simp [go_sem], ?_, by first | rfl | assumption⟩).1))
   simp [AV.snap]
  ·rw [hbl, if_pos rfl] at hg
   rw [hbl] at hb
   repeat' (first | apply nx | refine Kq_exit_ne (by decide) ?_ | rw [wrap64 (by omega) (by omega)] | ((first | refine hK _ ?_ | refine hKp _ _ ?_); clear hK hKp K Kp; try clear hanc anc) | ((with_reducible refine And.intro ?_ ?_); (focus (first | trivial | omega | (simp only [Fits]; omega) | assumption | (rw [hanc]; rfl)))) | ((first | refine K_regA hE fun K Kp hK hKp => ?_ | refine K_drwA false mixed hE fun K Kp hK hKp anc hanc => ?_ | ((first | apply CallP_mk | apply CallB_mk); (focus (simp only [go_sem] <;> rfl)); (focus (exact hb)); (focus (first | (simp [go_sem]; done) | (simp [go_sem, CloRow, AV.cells, AV.clo]; done))); (focus (first | exact .inl rfl | (right; simp [go_sem]))))); simp only [go_sem, lt_dec hlt, hc0, q1, q2, u1]) | ((first | refine onG_split_t (fun hg => ?_) (fun hg => ?_) | refine onG_split_f (fun hg => ?_) (fun hg => ?_)) <;> simp only [go_sem, lt_dec hlt, hc0, q1, q2, u1, hg]) | (refine K_condA (fun hc => ?_) (fun hc => ?_) <;> try (exact absurd hc (by decide))) | (refine K_ret ?_; refine (hQ _ ⟨_, by (try simp only [go_sem, ↓reduceIte, Nat.reduceEqDiff]); rfl, by simp [go_sem], ?_, by first | rfl | assumption⟩).1))
   exact ⟨i + 1, ⟨by omega, by rw [ht, hg]; omega⟩, by omega, fun i => i, by refine ent_mk (by simp [go_sem]) (by simp [go_sem]) (by simp) (by simp [hN])⟩
end Go.Proofs.YtihfjibkmhclfaaDoor

set_option linter.unusedSimpArgs false
set_option linter.unusedVariables false
set_option maxHeartbeats 4000000
set_option maxRecDepth 100000
namespace Go.Proofs.YtihfjibkmhclfaaDoor
open Nat (reduceAdd reduceMul reduceEqDiff reduceLT reduceLeDiff reduceSub reduceDiv)
open Int (reduceBNe reduceLE reduceEq)
open Go.Am Go.Proofs Go.Lx
open Classical
attribute [local irreducible] AW CallP CallB
@[go_sem] theorem clo_lit : CloRow [AV.str ⟨#[58, 58]⟩, AV.str ⟨#[61, 61]⟩, AV.str ⟨#[38, 33]⟩, AV.str ⟨#[45, 62]⟩, AV.str ⟨#[60]⟩, AV.str ⟨#[62]⟩, AV.str ⟨#[40]⟩, AV.str ⟨#[41]⟩, AV.str ⟨#[123]⟩, AV.str ⟨#[125]⟩, AV.str ⟨#[91]⟩, AV.str ⟨#[93]⟩, AV.str ⟨#[44]⟩, AV.str ⟨#[59]⟩, AV.str ⟨#[58]⟩, AV.str ⟨#[46]⟩, AV.str ⟨#[61]⟩, AV.str ⟨#[43]⟩, AV.str ⟨#[45]⟩, AV.str ⟨#[42]⟩, AV.str ⟨#[38]⟩] = True := eq_true (clo_sl syms)
theorem syms_call : PCall Tryd.prog 16 [] (.sl (sl syms)) := by
 refine PCall.intro Tryd.func16 rfl isf16 (by simp [Tryd.f16]) (by simp [AV.cloL, AV.clo]) fun E Q hE hN hQ => K_start ?_
 repeat' (first | apply nx | refine Kq_exit_ne (by decide) ?_ | rw [wrap64 (by omega) (by omega)] | ((first | refine hK _ ?_ | refine hKp _ _ ?_); clear hK hKp K Kp; try clear hanc anc) | ((with_reducible refine And.intro ?_ ?_); (focus (first | trivial | omega | (simp only [Fits]; omega) | assumption | (rw [hanc]; rfl)))) | ((first | refine K_regA hE fun K Kp hK hKp => ?_ | refine K_drwA false mixed hE fun K Kp hK hKp anc hanc => ?_); simp only [go_sem]) | ((first | refine onG_split_t (fun hg => ?_) (fun hg => ?_) | refine onG_split_f (fun hg => ?_) (fun hg => ?_)) <;> simp only [go_sem, hg]) | (refine K_condA (fun hc => ?_) (fun hc => ?_) <;> try (exact absurd hc (by decide))) | (refine K_ret ?_; refine (hQ _ ⟨_, by (try simp only [go_sem, ↓reduceIte, Nat.reduceEqDiff]); rfl, by simp [go_sem], ?_, by first | rfl | assumption⟩).1))
 simp [AV.snap, AV.snapL]
 rfl
theorem run_at {p : UInt8 → Bool} {l : List UInt8} {i : Nat} {c : UInt8} (h : l[i]? = some c) : run p (l.drop i) = if p c then 1 + run p (l.drop (i + 1)) else 0 := by
 rw [drop_of h, run_cons]
theorem take_add {l : List UInt8} {a n : Nat} : (l.take (a + n)).drop a = (l.drop a).take n := by
 rw [List.drop_take, show a + n - a = n by omega]
def clipV (l : List UInt8) : Nat := l.foldl (fun n c => min (10 * n + (c.toNat - 48)) 10000000000) 0
theorem clipV_snoc (l : List UInt8) (c : UInt8) : clipV (l ++ [c]) = min (10 * clipV l + (c.toNat - 48)) 10000000000 := by simp [clipV]
theorem clipV_le (l : List UInt8) : clipV l ≤ 10000000000 := by
 rcases List.eq_nil_or_concat l with rfl | ⟨m, c, rfl⟩
 ·decide
 ·rw [List.concat_eq_append, clipV_snoc]; omega
def findS (s : List UInt8) : Option (List UInt8) := syms.find? fun y => decide (s.take y.length = y)
def rtk (a : Nat) (s : List UInt8) : Tk :=
 match s with
 | [] => ⟨0, [], 0, 0⟩
 | c :: r => if isLet c then ⟨1, (c :: r).take (run isName (c :: r)), 0, a⟩ else if isDig c then ⟨2, (c :: r).take (run isDig (c :: r)), clipV ((c :: r).take (run isDig (c :: r))), a⟩
  else match findS (c :: r) with | some y => ⟨3, y, 0, a⟩ | none => ⟨0, [], 0, 0⟩
theorem rtoken_call (l : List UInt8) (a : Nat) (ha : a < l.length) (hl : l.length ≤ 2 ^ 40) : PCall Tryd.prog 21 [.str (tx l), .i a] (rtk a (l.drop a)).av := by
 obtain ⟨c, hc0⟩ := get?_of ha
 have hd := drop_of hc0
 have lc := letter_call c
 have dc := digit_call c
 have u0 : (a : Int).toNat = a := by omega
 cases h1 : isLet c
 case true =>
  rw [h1] at lc
  have hr : rtk a (l.drop a) = ⟨1, (l.drop a).take (run isName (l.drop a)), 0, a⟩ := by rw [hd, rtk, if_pos h1]
  have hrl := run_le isName (l.drop a)
  rw [List.length_drop] at hrl
  rw [hr, Tk.av_eq, ← take_add]
  generalize hn : run isName (l.drop a) = n at *
  refine PCall.intro Tryd.func21 rfl isf21 (by simp [Tryd.f21]) (by simp [AV.cloL, AV.clo]) fun E Q hE hN hQ => K_start ?_
  repeat' (first | apply nx | refine Kq_exit_ne (by decide) ?_ | rw [wrap64 (by omega) (by omega)] | ((first | refine hK _ ?_ | refine hKp _ _ ?_); clear hK hKp K Kp; try clear hanc anc) | ((with_reducible refine And.intro ?_ ?_); (focus (first | trivial | omega | (simp only [Fits]; omega) | assumption | (rw [hanc]; rfl)))) | ((first | refine K_regA hE fun K Kp hK hKp => ?_ | refine K_drwA false mixed hE fun K Kp hK hKp anc hanc => ?_ | ((first | apply CallP_mk | apply CallB_mk); (focus (simp only [go_sem] <;> rfl)); (focus (exact lc)); (focus (first | (simp [go_sem]; done) | (simp [go_sem, CloRow, AV.cells, AV.clo]; done))); (focus (first | exact .inl rfl | (right; simp [go_sem]))))); simp only [go_sem, hc0]) | ((first | refine onG_split_t (fun hg => ?_) (fun hg => ?_) | refine onG_split_f (fun hg => ?_) (fun hg => ?_)) <;> simp only [go_sem, hc0, hg]) | (refine K_condA (fun hc => ?_) (fun hc => ?_) <;> try (exact absurd hc (by decide))) | (refine K_ret ?_; refine (hQ _ ⟨_, by (try simp only [go_sem, ↓reduceIte, Nat.reduceEqDiff]); rfl, by simp [go_sem], ?_, by first | rfl | assumption⟩).1))
  refine K_loop (X := Nat) (fun i => a ≤ i ∧ i ≤ l.length ∧ a + n = i + run isName (l.drop i)) (fun i => mkSt [(0, .str (tx l)), (1, .i a), (4, .ptr 0 0), (5, .i i)] [(0, .cells [.i 0, .str ⟨#[]⟩, .i 0, .i 0])] 1) (fun i => l.length - i) a ⟨Nat.le_refl _, by omega, by rw [hn]⟩ (fun i => i) (by refine ent_mk (by simp [go_sem]) (by simp [go_sem]) (by simp) (by simp [hN])) ?_
  rintro i ⟨hai, hi, ht⟩
  have fin : run isName (l.drop i) = 0 → a + n = i := fun h => by rw [h] at ht; omega
  by_cases hlt : i < l.length
  case neg =>
   obtain rfl : i = l.length := by omega
   have e := fin (by simp [run])
   rw [e] at hQ
   repeat' (first | apply nx | refine Kq_exit_ne (by decide) ?_ | rw [wrap64 (by omega) (by omega)] | ((first | refine hK _ ?_ | refine hKp _ _ ?_); clear hK hKp K Kp; try clear hanc anc) | ((with_reducible refine And.intro ?_ ?_); (focus (first | trivial | omega | (simp only [Fits]; omega) | assumption | (rw [hanc]; rfl)))) | ((first | refine K_regA hE fun K Kp hK hKp => ?_ | refine K_drwA true mixed hE fun K Kp hK hKp anc hanc => ?_ | refine K_drwA false mixed hE fun K Kp hK hKp anc hanc => ?_); simp only [go_sem, ge_dec]) | ((first | refine onG_split_t (fun hg => ?_) (fun hg => ?_) | refine onG_split_f (fun hg => ?_) (fun hg => ?_)) <;> simp only [go_sem, ge_dec, hg]) | (refine K_condA (fun hc => ?_) (fun hc => ?_) <;> try (exact absurd hc (by decide))))
   refine K_ret (hQ _ ⟨.agg [.i 1, .str (tx (l.drop a)), .i 0, .i a], (by simp [resA, rvA, Tryd.f21, go_sem, updo]; rfl), (by simp [AV.snapOk, AV.snapOkL, go_sem, updo]), (by simp [AV.snap, AV.snapL, go_sem, updo]), (by first | rfl | simp [AV.clo, AV.cloL, go_sem, updo])⟩).1
  obtain ⟨d, hd0⟩ := get?_of hlt
  have lc := letter_call d
  have dc := digit_call d
  have q1 := u8_beq d 95 95 rfl
  have hra := run_at (p := isName) hd0
  have v1 : IntKind.i64.wrap ((i : Int) + 1) = ((i + 1 : Nat) : Int) := by rw [wrap64 (by omega) (by omega)]; omega
  unfold isName at hra
  generalize isLet d = b1 at *
  generalize isDig d = b2 at *
  generalize (d == 95) = b3 at *
  by_cases hb : (b1 || b2 || b3) = true
  ·rw [if_pos hb] at hra
   have hlast : a + n = (i + 1) + run isName (l.drop (i + 1)) := by rw [ht]; unfold isName; rw [hra]; omega
   cases b1 <;> cases b2 <;> cases b3
   all_goals first | (exact absurd hb (by decide)) | skip
   all_goals
    repeat' (first | apply nx | refine Kq_exit_ne (by decide) ?_ | rw [wrap64 (by omega) (by omega)] | ((first | refine hK _ ?_ | refine hKp _ _ ?_); clear hK hKp K Kp; try clear hanc anc) | ((with_reducible refine And.intro ?_ ?_); (focus (first | trivial | omega | (simp only [Fits]; omega) | assumption | (rw [hanc]; rfl)))) | ((first | refine K_regA hE fun K Kp hK hKp => ?_ | refine K_drwA false mixed hE fun K Kp hK hKp anc hanc => ?_ | ((first | apply CallP_mk | apply CallB_mk); (focus (simp only [go_sem] <;> rfl)); (focus (first | exact lc | exact dc)); (focus (first | (simp [go_sem]; done) | (simp [go_sem, CloRow, AV.cells, AV.clo]; done))); (focus (first | exact .inl rfl | (right; simp [go_sem]))))); simp only [go_sem, lt_dec hlt, hd0, q1, v1]) | ((first | refine onG_split_t (fun hg => ?_) (fun hg => ?_) | refine onG_split_f (fun hg => ?_) (fun hg => ?_)) <;> simp only [go_sem, lt_dec hlt, hd0, q1, v1, hg]) | (refine K_condA (fun hc => ?_) (fun hc => ?_) <;> try (exact absurd hc (by decide))) | (refine K_ret ?_; refine (hQ _ ⟨_, by (try simp only [go_sem, ↓reduceIte, Nat.reduceEqDiff]); rfl, by simp [go_sem], ?_, by first | rfl | assumption⟩).1))
    exact ⟨i + 1, ⟨by omega, by omega, hlast⟩, by omega, fun i => i, by refine ent_mk (by simp [go_sem]) (by simp [go_sem]) (by simp) (by simp [hN])⟩
  ·rw [if_neg hb] at hra
   have e := fin (by unfold isName; exact hra)
   obtain ⟨rfl, rfl, rfl⟩ : b1 = false ∧ b2 = false ∧ b3 = false := by cases b1 <;> cases b2 <;> cases b3 <;> simp_all
   rw [e] at hQ
   repeat' (first | apply nx | refine Kq_exit_ne (by decide) ?_ | rw [wrap64 (by omega) (by omega)] | ((first | refine hK _ ?_ | refine hKp _ _ ?_); clear hK hKp K Kp; try clear hanc anc) | ((with_reducible refine And.intro ?_ ?_); (focus (first | trivial | omega | (simp only [Fits]; omega) | assumption | (rw [hanc]; rfl)))) | ((first | refine K_regA hE fun K Kp hK hKp => ?_ | refine K_drwA true mixed hE fun K Kp hK hKp anc hanc => ?_ | refine K_drwA false mixed hE fun K Kp hK hKp anc hanc => ?_ | ((first | apply CallP_mk | apply CallB_mk); (focus (simp only [go_sem] <;> rfl)); (focus (first | exact lc | exact dc)); (focus (first | (simp [go_sem]; done) | (simp [go_sem, CloRow, AV.cells, AV.clo]; done))); (focus (first | exact .inl rfl | (right; simp [go_sem]))))); simp only [go_sem, lt_dec hlt, hd0, q1]) | ((first | refine onG_split_t (fun hg => ?_) (fun hg => ?_) | refine onG_split_f (fun hg => ?_) (fun hg => ?_)) <;> simp only [go_sem, lt_dec hlt, hd0, q1, hg]) | (refine K_condA (fun hc => ?_) (fun hc => ?_) <;> try (exact absurd hc (by decide))))
   refine K_ret (hQ _ ⟨.agg [.i 1, .str (tx ((l.take i).drop a)), .i 0, .i a], (by simp [resA, rvA, Tryd.f21, go_sem, updo]; rfl), (by simp [AV.snapOk, AV.snapOkL, go_sem, updo]), (by simp [AV.snap, AV.snapL, go_sem, updo]), (by first | rfl | simp [AV.clo, AV.cloL, go_sem, updo])⟩).1
 have hnl : rtk a (l.drop a) = if isDig c then ⟨2, (l.drop a).take (run isDig (l.drop a)), clipV ((l.drop a).take (run isDig (l.drop a))), a⟩ else match findS (l.drop a) with | some y => ⟨3, y, 0, a⟩ | none => ⟨0, [], 0, 0⟩ := by
  rw [hd, rtk, if_neg (by simp [h1])]
 rw [h1] at lc
 cases h2 : isDig c
 case true =>
  rw [h2] at dc
  rw [h2, if_pos rfl] at hnl
  have hrl := run_le isDig (l.drop a)
  rw [List.length_drop] at hrl
  rw [hnl, Tk.av_eq, ← take_add]
  have htr := take_run isDig (l.drop a)
  generalize hn : run isDig (l.drop a) = n at *
  refine PCall.intro Tryd.func21 rfl isf21 (by simp [Tryd.f21]) (by simp [AV.cloL, AV.clo]) fun E Q hE hN hQ => K_start ?_
  repeat' (first | apply nx | refine Kq_exit_ne (by decide) ?_ | rw [wrap64 (by omega) (by omega)] | ((first | refine hK _ ?_ | refine hKp _ _ ?_); clear hK hKp K Kp; try clear hanc anc) | ((with_reducible refine And.intro ?_ ?_); (focus (first | trivial | omega | (simp only [Fits]; omega) | assumption | (rw [hanc]; rfl)))) | ((first | refine K_regA hE fun K Kp hK hKp => ?_ | refine K_drwA false mixed hE fun K Kp hK hKp anc hanc => ?_ | ((first | apply CallP_mk | apply CallB_mk); (focus (simp only [go_sem] <;> rfl)); (focus (first | exact lc | exact dc)); (focus (first | (simp [go_sem]; done) | (simp [go_sem, CloRow, AV.cells, AV.clo]; done))); (focus (first | exact .inl rfl | (right; simp [go_sem]))))); simp only [go_sem, hc0]) | ((first | refine onG_split_t (fun hg => ?_) (fun hg => ?_) | refine onG_split_f (fun hg => ?_) (fun hg => ?_)) <;> simp only [go_sem, hc0, hg]) | (refine K_condA (fun hc => ?_) (fun hc => ?_) <;> try (exact absurd hc (by decide))) | (refine K_ret ?_; refine (hQ _ ⟨_, by (try simp only [go_sem, ↓reduceIte, Nat.reduceEqDiff]); rfl, by simp [go_sem], ?_, by first | rfl | assumption⟩).1))
  refine K_loop (X := Nat) (fun i => a ≤ i ∧ i ≤ l.length ∧ a + n = i + run isDig (l.drop i)) (fun i => mkSt [(0, .str (tx l)), (1, .i a), (4, .ptr 0 0), (5, .i i), (6, .i (clipV ((l.take i).drop a) : Nat))] [(0, .cells [.i 0, .str ⟨#[]⟩, .i 0, .i 0])] 1) (fun i => l.length - i) a ⟨Nat.le_refl _, by omega, by rw [hn]⟩ (fun i => i) (by refine ent_mk (by simp [go_sem, clipV]) (by simp [go_sem, clipV]) (by simp) (by simp [hN])) ?_
  rintro i ⟨hai, hi, ht⟩
  have fin : run isDig (l.drop i) = 0 → a + n = i := fun h => by rw [h] at ht; omega
  by_cases hlt : i < l.length
  case neg =>
   obtain rfl : i = l.length := by omega
   have e := fin (by simp [run])
   rw [e] at hQ
   repeat' (first | apply nx | refine Kq_exit_ne (by decide) ?_ | rw [wrap64 (by omega) (by omega)] | ((first | refine hK _ ?_ | refine hKp _ _ ?_); clear hK hKp K Kp; try clear hanc anc) | ((with_reducible refine And.intro ?_ ?_); (focus (first | trivial | omega | (simp only [Fits]; omega) | assumption | (rw [hanc]; rfl)))) | ((first | refine K_regA hE fun K Kp hK hKp => ?_ | refine K_drwA true mixed hE fun K Kp hK hKp anc hanc => ?_ | refine K_drwA false mixed hE fun K Kp hK hKp anc hanc => ?_); simp only [go_sem, ge_dec]) | ((first | refine onG_split_t (fun hg => ?_) (fun hg => ?_) | refine onG_split_f (fun hg => ?_) (fun hg => ?_)) <;> simp only [go_sem, ge_dec, hg]) | (refine K_condA (fun hc => ?_) (fun hc => ?_) <;> try (exact absurd hc (by decide))))
   refine K_ret (hQ _ ⟨.agg [.i 2, .str (tx ((l.take l.length).drop a)), .i (clipV ((l.take l.length).drop a) : Nat), .i a], (by simp [resA, rvA, Tryd.f21, go_sem, updo]; rfl), (by simp [AV.snapOk, AV.snapOkL, go_sem, updo]), (by simp [AV.snap, AV.snapL, go_sem, updo]), (by first | rfl | simp [AV.clo, AV.cloL, go_sem, updo])⟩).1
  obtain ⟨d, hd0⟩ := get?_of hlt
  have dc := digit_call d
  have hra := run_at (p := isDig) hd0
  have v1 : IntKind.i64.wrap ((i : Int) + 1) = ((i + 1 : Nat) : Int) := by rw [wrap64 (by omega) (by omega)]; omega
  cases hb : isDig d
  ·rw [hb, if_neg (by simp)] at hra
   rw [hb] at dc
   have e := fin hra
   rw [e] at hQ
   repeat' (first | apply nx | refine Kq_exit_ne (by decide) ?_ | rw [wrap64 (by omega) (by omega)] | ((first | refine hK _ ?_ | refine hKp _ _ ?_); clear hK hKp K Kp; try clear hanc anc) | ((with_reducible refine And.intro ?_ ?_); (focus (first | trivial | omega | (simp only [Fits]; omega) | assumption | (rw [hanc]; rfl)))) | ((first | refine K_regA hE fun K Kp hK hKp => ?_ | refine K_drwA true mixed hE fun K Kp hK hKp anc hanc => ?_ | refine K_drwA false mixed hE fun K Kp hK hKp anc hanc => ?_ | ((first | apply CallP_mk | apply CallB_mk); (focus (simp only [go_sem] <;> rfl)); (focus (exact dc)); (focus (first | (simp [go_sem]; done) | (simp [go_sem, CloRow, AV.cells, AV.clo]; done))); (focus (first | exact .inl rfl | (right; simp [go_sem]))))); simp only [go_sem, lt_dec hlt, hd0]) | ((first | refine onG_split_t (fun hg => ?_) (fun hg => ?_) | refine onG_split_f (fun hg => ?_) (fun hg => ?_)) <;> simp only [go_sem, lt_dec hlt, hd0, hg]) | (refine K_condA (fun hc => ?_) (fun hc => ?_) <;> try (exact absurd hc (by decide))))
   refine K_ret (hQ _ ⟨.agg [.i 2, .str (tx ((l.take i).drop a)), .i (clipV ((l.take i).drop a) : Nat), .i a], (by simp [resA, rvA, Tryd.f21, go_sem, updo]; rfl), (by simp [AV.snapOk, AV.snapOkL, go_sem, updo]), (by simp [AV.snap, AV.snapL, go_sem, updo]), (by first | rfl | simp [AV.clo, AV.cloL, go_sem, updo])⟩).1
  ·have hdd := hb
   simp only [isDig, Bool.and_eq_true, decide_eq_true_eq] at hdd
   rw [hb, if_pos rfl] at hra
   rw [hb] at dc
   have hlast : a + n = (i + 1) + run isDig (l.drop (i + 1)) := by rw [ht, hra]; omega
   have hcl := clipV_le ((l.take i).drop a)
   have hts : (l.take (i + 1)).drop a = (l.take i).drop a ++ [d] := by
    rw [List.take_add_one, hd0, List.drop_append_of_le_length (by rw [List.length_take]; omega)]; rfl
   have hcs := clipV_snoc ((l.take i).drop a) d
   rw [← hts] at hcs
   generalize clipV ((l.take i).drop a) = m at *
   have w1 : IntKind.i64.wrap (10 * (m : Int)) = 10 * (m : Int) := wrap64 (by omega) (by omega)
   have w2 : IntKind.u8.wrap ((d.toNat : Int) - 48) = (d.toNat : Int) - 48 := by rw [IntKind.wrap_u8]; omega
   have w3 : IntKind.i64.wrap ((d.toNat : Int) - 48) = (d.toNat : Int) - 48 := wrap64 (by omega) (by omega)
   have w4 : IntKind.i64.wrap (10 * (m : Int) + ((d.toNat : Int) - 48)) = 10 * (m : Int) + ((d.toNat : Int) - 48) := wrap64 (by omega) (by omega)
   have w5 : min (10 * (m : Int) + ((d.toNat : Int) - 48)) 10000000000 = ((clipV ((l.take (i + 1)).drop a) : Nat) : Int) := by rw [hcs]; omega
   repeat' (first | apply nx | refine Kq_exit_ne (by decide) ?_ | rw [wrap64 (by omega) (by omega)] | ((first | refine hK _ ?_ | refine hKp _ _ ?_); clear hK hKp K Kp; try clear hanc anc) | ((with_reducible refine And.intro ?_ ?_); (focus (first | trivial | omega | (simp only [Fits]; omega) | assumption | (rw [hanc]; rfl)))) | ((first | refine K_regA hE fun K Kp hK hKp => ?_ | refine K_drwA false mixed hE fun K Kp hK hKp anc hanc => ?_ | ((first | apply CallP_mk | apply CallB_mk); (focus (simp only [go_sem] <;> rfl)); (focus (exact dc)); (focus (first | (simp [go_sem]; done) | (simp [go_sem, CloRow, AV.cells, AV.clo]; done))); (focus (first | exact .inl rfl | (right; simp [go_sem]))))); simp only [go_sem, lt_dec hlt, hd0, v1, w1, w2, w3, w4, w5]) | ((first | refine onG_split_t (fun hg => ?_) (fun hg => ?_) | refine onG_split_f (fun hg => ?_) (fun hg => ?_)) <;> simp only [go_sem, lt_dec hlt, hd0, v1, w1, w2, w3, w4, w5, hg]) | (refine K_condA (fun hc => ?_) (fun hc => ?_) <;> try (exact absurd hc (by decide))) | (refine K_ret ?_; refine (hQ _ ⟨_, by (try simp only [go_sem, ↓reduceIte, Nat.reduceEqDiff]); rfl, by simp [go_sem], ?_, by first | rfl | assumption⟩).1))
   exact ⟨i + 1, ⟨by omega, by omega, hlast⟩, by omega, fun i => i, by refine ent_mk (by simp [go_sem]) (by simp [go_sem]) (by simp) (by simp [hN])⟩
 rw [h2] at dc
 rw [h2, if_neg (by simp)] at hnl
 have sc := syms_call
 rw [hnl]
 refine PCall.intro Tryd.func21 rfl isf21 (by simp [Tryd.f21]) (by simp [AV.cloL, AV.clo]) fun E Q hE hN hQ => K_start ?_
 repeat' (first | apply nx | refine Kq_exit_ne (by decide) ?_ | rw [wrap64 (by omega) (by omega)] | ((first | refine hK _ ?_ | refine hKp _ _ ?_); clear hK hKp K Kp; try clear hanc anc) | ((with_reducible refine And.intro ?_ ?_); (focus (first | trivial | omega | (simp only [Fits]; omega) | assumption | (rw [hanc]; rfl)))) | ((first | refine K_regA hE fun K Kp hK hKp => ?_ | refine K_drwA false mixed hE fun K Kp hK hKp anc hanc => ?_ | ((first | apply CallP_mk | apply CallB_mk); (focus (simp only [go_sem] <;> rfl)); (focus (first | exact lc | exact dc | exact sc)); (focus (first | (simp [go_sem]; done) | (simp [go_sem, CloRow, AV.cells, AV.clo]; done))); (focus (first | exact .inl rfl | (right; simp [go_sem]))))); simp only [go_sem, hc0]) | ((first | refine onG_split_t (fun hg => ?_) (fun hg => ?_) | refine onG_split_f (fun hg => ?_) (fun hg => ?_)) <;> simp only [go_sem, hc0, hg]) | (refine K_condA (fun hc => ?_) (fun hc => ?_) <;> try (exact absurd hc (by decide))) | (refine K_ret ?_; refine (hQ _ ⟨_, by (try simp only [go_sem, ↓reduceIte, Nat.reduceEqDiff]); rfl, by simp [go_sem], ?_, by first | rfl | assumption⟩).1))
 refine K_loop (X := Nat) (fun i => i ≤ syms.length ∧ findS (l.drop a) = (syms.drop i).find? fun y => decide ((l.drop a).take y.length = y)) (fun i => mkSt [(0, .str (tx l)), (1, .i a), (4, .ptr 0 0), (7, .sl (sl syms)), (8, .i i)] [(0, .cells [.i 0, .str ⟨#[]⟩, .i 0, .i 0])] 1) (fun i => syms.length - i) 0 ⟨Nat.zero_le _, rfl⟩ (fun i => i) (by refine ent_mk (by simp [go_sem]) (by simp [go_sem]) (by simp) (by simp [hN])) ?_
 rintro i ⟨hi, hf⟩
 by_cases hlt : i < syms.length
 case neg =>
  obtain rfl : i = syms.length := by omega
  rw [List.drop_length, List.find?_nil] at hf
  rw [hf] at hQ
  repeat' (first | apply nx | refine Kq_exit_ne (by decide) ?_ | rw [wrap64 (by omega) (by omega)] | ((first | refine hK _ ?_ | refine hKp _ _ ?_); clear hK hKp K Kp; try clear hanc anc) | ((with_reducible refine And.intro ?_ ?_); (focus (first | trivial | omega | (simp only [Fits]; omega) | assumption | (rw [hanc]; rfl)))) | ((first | refine K_regA hE fun K Kp hK hKp => ?_ | refine K_drwA true mixed hE fun K Kp hK hKp anc hanc => ?_ | refine K_drwA false mixed hE fun K Kp hK hKp anc hanc => ?_); simp only [go_sem, ge_dec]) | ((first | refine onG_split_t (fun hg => ?_) (fun hg => ?_) | refine onG_split_f (fun hg => ?_) (fun hg => ?_)) <;> simp only [go_sem, ge_dec, hg]) | (refine K_condA (fun hc => ?_) (fun hc => ?_) <;> try (exact absurd hc (by decide))))
  refine K_ret (hQ _ ⟨.agg [.i 0, .str ⟨#[]⟩, .i 0, .i 0], (by simp [resA, rvA, Tryd.f21, go_sem, updo]; rfl), (by simp [AV.snapOk, AV.snapOkL, go_sem, updo]), (by (simp [AV.snap, AV.snapL, Tk.av_eq, tx])), (by first | rfl | simp [AV.clo, AV.cloL, go_sem, updo])⟩).1
 obtain ⟨y, hy⟩ := get?_of hlt
 rw [drop_of hy, List.find?_cons] at hf
 have hyl : y.length ≤ 2 := by
  have : ∀ z, z ∈ syms → z.length ≤ 2 := by decide
  exact this y (List.mem_of_getElem? hy)
 have v0 : IntKind.i64.wrap ((a : Int) + (y.length : Int)) = ((a + y.length : Nat) : Int) := by rw [wrap64 (by omega) (by omega)]; omega
 have v1 : IntKind.i64.wrap ((i : Int) + 1) = ((i + 1 : Nat) : Int) := by
  have : syms.length = 21 := rfl
  rw [wrap64 (by omega) (by omega)]; omega
 by_cases hle : a + y.length ≤ l.length
 ·have q1 : decide (((a + y.length : Nat) : Int) ≤ (l.length : Int)) = true := decide_eq_true (by omega)
  by_cases he : (l.drop a).take y.length = y
  ·rw [decide_eq_true he] at hf
   simp only at hf
   have q2 : decide ((l.drop a).take y.length = y) = true := decide_eq_true he
   rw [hf] at hQ
   repeat' (first | apply nx | refine Kq_exit_ne (by decide) ?_ | rw [wrap64 (by omega) (by omega)] | ((first | refine hK _ ?_ | refine hKp _ _ ?_); clear hK hKp K Kp; try clear hanc anc) | ((with_reducible refine And.intro ?_ ?_); (focus (first | trivial | omega | (simp only [Fits]; omega) | assumption | (rw [hanc]; rfl)))) | ((first | refine K_regA hE fun K Kp hK hKp => ?_ | refine K_drwA true mixed hE fun K Kp hK hKp anc hanc => ?_ | refine K_drwA false mixed hE fun K Kp hK hKp anc hanc => ?_); simp only [go_sem, lt_dec hlt, hy, v0, q1, take_add, q2]) | ((first | refine onG_split_t (fun hg => ?_) (fun hg => ?_) | refine onG_split_f (fun hg => ?_) (fun hg => ?_)) <;> simp only [go_sem, lt_dec hlt, hy, v0, q1, take_add, q2, hg]) | (refine K_condA (fun hc => ?_) (fun hc => ?_) <;> try (exact absurd hc (by decide))))
   refine K_ret (hQ _ ⟨.agg [.i 3, .str (tx y), .i 0, .i a], (by simp [resA, rvA, Tryd.f21, go_sem, updo]; rfl), (by simp [AV.snapOk, AV.snapOkL, go_sem, updo]), (by (simp [AV.snap, AV.snapL, Tk.av_eq])), (by first | rfl | simp [AV.clo, AV.cloL, go_sem, updo])⟩).1
  ·rw [decide_eq_false he] at hf
   simp only at hf
   have q2 : decide ((l.drop a).take y.length = y) = false := decide_eq_false he
   repeat' (first | apply nx | refine Kq_exit_ne (by decide) ?_ | rw [wrap64 (by omega) (by omega)] | ((first | refine hK _ ?_ | refine hKp _ _ ?_); clear hK hKp K Kp; try clear hanc anc) | ((with_reducible refine And.intro ?_ ?_); (focus (first | trivial | omega | (simp only [Fits]; omega) | assumption | (rw [hanc]; rfl)))) | ((first | refine K_regA hE fun K Kp hK hKp => ?_ | refine K_drwA true mixed hE fun K Kp hK hKp anc hanc => ?_ | refine K_drwA false mixed hE fun K Kp hK hKp anc hanc => ?_); simp only [go_sem, lt_dec hlt, hy, v0, v1, q1, take_add, q2]) | ((first | refine onG_split_t (fun hg => ?_) (fun hg => ?_) | refine onG_split_f (fun hg => ?_) (fun hg => ?_)) <;> simp only [go_sem, lt_dec hlt, hy, v0, v1, q1, take_add, q2, hg]) | (refine K_condA (fun hc => ?_) (fun hc => ?_) <;> try (exact absurd hc (by decide))))
   exact ⟨i + 1, ⟨by omega, hf⟩, by omega, fun i => i, by refine ent_mk (by simp [go_sem]) (by simp [go_sem]) (by simp) (by simp [hN])⟩
 ·have q1 : decide (((a + y.length : Nat) : Int) ≤ (l.length : Int)) = false := decide_eq_false (by omega)
  have he : ¬ (l.drop a).take y.length = y := fun e => by
   have := congrArg List.length e
   rw [List.length_take, List.length_drop] at this
   omega
  rw [decide_eq_false he] at hf
  simp only at hf
  repeat' (first | apply nx | refine Kq_exit_ne (by decide) ?_ | rw [wrap64 (by omega) (by omega)] | ((first | refine hK _ ?_ | refine hKp _ _ ?_); clear hK hKp K Kp; try clear hanc anc) | ((with_reducible refine And.intro ?_ ?_); (focus (first | trivial | omega | (simp only [Fits]; omega) | assumption | (rw [hanc]; rfl)))) | ((first | refine K_regA hE fun K Kp hK hKp => ?_ | refine K_drwA true mixed hE fun K Kp hK hKp anc hanc => ?_ | refine K_drwA false mixed hE fun K Kp hK hKp anc hanc => ?_); simp only [go_sem, lt_dec hlt, hy, v0, v1, q1]) | ((first | refine onG_split_t (fun hg => ?_) (fun hg => ?_) | refine onG_split_f (fun hg => ?_) (fun hg => ?_)) <;> simp only [go_sem, lt_dec hlt, hy, v0, v1, q1, hg]) | (refine K_condA (fun hc => ?_) (fun hc => ?_) <;> try (exact absurd hc (by decide))))
  exact ⟨i + 1, ⟨by omega, hf⟩, by omega, fun i => i, by refine ent_mk (by simp [go_sem]) (by simp [go_sem]) (by simp) (by simp [hN])⟩
end Go.Proofs.YtihfjibkmhclfaaDoor
