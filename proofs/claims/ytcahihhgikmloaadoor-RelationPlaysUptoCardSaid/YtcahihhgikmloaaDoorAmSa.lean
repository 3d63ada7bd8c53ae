/- Part of the proof: abstract values over the given model of Go (Ti, A1, A2, A3, A4, A5, T12, T13). Conditions: none of its own; see the statement in the seat's Rows text. -/
import Derived.Test.YtcahihhgikmloaaDoorAmFour
import Derived.Test.YtcahihhgikmloaaDoorRows
import Derived.Lib.LaidTab
import Derived.Lib.AppendIntMem
import Derived.Shelf.Strconv.Itoa4
set_option linter.unusedSimpArgs false
set_option linter.unusedVariables false
set_option linter.unusedSectionVars false
namespace Go.Am
open Go.Proofs
theorem ti0 : tiOf Tryd.prog 0 = some ({ size := 1, bytes := 0, agg := false, zero := [.tuple #[]], desc := .tuple #[], held := false, guarded := false } : TI) := by kernel_rfl
theorem ti1 : tiOf Tryd.prog 1 = some ({ size := 1, bytes := 8, agg := false, zero := [.nilFunc], desc := .func #[] #[] false, held := false, guarded := false } : TI) := by kernel_rfl
theorem ti2 : tiOf Tryd.prog 2 = some ({ size := 1, bytes := 8, agg := false, zero := [.int .i64 0], desc := .int .i64, held := false, guarded := false } : TI) := by kernel_rfl
theorem ti3 : tiOf Tryd.prog 3 = some ({ size := 1, bytes := 8, agg := false, zero := [.int .i64 0], desc := .int .i64, held := false, guarded := false } : TI) := by kernel_rfl
theorem ti4 : tiOf Tryd.prog 4 = some ({ size := 1, bytes := 1, agg := false, zero := [.bool false], desc := .bool, held := false, guarded := false } : TI) := by kernel_rfl
theorem ti5 : tiOf Tryd.prog 5 = some ({ size := 1, bytes := 1, agg := false, zero := [.int .u8 0], desc := .int .u8, held := false, guarded := false } : TI) := by kernel_rfl
theorem ti6 : tiOf Tryd.prog 6 = some ({ size := 1, bytes := 1, agg := false, zero := [.int .u8 0], desc := .int .u8, held := false, guarded := false } : TI) := by kernel_rfl
theorem ti7 : tiOf Tryd.prog 7 = some ({ size := 4, bytes := 24, agg := true, zero := [.int .i64 0, .int .i64 0, .bool false, .int .u8 0], desc := .struct #[{ name := "x", type := 2, offset := 0, embedded := false, tag := "", pkgPath := "runtime", byteOffset := 0 }, { name := "y", type := 3, offset := 1, embedded := false, tag := "", pkgPath := "runtime", byteOffset := 8 }, { name := "signed", type := 4, offset := 2, embedded := false, tag := "", pkgPath := "runtime", byteOffset := 16 }, { name := "code", type := 6, offset := 3, embedded := false, tag := "", pkgPath := "runtime", byteOffset := 17 }], held := false, guarded := false } : TI) := by kernel_rfl
theorem ti8 : tiOf Tryd.prog 8 = some ({ size := 4, bytes := 24, agg := true, zero := [.int .i64 0, .int .i64 0, .bool false, .int .u8 0], desc := .struct #[{ name := "x", type := 2, offset := 0, embedded := false, tag := "", pkgPath := "runtime", byteOffset := 0 }, { name := "y", type := 3, offset := 1, embedded := false, tag := "", pkgPath := "runtime", byteOffset := 8 }, { name := "signed", type := 4, offset := 2, embedded := false, tag := "", pkgPath := "runtime", byteOffset := 16 }, { name := "code", type := 6, offset := 3, embedded := false, tag := "", pkgPath := "runtime", byteOffset := 17 }], held := false, guarded := false } : TI) := by kernel_rfl
theorem ti9 : tiOf Tryd.prog 9 = some ({ size := 1, bytes := 16, agg := false, zero := [.string { data := #[] }], desc := .string, held := false, guarded := false } : TI) := by kernel_rfl
theorem ti10 : tiOf Tryd.prog 10 = some ({ size := 1, bytes := 16, agg := false, zero := [.string { data := #[] }], desc := .string, held := false, guarded := false } : TI) := by kernel_rfl
theorem ti11 : tiOf Tryd.prog 11 = some ({ size := 1, bytes := 16, agg := false, zero := [.string { data := #[] }], desc := .string, held := false, guarded := false } : TI) := by kernel_rfl
theorem ti12 : tiOf Tryd.prog 12 = some ({ size := 1, bytes := 8, agg := false, zero := [.int .u64 0], desc := .int .u64, held := false, guarded := false } : TI) := by kernel_rfl
theorem ti13 : tiOf Tryd.prog 13 = some ({ size := 2, bytes := 24, agg := true, zero := [.string { data := #[] }, .int .u64 0], desc := .struct #[{ name := "msg", type := 9, offset := 0, embedded := false, tag := "", pkgPath := "runtime", byteOffset := 0 }, { name := "addr", type := 12, offset := 1, embedded := false, tag := "", pkgPath := "runtime", byteOffset := 16 }], held := true, guarded := false } : TI) := by kernel_rfl
theorem ti14 : tiOf Tryd.prog 14 = some ({ size := 2, bytes := 24, agg := true, zero := [.string { data := #[] }, .int .u64 0], desc := .struct #[{ name := "msg", type := 9, offset := 0, embedded := false, tag := "", pkgPath := "runtime", byteOffset := 0 }, { name := "addr", type := 12, offset := 1, embedded := false, tag := "", pkgPath := "runtime", byteOffset := 16 }], held := true, guarded := false } : TI) := by kernel_rfl
theorem ti15 : tiOf Tryd.prog 15 = some ({ size := 1, bytes := 8, agg := false, zero := [.pointer none], desc := .pointer 138, held := false, guarded := false } : TI) := by kernel_rfl
theorem ti16 : tiOf Tryd.prog 16 = some ({ size := 1, bytes := 8, agg := false, zero := [.pointer none], desc := .pointer 141, held := false, guarded := false } : TI) := by kernel_rfl
theorem ti17 : tiOf Tryd.prog 17 = some ({ size := 1, bytes := 8, agg := false, zero := [.pointer none], desc := .pointer 148, held := false, guarded := false } : TI) := by kernel_rfl
theorem ti18 : tiOf Tryd.prog 18 = some ({ size := 1, bytes := 8, agg := true, zero := [.pointer none], desc := .struct #[{ name := "typ", type := 17, offset := 0, embedded := false, tag := "", pkgPath := "internal/runtime/maps", byteOffset := 0 }], held := true, guarded := false } : TI) := by kernel_rfl
theorem ti19 : tiOf Tryd.prog 19 = some ({ size := 1, bytes := 8, agg := true, zero := [.pointer none], desc := .struct #[{ name := "typ", type := 17, offset := 0, embedded := false, tag := "", pkgPath := "internal/runtime/maps", byteOffset := 0 }], held := true, guarded := false } : TI) := by kernel_rfl
theorem ti20 : tiOf Tryd.prog 20 = some ({ size := 1, bytes := 16, agg := false, zero := [.nilIface], desc := .interface #[], held := false, guarded := false } : TI) := by kernel_rfl
theorem ti21 : tiOf Tryd.prog 21 = some ({ size := 1, bytes := 4, agg := false, zero := [.int .i32 0], desc := .int .i32, held := false, guarded := false } : TI) := by kernel_rfl
theorem ti22 : tiOf Tryd.prog 22 = some ({ size := 1, bytes := 24, agg := false, zero := [.slice none 0 0], desc := .slice 26, held := false, guarded := false } : TI) := by kernel_rfl
theorem ti23 : tiOf Tryd.prog 23 = some ({ size := 1, bytes := 8, agg := false, zero := [.nilFunc], desc := .func #[] #[4] false, held := false, guarded := false } : TI) := by kernel_rfl
theorem ti24 : tiOf Tryd.prog 24 = some ({ size := 3, bytes := 32, agg := true, zero := [.bool false, .string { data := #[] }, .int .i64 0], desc := .struct #[{ name := "IsSym", type := 4, offset := 0, embedded := false, tag := "", pkgPath := "", byteOffset := 0 }, { name := "Sym", type := 9, offset := 1, embedded := false, tag := "", pkgPath := "", byteOffset := 8 }, { name := "N", type := 2, offset := 2, embedded := false, tag := "", pkgPath := "", byteOffset := 24 }], held := false, guarded := false } : TI) := by kernel_rfl
theorem ti25 : tiOf Tryd.prog 25 = some ({ size := 3, bytes := 32, agg := true, zero := [.bool false, .string { data := #[] }, .int .i64 0], desc := .struct #[{ name := "IsSym", type := 4, offset := 0, embedded := false, tag := "", pkgPath := "", byteOffset := 0 }, { name := "Sym", type := 9, offset := 1, embedded := false, tag := "", pkgPath := "", byteOffset := 8 }, { name := "N", type := 2, offset := 2, embedded := false, tag := "", pkgPath := "", byteOffset := 24 }], held := false, guarded := false } : TI) := by kernel_rfl
theorem ti26 : tiOf Tryd.prog 26 = some ({ size := 6, bytes := 64, agg := true, zero := [.bool false, .string { data := #[] }, .int .i64 0, .bool false, .string { data := #[] }, .int .i64 0], desc := .array 2 25, held := false, guarded := false } : TI) := by kernel_rfl
theorem ti27 : tiOf Tryd.prog 27 = some ({ size := 1, bytes := 8, agg := false, zero := [.pointer none], desc := .pointer 70, held := false, guarded := false } : TI) := by kernel_rfl
theorem ti28 : tiOf Tryd.prog 28 = some ({ size := 1, bytes := 8, agg := false, zero := [.nilFunc], desc := .func #[22] #[27] false, held := false, guarded := false } : TI) := by kernel_rfl
theorem ti29 : tiOf Tryd.prog 29 = some ({ size := 1, bytes := 8, agg := false, zero := [.nilFunc], desc := .func #[3] #[27] false, held := false, guarded := false } : TI) := by kernel_rfl
theorem ti30 : tiOf Tryd.prog 30 = some ({ size := 1, bytes := 8, agg := false, zero := [.int .i64 0], desc := .int .i64, held := false, guarded := false } : TI) := by kernel_rfl
theorem ti31 : tiOf Tryd.prog 31 = some ({ size := 1, bytes := 0, agg := false, zero := [.tuple #[.bool false, .int .i64 0]], desc := .tuple #[4, 30], held := false, guarded := false } : TI) := by kernel_rfl
theorem ti32 : tiOf Tryd.prog 32 = some ({ size := 1, bytes := 8, agg := false, zero := [.nilFunc], desc := .func #[33] #[4, 30] false, held := false, guarded := false } : TI) := by kernel_rfl
theorem ti33 : tiOf Tryd.prog 33 = some ({ size := 1, bytes := 24, agg := false, zero := [.slice none 0 0], desc := .slice 25, held := false, guarded := false } : TI) := by kernel_rfl
theorem ti34 : tiOf Tryd.prog 34 = some ({ size := 1, bytes := 8, agg := false, zero := [.nilFunc], desc := .func #[] #[3] false, held := false, guarded := false } : TI) := by kernel_rfl
theorem ti35 : tiOf Tryd.prog 35 = some ({ size := 1, bytes := 8, agg := false, zero := [.nilFunc], desc := .func #[36, 36] #[4] false, held := false, guarded := false } : TI) := by kernel_rfl
theorem ti36 : tiOf Tryd.prog 36 = some ({ size := 1, bytes := 24, agg := false, zero := [.slice none 0 0], desc := .slice 33, held := false, guarded := false } : TI) := by kernel_rfl
theorem ti37 : tiOf Tryd.prog 37 = some ({ size := 1, bytes := 8, agg := false, zero := [.nilFunc], desc := .func #[] #[36] false, held := false, guarded := false } : TI) := by kernel_rfl
theorem ti38 : tiOf Tryd.prog 38 = some ({ size := 1, bytes := 8, agg := false, zero := [.nilFunc], desc := .func #[22] #[4] false, held := false, guarded := false } : TI) := by kernel_rfl
theorem ti39 : tiOf Tryd.prog 39 = some ({ size := 1, bytes := 8, agg := false, zero := [.nilFunc], desc := .func #[33, 33] #[3] false, held := false, guarded := false } : TI) := by kernel_rfl
theorem ti40 : tiOf Tryd.prog 40 = some ({ size := 1, bytes := 8, agg := false, zero := [.nilFunc], desc := .func #[33] #[4] false, held := false, guarded := false } : TI) := by kernel_rfl
theorem ti41 : tiOf Tryd.prog 41 = some ({ size := 1, bytes := 8, agg := false, zero := [.nilFunc], desc := .func #[22, 25, 25] #[4] false, held := false, guarded := false } : TI) := by kernel_rfl
theorem ti42 : tiOf Tryd.prog 42 = some ({ size := 1, bytes := 0, agg := false, zero := [.tuple #[.slice none 0 0, .int .i64 0]], desc := .tuple #[36, 30], held := false, guarded := false } : TI) := by kernel_rfl
theorem ti43 : tiOf Tryd.prog 43 = some ({ size := 1, bytes := 8, agg := false, zero := [.nilFunc], desc := .func #[44, 33, 4] #[36, 30] false, held := false, guarded := false } : TI) := by kernel_rfl
theorem ti44 : tiOf Tryd.prog 44 = some ({ size := 1, bytes := 24, agg := false, zero := [.slice none 0 0], desc := .slice 3, held := false, guarded := false } : TI) := by kernel_rfl
theorem ti45 : tiOf Tryd.prog 45 = some ({ size := 1, bytes := 8, agg := false, zero := [.nilFunc], desc := .func #[33, 33] #[4] false, held := false, guarded := false } : TI) := by kernel_rfl
theorem ti46 : tiOf Tryd.prog 46 = some ({ size := 1, bytes := 8, agg := false, zero := [.nilFunc], desc := .func #[22, 25, 4] #[4] false, held := false, guarded := false } : TI) := by kernel_rfl
theorem ti47 : tiOf Tryd.prog 47 = some ({ size := 1, bytes := 24, agg := false, zero := [.slice none 0 0], desc := .slice 52, held := false, guarded := false } : TI) := by kernel_rfl
theorem ti48 : tiOf Tryd.prog 48 = some ({ size := 1, bytes := 8, agg := false, zero := [.nilFunc], desc := .func #[47] #[47] false, held := false, guarded := false } : TI) := by kernel_rfl
theorem ti49 : tiOf Tryd.prog 49 = some ({ size := 4, bytes := 80, agg := true, zero := [.int .i64 0, .slice none 0 0, .slice none 0 0, .slice none 0 0], desc := .struct #[{ name := "Arity", type := 3, offset := 0, embedded := false, tag := "", pkgPath := "", byteOffset := 0 }, { name := "New", type := 36, offset := 1, embedded := false, tag := "", pkgPath := "", byteOffset := 8 }, { name := "Delta", type := 36, offset := 2, embedded := false, tag := "", pkgPath := "", byteOffset := 32 }, { name := "Full", type := 36, offset := 3, embedded := false, tag := "", pkgPath := "", byteOffset := 56 }], held := false, guarded := false } : TI) := by kernel_rfl
theorem ti50 : tiOf Tryd.prog 50 = some ({ size := 4, bytes := 80, agg := true, zero := [.int .i64 0, .slice none 0 0, .slice none 0 0, .slice none 0 0], desc := .struct #[{ name := "Arity", type := 3, offset := 0, embedded := false, tag := "", pkgPath := "", byteOffset := 0 }, { name := "New", type := 36, offset := 1, embedded := false, tag := "", pkgPath := "", byteOffset := 8 }, { name := "Delta", type := 36, offset := 2, embedded := false, tag := "", pkgPath := "", byteOffset := 32 }, { name := "Full", type := 36, offset := 3, embedded := false, tag := "", pkgPath := "", byteOffset := 56 }], held := false, guarded := false } : TI) := by kernel_rfl
theorem ti51 : tiOf Tryd.prog 51 = some ({ size := 4, bytes := 64, agg := true, zero := [.int .i64 0, .slice none 0 0, .slice none 0 0, .bool false], desc := .struct #[{ name := "Kind", type := 3, offset := 0, embedded := false, tag := "", pkgPath := "", byteOffset := 0 }, { name := "T", type := 33, offset := 1, embedded := false, tag := "", pkgPath := "", byteOffset := 8 }, { name := "Cols", type := 44, offset := 2, embedded := false, tag := "", pkgPath := "", byteOffset := 32 }, { name := "Only", type := 4, offset := 3, embedded := false, tag := "", pkgPath := "", byteOffset := 56 }], held := false, guarded := false } : TI) := by kernel_rfl
theorem ti52 : tiOf Tryd.prog 52 = some ({ size := 4, bytes := 64, agg := true, zero := [.int .i64 0, .slice none 0 0, .slice none 0 0, .bool false], desc := .struct #[{ name := "Kind", type := 3, offset := 0, embedded := false, tag := "", pkgPath := "", byteOffset := 0 }, { name := "T", type := 33, offset := 1, embedded := false, tag := "", pkgPath := "", byteOffset := 8 }, { name := "Cols", type := 44, offset := 2, embedded := false, tag := "", pkgPath := "", byteOffset := 32 }, { name := "Only", type := 4, offset := 3, embedded := false, tag := "", pkgPath := "", byteOffset := 56 }], held := false, guarded := false } : TI) := by kernel_rfl
theorem ti53 : tiOf Tryd.prog 53 = some ({ size := 1, bytes := 0, agg := false, zero := [.tuple { toList := [.agg #[.int .i64 0, .slice none 0 0, .slice none 0 0, .slice none 0 0], .bool false, .int .i64 0] }], desc := .tuple #[50, 4, 3], held := false, guarded := false } : TI) := by kernel_rfl
theorem ti54 : tiOf Tryd.prog 54 = some ({ size := 1, bytes := 8, agg := false, zero := [.nilFunc], desc := .func #[50, 33] #[50, 4, 3] false, held := false, guarded := false } : TI) := by kernel_rfl
theorem ti55 : tiOf Tryd.prog 55 = some ({ size := 1, bytes := 0, agg := false, zero := [.tuple { toList := [.agg #[.int .i64 0, .slice none 0 0, .slice none 0 0, .slice none 0 0], .bool false] }], desc := .tuple #[50, 4], held := false, guarded := false } : TI) := by kernel_rfl
theorem ti56 : tiOf Tryd.prog 56 = some ({ size := 1, bytes := 8, agg := false, zero := [.nilFunc], desc := .func #[50] #[50, 4] false, held := false, guarded := false } : TI) := by kernel_rfl
theorem ti57 : tiOf Tryd.prog 57 = some ({ size := 1, bytes := 0, agg := false, zero := [.tuple #[.slice none 0 0, .int .i64 0]], desc := .tuple #[36, 3], held := false, guarded := false } : TI) := by kernel_rfl
theorem ti58 : tiOf Tryd.prog 58 = some ({ size := 1, bytes := 8, agg := false, zero := [.nilFunc], desc := .func #[50, 44, 33, 4] #[36, 3] false, held := false, guarded := false } : TI) := by kernel_rfl
theorem ti59 : tiOf Tryd.prog 59 = some ({ size := 1, bytes := 8, agg := false, zero := [.nilFunc], desc := .func #[50, 33] #[4] false, held := false, guarded := false } : TI) := by kernel_rfl
theorem ti60 : tiOf Tryd.prog 60 = some ({ size := 1, bytes := 8, agg := false, zero := [.nilFunc], desc := .func #[50] #[36] false, held := false, guarded := false } : TI) := by kernel_rfl
theorem ti61 : tiOf Tryd.prog 61 = some ({ size := 1, bytes := 8, agg := false, zero := [.nilFunc], desc := .func #[36] #[36] false, held := false, guarded := false } : TI) := by kernel_rfl
theorem ti62 : tiOf Tryd.prog 62 = some ({ size := 1, bytes := 8, agg := false, zero := [.nilFunc], desc := .func #[5, 47] #[4] false, held := false, guarded := false } : TI) := by kernel_rfl
theorem ti63 : tiOf Tryd.prog 63 = some ({ size := 1, bytes := 8, agg := false, zero := [.nilFunc], desc := .func #[22, 22] #[4] false, held := false, guarded := false } : TI) := by kernel_rfl
theorem ti64 : tiOf Tryd.prog 64 = some ({ size := 1, bytes := 8, agg := false, zero := [.nilFunc], desc := .func #[3, 33] #[4] false, held := false, guarded := false } : TI) := by kernel_rfl
theorem ti65 : tiOf Tryd.prog 65 = some ({ size := 1, bytes := 8, agg := false, zero := [.pointer none], desc := .pointer 89, held := false, guarded := false } : TI) := by kernel_rfl
theorem ti66 : tiOf Tryd.prog 66 = some ({ size := 1, bytes := 8, agg := false, zero := [.nilFunc], desc := .func #[] #[65] false, held := false, guarded := false } : TI) := by kernel_rfl
theorem ti67 : tiOf Tryd.prog 67 = some ({ size := 1, bytes := 8, agg := false, zero := [.map none], desc := .map 9 3, held := false, guarded := false } : TI) := by kernel_rfl
theorem ti68 : tiOf Tryd.prog 68 = some ({ size := 1, bytes := 24, agg := false, zero := [.slice none 0 0], desc := .slice 75, held := false, guarded := false } : TI) := by kernel_rfl
theorem ti69 : tiOf Tryd.prog 69 = some ({ size := 4, bytes := 48, agg := true, zero := [.pointer none, .int .i64 0, .slice none 0 0, .map none], desc := .struct #[{ name := "Table", type := 65, offset := 0, embedded := true, tag := "", pkgPath := "", byteOffset := 0 }, { name := "arity", type := 3, offset := 1, embedded := false, tag := "", pkgPath := "lambrequin/relation", byteOffset := 8 }, { name := "rows", type := 68, offset := 2, embedded := false, tag := "", pkgPath := "lambrequin/relation", byteOffset := 16 }, { name := "at", type := 67, offset := 3, embedded := false, tag := "", pkgPath := "lambrequin/relation", byteOffset := 40 }], held := false, guarded := false } : TI) := by kernel_rfl
theorem ti70 : tiOf Tryd.prog 70 = some ({ size := 4, bytes := 48, agg := true, zero := [.pointer none, .int .i64 0, .slice none 0 0, .map none], desc := .struct #[{ name := "Table", type := 65, offset := 0, embedded := true, tag := "", pkgPath := "", byteOffset := 0 }, { name := "arity", type := 3, offset := 1, embedded := false, tag := "", pkgPath := "lambrequin/relation", byteOffset := 8 }, { name := "rows", type := 68, offset := 2, embedded := false, tag := "", pkgPath := "lambrequin/relation", byteOffset := 16 }, { name := "at", type := 67, offset := 3, embedded := false, tag := "", pkgPath := "lambrequin/relation", byteOffset := 40 }], held := false, guarded := false } : TI) := by kernel_rfl
theorem ti71 : tiOf Tryd.prog 71 = some ({ size := 1, bytes := 8, agg := false, zero := [.nilFunc], desc := .func #[25] #[3] false, held := false, guarded := false } : TI) := by kernel_rfl
theorem ti72 : tiOf Tryd.prog 72 = some ({ size := 1, bytes := 8, agg := false, zero := [.nilFunc], desc := .func #[44] #[9] false, held := false, guarded := false } : TI) := by kernel_rfl
theorem ti73 : tiOf Tryd.prog 73 = some ({ size := 1, bytes := 8, agg := false, zero := [.nilFunc], desc := .func #[33] #[33] true, held := false, guarded := false } : TI) := by kernel_rfl
theorem ti74 : tiOf Tryd.prog 74 = some ({ size := 3, bytes := 56, agg := true, zero := [.slice none 0 0, .slice none 0 0, .int .i64 0], desc := .struct #[{ name := "values", type := 33, offset := 0, embedded := false, tag := "", pkgPath := "lambrequin/relation", byteOffset := 0 }, { name := "nums", type := 44, offset := 1, embedded := false, tag := "", pkgPath := "lambrequin/relation", byteOffset := 24 }, { name := "age", type := 3, offset := 2, embedded := false, tag := "", pkgPath := "lambrequin/relation", byteOffset := 48 }], held := false, guarded := false } : TI) := by kernel_rfl
theorem ti75 : tiOf Tryd.prog 75 = some ({ size := 3, bytes := 56, agg := true, zero := [.slice none 0 0, .slice none 0 0, .int .i64 0], desc := .struct #[{ name := "values", type := 33, offset := 0, embedded := false, tag := "", pkgPath := "lambrequin/relation", byteOffset := 0 }, { name := "nums", type := 44, offset := 1, embedded := false, tag := "", pkgPath := "lambrequin/relation", byteOffset := 24 }, { name := "age", type := 3, offset := 2, embedded := false, tag := "", pkgPath := "lambrequin/relation", byteOffset := 48 }], held := false, guarded := false } : TI) := by kernel_rfl
theorem ti76 : tiOf Tryd.prog 76 = some ({ size := 1, bytes := 8, agg := false, zero := [.nilFunc], desc := .func #[77] #[36] false, held := false, guarded := false } : TI) := by kernel_rfl
theorem ti77 : tiOf Tryd.prog 77 = some ({ size := 1, bytes := 8, agg := false, zero := [.nilFunc], desc := .func #[75] #[4] false, held := false, guarded := false } : TI) := by kernel_rfl
theorem ti78 : tiOf Tryd.prog 78 = some ({ size := 1, bytes := 8, agg := false, zero := [.nilFunc], desc := .func #[25, 25] #[4] false, held := false, guarded := false } : TI) := by kernel_rfl
theorem ti79 : tiOf Tryd.prog 79 = some ({ size := 1, bytes := 8, agg := false, zero := [.nilFunc], desc := .func #[25, 25] #[3] false, held := false, guarded := false } : TI) := by kernel_rfl
theorem ti80 : tiOf Tryd.prog 80 = some ({ size := 1, bytes := 0, agg := false, zero := [.tuple #[.slice none 0 0, .bool false]], desc := .tuple #[44, 4], held := false, guarded := false } : TI) := by kernel_rfl
theorem ti81 : tiOf Tryd.prog 81 = some ({ size := 1, bytes := 8, agg := false, zero := [.nilFunc], desc := .func #[33] #[44, 4] false, held := false, guarded := false } : TI) := by kernel_rfl
theorem ti82 : tiOf Tryd.prog 82 = some ({ size := 1, bytes := 0, agg := false, zero := [.tuple #[.int .i64 0, .bool false]], desc := .tuple #[3, 4], held := false, guarded := false } : TI) := by kernel_rfl
theorem ti83 : tiOf Tryd.prog 83 = some ({ size := 1, bytes := 8, agg := false, zero := [.nilFunc], desc := .func #[33] #[33] false, held := false, guarded := false } : TI) := by kernel_rfl
theorem ti84 : tiOf Tryd.prog 84 = some ({ size := 1, bytes := 8, agg := false, zero := [.nilFunc], desc := .func #[36, 33] #[4] false, held := false, guarded := false } : TI) := by kernel_rfl
theorem ti85 : tiOf Tryd.prog 85 = some ({ size := 1, bytes := 8, agg := false, zero := [.map none], desc := .map 25 3, held := false, guarded := false } : TI) := by kernel_rfl
theorem ti86 : tiOf Tryd.prog 86 = some ({ size := 1, bytes := 8, agg := true, zero := [.map none], desc := .struct #[{ name := "numbers", type := 85, offset := 0, embedded := false, tag := "", pkgPath := "lambrequin/symtab", byteOffset := 0 }], held := false, guarded := false } : TI) := by kernel_rfl
theorem ti87 : tiOf Tryd.prog 87 = some ({ size := 1, bytes := 8, agg := true, zero := [.map none], desc := .struct #[{ name := "numbers", type := 85, offset := 0, embedded := false, tag := "", pkgPath := "lambrequin/symtab", byteOffset := 0 }], held := false, guarded := false } : TI) := by kernel_rfl
theorem ti88 : tiOf Tryd.prog 88 = some ({ size := 2, bytes := 32, agg := true, zero := [.map none, .slice none 0 0], desc := .struct #[{ name := "finder", type := 87, offset := 0, embedded := true, tag := "", pkgPath := "lambrequin/symtab", byteOffset := 0 }, { name := "values", type := 33, offset := 1, embedded := false, tag := "", pkgPath := "lambrequin/symtab", byteOffset := 8 }], held := false, guarded := false } : TI) := by kernel_rfl
theorem ti89 : tiOf Tryd.prog 89 = some ({ size := 2, bytes := 32, agg := true, zero := [.map none, .slice none 0 0], desc := .struct #[{ name := "finder", type := 87, offset := 0, embedded := true, tag := "", pkgPath := "lambrequin/symtab", byteOffset := 0 }, { name := "values", type := 33, offset := 1, embedded := false, tag := "", pkgPath := "lambrequin/symtab", byteOffset := 8 }], held := false, guarded := false } : TI) := by kernel_rfl
theorem ti90 : tiOf Tryd.prog 90 = some ({ size := 1, bytes := 8, agg := false, zero := [.nilFunc], desc := .func #[25] #[3, 4] false, held := false, guarded := false } : TI) := by kernel_rfl
theorem ti91 : tiOf Tryd.prog 91 = some ({ size := 1, bytes := 8, agg := false, zero := [.nilFunc], desc := .func #[25, 3] #[] false, held := false, guarded := false } : TI) := by kernel_rfl
theorem ti92 : tiOf Tryd.prog 92 = some ({ size := 1, bytes := 8, agg := false, zero := [.nilFunc], desc := .func #[25] #[25] false, held := false, guarded := false } : TI) := by kernel_rfl
theorem ti93 : tiOf Tryd.prog 93 = some ({ size := 1, bytes := 8, agg := false, zero := [.pointer none], desc := .pointer 96, held := false, guarded := false } : TI) := by kernel_rfl
theorem ti94 : tiOf Tryd.prog 94 = some ({ size := 1, bytes := 24, agg := false, zero := [.slice none 0 0], desc := .slice 5, held := false, guarded := false } : TI) := by kernel_rfl
theorem ti95 : tiOf Tryd.prog 95 = some ({ size := 2, bytes := 32, agg := true, zero := [.pointer none, .slice none 0 0], desc := .struct #[{ name := "addr", type := 93, offset := 0, embedded := false, tag := "", pkgPath := "strings", byteOffset := 0 }, { name := "buf", type := 94, offset := 1, embedded := false, tag := "", pkgPath := "strings", byteOffset := 8 }], held := false, guarded := false } : TI) := by kernel_rfl
theorem ti96 : tiOf Tryd.prog 96 = some ({ size := 2, bytes := 32, agg := true, zero := [.pointer none, .slice none 0 0], desc := .struct #[{ name := "addr", type := 93, offset := 0, embedded := false, tag := "", pkgPath := "strings", byteOffset := 0 }, { name := "buf", type := 94, offset := 1, embedded := false, tag := "", pkgPath := "strings", byteOffset := 8 }], held := false, guarded := false } : TI) := by kernel_rfl
theorem ti97 : tiOf Tryd.prog 97 = some ({ size := 1, bytes := 16, agg := false, zero := [.nilIface], desc := .interface #[("Error", 102)], held := false, guarded := false } : TI) := by kernel_rfl
theorem ti98 : tiOf Tryd.prog 98 = some ({ size := 1, bytes := 16, agg := false, zero := [.nilIface], desc := .interface #[("Error", 102)], held := false, guarded := false } : TI) := by kernel_rfl
theorem ti99 : tiOf Tryd.prog 99 = some ({ size := 1, bytes := 0, agg := false, zero := [.tuple #[.int .i64 0, .nilIface]], desc := .tuple #[3, 98], held := false, guarded := false } : TI) := by kernel_rfl
theorem ti100 : tiOf Tryd.prog 100 = some ({ size := 1, bytes := 8, agg := false, zero := [.nilFunc], desc := .func #[9] #[3, 98] false, held := false, guarded := false } : TI) := by kernel_rfl
theorem ti101 : tiOf Tryd.prog 101 = some ({ size := 1, bytes := 8, agg := false, zero := [.nilFunc], desc := .func #[3] #[9] false, held := false, guarded := false } : TI) := by kernel_rfl
theorem ti102 : tiOf Tryd.prog 102 = some ({ size := 1, bytes := 8, agg := false, zero := [.nilFunc], desc := .func #[] #[9] false, held := false, guarded := false } : TI) := by kernel_rfl
theorem ti103 : tiOf Tryd.prog 103 = some ({ size := 1, bytes := 8, agg := false, zero := [.nilFunc], desc := .func #[9, 9] #[3] false, held := false, guarded := false } : TI) := by kernel_rfl
theorem ti104 : tiOf Tryd.prog 104 = some ({ size := 1, bytes := 8, agg := false, zero := [.pointer none], desc := .pointer 87, held := false, guarded := false } : TI) := by kernel_rfl
theorem ti105 : tiOf Tryd.prog 105 = some ({ size := 1, bytes := 8, agg := false, zero := [.nilFunc], desc := .func #[9] #[25] false, held := false, guarded := false } : TI) := by kernel_rfl
theorem ti106 : tiOf Tryd.prog 106 = some ({ size := 1, bytes := 8, agg := false, zero := [.nilFunc], desc := .func #[2] #[25] false, held := false, guarded := false } : TI) := by kernel_rfl
theorem ti107 : tiOf Tryd.prog 107 = some ({ size := 1, bytes := 8, agg := false, zero := [.pointer none], desc := .pointer 5, held := false, guarded := false } : TI) := by kernel_rfl
theorem ti108 : tiOf Tryd.prog 108 = some ({ size := 1, bytes := 8, agg := false, zero := [.nilFunc], desc := .func #[36, 39] #[] false, held := false, guarded := false } : TI) := by kernel_rfl
theorem ti109 : tiOf Tryd.prog 109 = some ({ size := 1, bytes := 8, agg := false, zero := [.nilFunc], desc := .func #[36, 45] #[36] false, held := false, guarded := false } : TI) := by kernel_rfl
theorem ti110 : tiOf Tryd.prog 110 = some ({ size := 1, bytes := 8, agg := false, zero := [.pointer none], desc := .unsafePointer, held := false, guarded := false } : TI) := by kernel_rfl
theorem ti111 : tiOf Tryd.prog 111 = some ({ size := 1, bytes := 8, agg := false, zero := [.nilFunc], desc := .func #[110] #[110] false, held := false, guarded := false } : TI) := by kernel_rfl
theorem ti112 : tiOf Tryd.prog 112 = some ({ size := 1, bytes := 8, agg := false, zero := [.nilFunc], desc := .func #[2, 3] #[9] false, held := false, guarded := false } : TI) := by kernel_rfl
theorem ti113 : tiOf Tryd.prog 113 = some ({ size := 1, bytes := 8, agg := false, zero := [.nilFunc], desc := .func #[36, 3, 39] #[] false, held := false, guarded := false } : TI) := by kernel_rfl
theorem ti114 : tiOf Tryd.prog 114 = some ({ size := 1, bytes := 8, agg := false, zero := [.nilFunc], desc := .func #[3, 3] #[3] false, held := false, guarded := false } : TI) := by kernel_rfl
theorem ti115 : tiOf Tryd.prog 115 = some ({ size := 24, bytes := 24, agg := true, zero := [.int .u8 0, .int .u8 0, .int .u8 0, .int .u8 0, .int .u8 0, .int .u8 0, .int .u8 0, .int .u8 0, .int .u8 0, .int .u8 0, .int .u8 0, .int .u8 0, .int .u8 0, .int .u8 0, .int .u8 0, .int .u8 0, .int .u8 0, .int .u8 0, .int .u8 0, .int .u8 0, .int .u8 0, .int .u8 0, .int .u8 0, .int .u8 0], desc := .array 24 5, held := false, guarded := false } : TI) := by kernel_rfl
theorem ti116 : tiOf Tryd.prog 116 = some ({ size := 1, bytes := 8, agg := false, zero := [.int .u64 0], desc := .int .u64, held := false, guarded := false } : TI) := by kernel_rfl
theorem ti117 : tiOf Tryd.prog 117 = some ({ size := 1, bytes := 8, agg := false, zero := [.nilFunc], desc := .func #[116] #[3] false, held := false, guarded := false } : TI) := by kernel_rfl
theorem ti118 : tiOf Tryd.prog 118 = some ({ size := 1, bytes := 8, agg := false, zero := [.nilFunc], desc := .func #[94, 116] #[] false, held := false, guarded := false } : TI) := by kernel_rfl
theorem ti119 : tiOf Tryd.prog 119 = some ({ size := 1, bytes := 0, agg := false, zero := [.tuple { toList := [.slice none 0 0, .string { data := #[] }] }], desc := .tuple #[94, 9], held := false, guarded := false } : TI) := by kernel_rfl
theorem ti120 : tiOf Tryd.prog 120 = some ({ size := 1, bytes := 8, agg := false, zero := [.nilFunc], desc := .func #[94, 116, 3, 4, 4] #[94, 9] false, held := false, guarded := false } : TI) := by kernel_rfl
theorem ti121 : tiOf Tryd.prog 121 = some ({ size := 1, bytes := 8, agg := false, zero := [.nilFunc], desc := .func #[36, 3, 3, 39] #[] false, held := false, guarded := false } : TI) := by kernel_rfl
theorem ti122 : tiOf Tryd.prog 122 = some ({ size := 1, bytes := 8, agg := false, zero := [.nilFunc], desc := .func #[36, 3, 3, 3, 39] #[] false, held := false, guarded := false } : TI) := by kernel_rfl
theorem ti123 : tiOf Tryd.prog 123 = some ({ size := 1, bytes := 8, agg := false, zero := [.nilFunc], desc := .func #[2, 2] #[3] false, held := false, guarded := false } : TI) := by kernel_rfl
theorem ti124 : tiOf Tryd.prog 124 = some ({ size := 1, bytes := 8, agg := false, zero := [.nilFunc], desc := .func #[3] #[4] false, held := false, guarded := false } : TI) := by kernel_rfl
theorem ti125 : tiOf Tryd.prog 125 = some ({ size := 1, bytes := 8, agg := false, zero := [.nilFunc], desc := .func #[3] #[3] false, held := false, guarded := false } : TI) := by kernel_rfl
theorem ti126 : tiOf Tryd.prog 126 = some ({ size := 1, bytes := 8, agg := false, zero := [.nilFunc], desc := .func #[4] #[3] false, held := false, guarded := false } : TI) := by kernel_rfl
theorem ti127 : tiOf Tryd.prog 127 = some ({ size := 20, bytes := 160, agg := true, zero := [.int .u64 0, .int .u64 0, .int .u64 0, .int .u64 0, .int .u64 0, .int .u64 0, .int .u64 0, .int .u64 0, .int .u64 0, .int .u64 0, .int .u64 0, .int .u64 0, .int .u64 0, .int .u64 0, .int .u64 0, .int .u64 0, .int .u64 0, .int .u64 0, .int .u64 0, .int .u64 0], desc := .array 20 116, held := false, guarded := false } : TI) := by kernel_rfl
theorem ti128 : tiOf Tryd.prog 128 = some ({ size := 1, bytes := 4, agg := false, zero := [.int .u32 0], desc := .int .u32, held := false, guarded := false } : TI) := by kernel_rfl
theorem ti129 : tiOf Tryd.prog 129 = some ({ size := 65, bytes := 65, agg := true, zero := [.int .u8 0, .int .u8 0, .int .u8 0, .int .u8 0, .int .u8 0, .int .u8 0, .int .u8 0, .int .u8 0, .int .u8 0, .int .u8 0, .int .u8 0, .int .u8 0, .int .u8 0, .int .u8 0, .int .u8 0, .int .u8 0, .int .u8 0, .int .u8 0, .int .u8 0, .int .u8 0, .int .u8 0, .int .u8 0, .int .u8 0, .int .u8 0, .int .u8 0, .int .u8 0, .int .u8 0, .int .u8 0, .int .u8 0, .int .u8 0, .int .u8 0, .int .u8 0, .int .u8 0, .int .u8 0, .int .u8 0, .int .u8 0, .int .u8 0, .int .u8 0, .int .u8 0, .int .u8 0, .int .u8 0, .int .u8 0, .int .u8 0, .int .u8 0, .int .u8 0, .int .u8 0, .int .u8 0, .int .u8 0, .int .u8 0, .int .u8 0, .int .u8 0, .int .u8 0, .int .u8 0, .int .u8 0, .int .u8 0, .int .u8 0, .int .u8 0, .int .u8 0, .int .u8 0, .int .u8 0, .int .u8 0, .int .u8 0, .int .u8 0, .int .u8 0, .int .u8 0], desc := .array 65 5, held := false, guarded := false } : TI) := by kernel_rfl
theorem ti130 : tiOf Tryd.prog 130 = some ({ size := 1, bytes := 8, agg := false, zero := [.int .u64 0], desc := .int .u64, held := false, guarded := false } : TI) := by kernel_rfl
theorem ti131 : tiOf Tryd.prog 131 = some ({ size := 1, bytes := 8, agg := false, zero := [.nilFunc], desc := .func #[130] #[3] false, held := false, guarded := false } : TI) := by kernel_rfl
theorem ti132 : tiOf Tryd.prog 132 = some ({ size := 1, bytes := 8, agg := false, zero := [.nilFunc], desc := .func #[9] #[4] false, held := false, guarded := false } : TI) := by kernel_rfl
theorem ti133 : tiOf Tryd.prog 133 = some ({ size := 1, bytes := 8, agg := false, zero := [.nilFunc], desc := .func #[2] #[4] false, held := false, guarded := false } : TI) := by kernel_rfl
theorem ti134 : tiOf Tryd.prog 134 = some ({ size := 1, bytes := 8, agg := false, zero := [.nilFunc], desc := .func #[128] #[3] false, held := false, guarded := false } : TI) := by kernel_rfl
theorem ti135 : tiOf Tryd.prog 135 = some ({ size := 32, bytes := 32, agg := true, zero := [.int .u8 0, .int .u8 0, .int .u8 0, .int .u8 0, .int .u8 0, .int .u8 0, .int .u8 0, .int .u8 0, .int .u8 0, .int .u8 0, .int .u8 0, .int .u8 0, .int .u8 0, .int .u8 0, .int .u8 0, .int .u8 0, .int .u8 0, .int .u8 0, .int .u8 0, .int .u8 0, .int .u8 0, .int .u8 0, .int .u8 0, .int .u8 0, .int .u8 0, .int .u8 0, .int .u8 0, .int .u8 0, .int .u8 0, .int .u8 0, .int .u8 0, .int .u8 0], desc := .array 32 5, held := false, guarded := false } : TI) := by kernel_rfl
theorem ti136 : tiOf Tryd.prog 136 = some ({ size := 64, bytes := 64, agg := true, zero := [.int .u8 0, .int .u8 0, .int .u8 0, .int .u8 0, .int .u8 0, .int .u8 0, .int .u8 0, .int .u8 0, .int .u8 0, .int .u8 0, .int .u8 0, .int .u8 0, .int .u8 0, .int .u8 0, .int .u8 0, .int .u8 0, .int .u8 0, .int .u8 0, .int .u8 0, .int .u8 0, .int .u8 0, .int .u8 0, .int .u8 0, .int .u8 0, .int .u8 0, .int .u8 0, .int .u8 0, .int .u8 0, .int .u8 0, .int .u8 0, .int .u8 0, .int .u8 0, .int .u8 0, .int .u8 0, .int .u8 0, .int .u8 0, .int .u8 0, .int .u8 0, .int .u8 0, .int .u8 0, .int .u8 0, .int .u8 0, .int .u8 0, .int .u8 0, .int .u8 0, .int .u8 0, .int .u8 0, .int .u8 0, .int .u8 0, .int .u8 0, .int .u8 0, .int .u8 0, .int .u8 0, .int .u8 0, .int .u8 0, .int .u8 0, .int .u8 0, .int .u8 0, .int .u8 0, .int .u8 0, .int .u8 0, .int .u8 0, .int .u8 0, .int .u8 0], desc := .array 64 5, held := false, guarded := false } : TI) := by kernel_rfl
theorem ti137 : tiOf Tryd.prog 137 = some ({ size := 4, bytes := 40, agg := true, zero := [.pointer none, .pointer none, .pointer none, .string { data := #[] }], desc := .struct #[{ name := "_interface", type := 17, offset := 0, embedded := false, tag := "", pkgPath := "runtime", byteOffset := 0 }, { name := "concrete", type := 17, offset := 1, embedded := false, tag := "", pkgPath := "runtime", byteOffset := 8 }, { name := "asserted", type := 17, offset := 2, embedded := false, tag := "", pkgPath := "runtime", byteOffset := 16 }, { name := "missingMethod", type := 9, offset := 3, embedded := false, tag := "", pkgPath := "runtime", byteOffset := 24 }], held := true, guarded := false } : TI) := by kernel_rfl
theorem ti138 : tiOf Tryd.prog 138 = some ({ size := 4, bytes := 40, agg := true, zero := [.pointer none, .pointer none, .pointer none, .string { data := #[] }], desc := .struct #[{ name := "_interface", type := 17, offset := 0, embedded := false, tag := "", pkgPath := "runtime", byteOffset := 0 }, { name := "concrete", type := 17, offset := 1, embedded := false, tag := "", pkgPath := "runtime", byteOffset := 8 }, { name := "asserted", type := 17, offset := 2, embedded := false, tag := "", pkgPath := "runtime", byteOffset := 16 }, { name := "missingMethod", type := 9, offset := 3, embedded := false, tag := "", pkgPath := "runtime", byteOffset := 24 }], held := true, guarded := false } : TI) := by kernel_rfl
theorem ti139 : tiOf Tryd.prog 139 = some ({ size := 0, bytes := 0, agg := true, zero := [], desc := .array 0 16, held := false, guarded := false } : TI) := by kernel_rfl
theorem ti140 : tiOf Tryd.prog 140 = some ({ size := 0, bytes := 0, agg := true, zero := [], desc := .struct #[{ name := "_", type := 139, offset := 0, embedded := false, tag := "", pkgPath := "runtime", byteOffset := 0 }], held := true, guarded := false } : TI) := by kernel_rfl
theorem ti141 : tiOf Tryd.prog 141 = some ({ size := 0, bytes := 0, agg := true, zero := [], desc := .struct #[{ name := "_", type := 139, offset := 0, embedded := false, tag := "", pkgPath := "runtime", byteOffset := 0 }], held := true, guarded := false } : TI) := by kernel_rfl
theorem ti142 : tiOf Tryd.prog 142 = some ({ size := 1, bytes := 1, agg := false, zero := [.int .u8 0], desc := .int .u8, held := false, guarded := false } : TI) := by kernel_rfl
theorem ti143 : tiOf Tryd.prog 143 = some ({ size := 1, bytes := 1, agg := false, zero := [.int .u8 0], desc := .int .u8, held := false, guarded := false } : TI) := by kernel_rfl
theorem ti144 : tiOf Tryd.prog 144 = some ({ size := 1, bytes := 8, agg := false, zero := [.nilFunc], desc := .func #[110, 110] #[4] false, held := false, guarded := false } : TI) := by kernel_rfl
theorem ti145 : tiOf Tryd.prog 145 = some ({ size := 1, bytes := 4, agg := false, zero := [.int .i32 0], desc := .int .i32, held := false, guarded := false } : TI) := by kernel_rfl
theorem ti146 : tiOf Tryd.prog 146 = some ({ size := 1, bytes := 4, agg := false, zero := [.int .i32 0], desc := .int .i32, held := false, guarded := false } : TI) := by kernel_rfl
theorem ti147 : tiOf Tryd.prog 147 = some ({ size := 11, bytes := 48, agg := true, zero := [.int .u64 0, .int .u64 0, .int .u32 0, .int .u8 0, .int .u8 0, .int .u8 0, .int .u8 0, .nilFunc, .pointer none, .int .i32 0, .int .i32 0], desc := .struct #[{ name := "Size_", type := 12, offset := 0, embedded := false, tag := "", pkgPath := "", byteOffset := 0 }, { name := "PtrBytes", type := 12, offset := 1, embedded := false, tag := "", pkgPath := "", byteOffset := 8 }, { name := "Hash", type := 128, offset := 2, embedded := false, tag := "", pkgPath := "", byteOffset := 16 }, { name := "TFlag", type := 142, offset := 3, embedded := false, tag := "", pkgPath := "", byteOffset := 20 }, { name := "Align_", type := 5, offset := 4, embedded := false, tag := "", pkgPath := "", byteOffset := 21 }, { name := "FieldAlign_", type := 5, offset := 5, embedded := false, tag := "", pkgPath := "", byteOffset := 22 }, { name := "Kind_", type := 143, offset := 6, embedded := false, tag := "", pkgPath := "", byteOffset := 23 }, { name := "Equal", type := 144, offset := 7, embedded := false, tag := "", pkgPath := "", byteOffset := 24 }, { name := "GCData", type := 107, offset := 8, embedded := false, tag := "", pkgPath := "", byteOffset := 32 }, { name := "Str", type := 145, offset := 9, embedded := false, tag := "", pkgPath := "", byteOffset := 40 }, { name := "PtrToThis", type := 146, offset := 10, embedded := false, tag := "", pkgPath := "", byteOffset := 44 }], held := true, guarded := false } : TI) := by kernel_rfl
end Go.Am
namespace Go.Am
open Go.Proofs
noncomputable def env (K : Nat) (gw : World) : Env := { P := Tryd.prog, K := K, gw := gw, ti := tiOf Tryd.prog, tok := fun _ _ h => h, glob := fun _ => [], gok := fun g j x h => by simp at h }
section
variable {K : Nat} {gw : World} {s : St}
theorem mixed0 : Tryd.prog.follows .mixedOrders = true := by kernel_rfl
theorem env_P : (env K gw).P = Tryd.prog := rfl
theorem mixed : (env K gw).P.follows .mixedOrders = true := @mixed_of (env K gw) Tryd.prog env_P mixed0
theorem env_ti' : (env K gw).ti = tiOf Tryd.prog := by simp only [env]
theorem env_ti (t : TypeId) : (env K gw).ti t = tiOf Tryd.prog t := congrFun env_ti' t
theorem fnOk {E : Env} {P : Program} {f : FuncId} {fn : Func} (hP : E.P = P) (h : P.funcs[f]? = some fn) (h1 : (fn.name == "runtime.NumGoroutine") = false) (h2 : fn.body.isNone = false) : FnOk E.P f := ⟨fn, by rw [hP]; exact h, h1, h2⟩
/-- The table of the tens. -/
abbrev Tens (gw : World) : Prop := Lib.TabIs Tryd.prog gw "internal/strconv.uint64pow10" .u64 Lib.pow10Tab
attribute [local simp] awanted xop zOf zrow aop ev T0 Slots.put Slots.set Slots.get awr WOk AV.may ofConst abinop aint isConst St.get_push St.get_put St.live AV.fit AV.cells AV.one fieldOf afieldAddr aload ofCells astore splice May eqres env_ti FinP FinZ FinW ares aresL ares1 Fns.addP Fns.add Fns.a0 Fns.a1 Fns.a2 Fns.a3 Fns.a4 abuiltin alenOk alen aindex elemOfT elemId abuildSlice afill chunks ard aappend isSS AV.isStr aminmax placesOf abuild afield aidx isStrD isStrDesc astrop aslice asliceOk abound arange anext aextract aunop aeq AV.ck avseq aveq aconv aconvert onB_t onB_f List.range_succ ti0 ti1 ti2 ti3 ti4 ti5 ti6 ti7 ti8 ti9 ti10 ti11 ti12 ti13 ti14 ti15 ti16 ti17 ti18 ti19 ti20 ti21 ti22 ti23 ti24 ti25 ti26 ti27 ti28 ti29 ti30 ti31 ti32 ti33 ti34 ti35 ti36 ti37 ti38 ti39 ti40 ti41 ti42 ti43 ti44 ti45 ti46 ti47 ti48 ti49 ti50 ti51 ti52 ti53 ti54 ti55 ti56 ti57 ti58 ti59 ti60 ti61 ti62 ti63 ti64 ti65 ti66 ti67 ti68 ti69 ti70 ti71 ti72 ti73 ti74 ti75 ti76 ti77 ti78 ti79 ti80 ti81 ti82 ti83 ti84 ti85 ti86 ti87 ti88 ti89 ti90 ti91 ti92 ti93 ti94 ti95 ti96 ti97 ti98 ti99 ti100 ti101 ti102 ti103 ti104 ti105 ti106 ti107 ti108 ti109 ti110 ti111 ti112 ti113 ti114 ti115 ti116 ti117 ti118 ti119 ti120 ti121 ti122 ti123 ti124 ti125 ti126 ti127 ti128 ti129 ti130 ti131 ti132 ti133 ti134 ti135 ti136 ti137 ti138 ti139 ti140 ti141 ti142 ti143 ti144 ti145 ti146 ti147
abbrev Str := List UInt8
def cmpI (m n : Int) : Int := if m < n then -1 else if n < m then 1 else 0
def cmpS (a b : List UInt8) : Int := if Op.bytesLess a b then -1 else if a == b then 0 else 1

def pNaNi : List AV → Option AV
  | [.int .i64 _] => some (.bool false)
  | _ => none
def pNaNs : List AV → Option AV
  | [.str _] => some (.bool false)
  | _ => none
def pCmpI : List AV → Option AV
  | [.int .i64 m, .int .i64 n] => some (.int .i64 (cmpI m n))
  | _ => none
def pCmpS : List AV → Option AV
  | [.str m, .str n] => some (.int .i64 (cmpS m n))
  | _ => none

theorem ft45 (n : Int) : FT (env K gw) NoW 76 [.int .i64 n] s (.bool false) s := by
  refine FT.pure (fn := Tryd.f76) F0_ok mixed Tryd.func76 rfl (by rfl) rfl rfl (by simp) rfl fun μ w => ?_
  repeat' (first
    | refine WP.t ?_ | refine WP.k ?_ | refine WP.e ?_ | refine Qn ?_ | refine Qr ?_ | refine Qe ?_ | refine Bn ?_ | refine Br ?_ | refine Be ?_ | refine Bx (by decide) ?_
    | (refine RS.nl ?_; refine hk _ _ ?_; clear hk k)
    | ((first | refine RS.st fun A B hA hB => ?_ | refine RQ.st fun A B hA hB => ?_); simp [awanted, onW_t, onW_f, onV_s]; first | ((first | refine hA _ _ _ ?_ ?_ | refine hA _ _ _ ?_ (by first | exact .inl rfl | exact .inr (by decide)) ?_); (focus (simp [awanted] <;> omega)); clear hA hB A B) | (refine hB ?_; clear hA hB A B) | (refine onV_if ?_ ?_; (focus (first | omega | (refine ⟨?_, ?_⟩ <;> omega))); simp only [onV_s]; (first | refine hA _ _ _ ?_ ?_ | refine hA _ _ _ ?_ (by first | exact .inl rfl | exact .inr (by decide)) ?_); (focus (simp [awanted] <;> omega)); clear hA hB A B))
    | (refine RQ.nl ?_; refine hk _ _ ?_; clear hk k)
    | refine WP.sr fun k hk => ?_ | refine WP.r fun k hk => ?_
    | refine WP.sd _ rfl fun k hk => ?_ | refine WP.d _ rfl fun k hk => ?_
    | (refine WP.cc fun A B hA hB => ?_; simp [awanted, onB_t, onB_f]; first | (refine hA ?_; clear hA hB A B) | (refine hB ?_; clear hA hB A B) | (refine onB_if (fun h => hA ?_) (fun h => hB ?_) <;> clear hA hB A B))
    | refine WP.q ?_ | refine WP.b ?_)
  simp
theorem ft56 (n : List UInt8) : FT (env K gw) NoW 83 [.str n] s (.bool false) s := by
  refine FT.pure (fn := Tryd.f83) F0_ok mixed Tryd.func83 rfl (by rfl) rfl rfl (by simp) rfl fun μ w => ?_
  repeat' (first
    | refine WP.t ?_ | refine WP.k ?_ | refine WP.e ?_ | refine Qn ?_ | refine Qr ?_ | refine Qe ?_ | refine Bn ?_ | refine Br ?_ | refine Be ?_ | refine Bx (by decide) ?_
    | (refine RS.nl ?_; refine hk _ _ ?_; clear hk k)
    | ((first | refine RS.st fun A B hA hB => ?_ | refine RQ.st fun A B hA hB => ?_); simp [astrop, onW_t, onW_f, onV_s]; first | ((first | refine hA _ _ _ ?_ ?_ | refine hA _ _ _ ?_ (by first | exact .inl rfl | exact .inr (by decide)) ?_); (focus (simp [astrop] <;> omega)); clear hA hB A B) | (refine hB ?_; clear hA hB A B) | (refine onV_if ?_ ?_; (focus (first | omega | (refine ⟨?_, ?_⟩ <;> omega))); simp only [onV_s]; (first | refine hA _ _ _ ?_ ?_ | refine hA _ _ _ ?_ (by first | exact .inl rfl | exact .inr (by decide)) ?_); (focus (simp [astrop] <;> omega)); clear hA hB A B))
    | (refine RQ.nl ?_; refine hk _ _ ?_; clear hk k)
    | refine WP.sr fun k hk => ?_ | refine WP.r fun k hk => ?_
    | refine WP.sd _ rfl fun k hk => ?_ | refine WP.d _ rfl fun k hk => ?_
    | (refine WP.cc fun A B hA hB => ?_; simp [astrop, onB_t, onB_f]; first | (refine hA ?_; clear hA hB A B) | (refine hB ?_; clear hA hB A B) | (refine onB_if (fun h => hA ?_) (fun h => hB ?_) <;> clear hA hB A B))
    | refine WP.q ?_ | refine WP.b ?_)
  simp
theorem ft57 (n : Int) : FT (env K gw) NoW 84 [.int .i64 n] s (.bool false) s := by
  refine FT.pure (fn := Tryd.f84) F0_ok mixed Tryd.func84 rfl (by rfl) rfl rfl (by simp) rfl fun μ w => ?_
  repeat' (first
    | refine WP.t ?_ | refine WP.k ?_ | refine WP.e ?_ | refine Qn ?_ | refine Qr ?_ | refine Qe ?_ | refine Bn ?_ | refine Br ?_ | refine Be ?_ | refine Bx (by decide) ?_
    | (refine RS.nl ?_; refine hk _ _ ?_; clear hk k)
    | ((first | refine RS.st fun A B hA hB => ?_ | refine RQ.st fun A B hA hB => ?_); simp [awanted, onW_t, onW_f, onV_s]; first | ((first | refine hA _ _ _ ?_ ?_ | refine hA _ _ _ ?_ (by first | exact .inl rfl | exact .inr (by decide)) ?_); (focus (simp [awanted] <;> omega)); clear hA hB A B) | (refine hB ?_; clear hA hB A B) | (refine onV_if ?_ ?_; (focus (first | omega | (refine ⟨?_, ?_⟩ <;> omega))); simp only [onV_s]; (first | refine hA _ _ _ ?_ ?_ | refine hA _ _ _ ?_ (by first | exact .inl rfl | exact .inr (by decide)) ?_); (focus (simp [awanted] <;> omega)); clear hA hB A B))
    | (refine RQ.nl ?_; refine hk _ _ ?_; clear hk k)
    | refine WP.sr fun k hk => ?_ | refine WP.r fun k hk => ?_
    | refine WP.sd _ rfl fun k hk => ?_ | refine WP.d _ rfl fun k hk => ?_
    | (refine WP.cc fun A B hA hB => ?_; simp [awanted, onB_t, onB_f]; first | (refine hA ?_; clear hA hB A B) | (refine hB ?_; clear hA hB A B) | (refine onB_if (fun h => hA ?_) (fun h => hB ?_) <;> clear hA hB A B))
    | refine WP.q ?_ | refine WP.b ?_)
  simp
def F1 : Fns := ((F0.addP 76 pNaNi).addP 83 pNaNs).addP 84 pNaNi
theorem F1_ok : FOk (env K gw) F1 := by
  refine ((F0_ok.addP ?_).addP ?_).addP ?_
  · intro xs s r h; unfold pNaNi at h; split at h <;> cases h; exact ft45 _
  · intro xs s r h; unfold pNaNs at h; split at h <;> cases h; exact ft56 _
  · intro xs s r h; unfold pNaNi at h; split at h <;> cases h; exact ft57 _
theorem ft28 (m n : Int) : FT (env K gw) NoW 67 [.int .i64 m, .int .i64 n] s (.int .i64 (cmpI m n)) s := by
  refine FT.pure (fn := Tryd.f67) F1_ok mixed Tryd.func67 rfl (by rfl) rfl rfl (by simp) rfl fun μ w => ?_
  repeat' (first
    | refine WP.t ?_ | refine WP.k ?_ | refine WP.e ?_ | refine Qn ?_ | refine Qr ?_ | refine Qe ?_ | refine Bn ?_ | refine Br ?_ | refine Be ?_ | refine Bx (by decide) ?_
    | (refine RS.nl ?_; refine hk _ _ ?_; clear hk k)
    | ((first | refine RS.st fun A B hA hB => ?_ | refine RQ.st fun A B hA hB => ?_); simp [F1, Fns.addP, pNaNi, onW_t, onW_f, onV_s]; first | ((first | refine hA _ _ _ ?_ ?_ | refine hA _ _ _ ?_ (by first | exact .inl rfl | exact .inr (by decide)) ?_); (focus (simp [F1, Fns.addP, pNaNi] <;> omega)); clear hA hB A B) | (refine hB ?_; clear hA hB A B) | (refine onV_if ?_ ?_; (focus (first | omega | (refine ⟨?_, ?_⟩ <;> omega))); simp only [onV_s]; (first | refine hA _ _ _ ?_ ?_ | refine hA _ _ _ ?_ (by first | exact .inl rfl | exact .inr (by decide)) ?_); (focus (simp [F1, Fns.addP, pNaNi] <;> omega)); clear hA hB A B))
    | (refine RQ.nl ?_; refine hk _ _ ?_; clear hk k)
    | refine WP.sr fun k hk => ?_ | refine WP.r fun k hk => ?_
    | refine WP.sd _ rfl fun k hk => ?_ | refine WP.d _ rfl fun k hk => ?_
    | (refine WP.cc fun A B hA hB => ?_; simp [F1, Fns.addP, pNaNi, onB_t, onB_f]; first | (refine hA ?_; clear hA hB A B) | (refine hB ?_; clear hA hB A B) | (refine onB_if (fun h => hA ?_) (fun h => hB ?_) <;> clear hA hB A B))
    | refine WP.q ?_ | refine WP.b ?_)
  all_goals (simp at *; simp [cmpI, cmpS, *]; try omega)
theorem ft44 (m n : Int) : FT (env K gw) NoW 75 [.int .i64 m, .int .i64 n] s (.int .i64 (cmpI m n)) s := by
  refine FT.pure (fn := Tryd.f75) F1_ok mixed Tryd.func75 rfl (by rfl) rfl rfl (by simp) rfl fun μ w => ?_
  repeat' (first
    | refine WP.t ?_ | refine WP.k ?_ | refine WP.e ?_ | refine Qn ?_ | refine Qr ?_ | refine Qe ?_ | refine Bn ?_ | refine Br ?_ | refine Be ?_ | refine Bx (by decide) ?_
    | (refine RS.nl ?_; refine hk _ _ ?_; clear hk k)
    | ((first | refine RS.st fun A B hA hB => ?_ | refine RQ.st fun A B hA hB => ?_); simp [F1, Fns.addP, pNaNi, onW_t, onW_f, onV_s]; first | ((first | refine hA _ _ _ ?_ ?_ | refine hA _ _ _ ?_ (by first | exact .inl rfl | exact .inr (by decide)) ?_); (focus (simp [F1, Fns.addP, pNaNi] <;> omega)); clear hA hB A B) | (refine hB ?_; clear hA hB A B) | (refine onV_if ?_ ?_; (focus (first | omega | (refine ⟨?_, ?_⟩ <;> omega))); simp only [onV_s]; (first | refine hA _ _ _ ?_ ?_ | refine hA _ _ _ ?_ (by first | exact .inl rfl | exact .inr (by decide)) ?_); (focus (simp [F1, Fns.addP, pNaNi] <;> omega)); clear hA hB A B))
    | (refine RQ.nl ?_; refine hk _ _ ?_; clear hk k)
    | refine WP.sr fun k hk => ?_ | refine WP.r fun k hk => ?_
    | refine WP.sd _ rfl fun k hk => ?_ | refine WP.d _ rfl fun k hk => ?_
    | (refine WP.cc fun A B hA hB => ?_; simp [F1, Fns.addP, pNaNi, onB_t, onB_f]; first | (refine hA ?_; clear hA hB A B) | (refine hB ?_; clear hA hB A B) | (refine onB_if (fun h => hA ?_) (fun h => hB ?_) <;> clear hA hB A B))
    | refine WP.q ?_ | refine WP.b ?_)
  all_goals (simp at *; simp [cmpI, cmpS, *]; try omega)
theorem ft43 (m n : List UInt8) : FT (env K gw) NoW 74 [.str m, .str n] s (.int .i64 (cmpS m n)) s := by
  refine FT.pure (fn := Tryd.f74) F1_ok mixed Tryd.func74 rfl (by rfl) rfl rfl (by simp) rfl fun μ w => ?_
  repeat' (first
    | refine WP.t ?_ | refine WP.k ?_ | refine WP.e ?_ | refine Qn ?_ | refine Qr ?_ | refine Qe ?_ | refine Bn ?_ | refine Br ?_ | refine Be ?_ | refine Bx (by decide) ?_
    | (refine RS.nl ?_; refine hk _ _ ?_; clear hk k)
    | ((first | refine RS.st fun A B hA hB => ?_ | refine RQ.st fun A B hA hB => ?_); simp [F1, Fns.addP, pNaNs, astrop, onW_t, onW_f, onV_s]; first | ((first | refine hA _ _ _ ?_ ?_ | refine hA _ _ _ ?_ (by first | exact .inl rfl | exact .inr (by decide)) ?_); (focus (simp [F1, Fns.addP, pNaNs, astrop] <;> omega)); clear hA hB A B) | (refine hB ?_; clear hA hB A B) | (refine onV_if ?_ ?_; (focus (first | omega | (refine ⟨?_, ?_⟩ <;> omega))); simp only [onV_s]; (first | refine hA _ _ _ ?_ ?_ | refine hA _ _ _ ?_ (by first | exact .inl rfl | exact .inr (by decide)) ?_); (focus (simp [F1, Fns.addP, pNaNs, astrop] <;> omega)); clear hA hB A B))
    | (refine RQ.nl ?_; refine hk _ _ ?_; clear hk k)
    | refine WP.sr fun k hk => ?_ | refine WP.r fun k hk => ?_
    | refine WP.sd _ rfl fun k hk => ?_ | refine WP.d _ rfl fun k hk => ?_
    | (refine WP.cc fun A B hA hB => ?_; simp [F1, Fns.addP, pNaNs, astrop, onB_t, onB_f]; first | (refine hA ?_; clear hA hB A B) | (refine hB ?_; clear hA hB A B) | (refine onB_if (fun h => hA ?_) (fun h => hB ?_) <;> clear hA hB A B))
    | refine WP.q ?_ | refine WP.b ?_)
  all_goals (simp at *; simp_all [cmpS])
def F2 : Fns := ((F1.addP 67 pCmpI).addP 75 pCmpI).addP 74 pCmpS
theorem F2_ok : FOk (env K gw) F2 := by
  refine ((F1_ok.addP ?_).addP ?_).addP ?_
  · intro xs s r h; unfold pCmpI at h; split at h <;> cases h; exact ft28 _ _
  · intro xs s r h; unfold pCmpI at h; split at h <;> cases h; exact ft44 _ _
  · intro xs s r h; unfold pCmpS at h; split at h <;> cases h; exact ft43 _ _

/-- A value of the rules. -/
structure V where
  b : Bool
  s : List UInt8
  n : Int
def V.cs (v : V) : List AV := [.bool v.b, .str v.s, .int .i64 v.n]
def cmpV (x y : V) : Int := if x.b && y.b then cmpS x.s y.s else if x.b then 1 else if y.b then -1 else cmpI x.n y.n
def pCmpV : List AV → Option AV
  | [.agg [.bool b, .str s, .int .i64 n], .agg [.bool b', .str s', .int .i64 n']] => some (.int .i64 (cmpV ⟨b, s, n⟩ ⟨b', s', n'⟩))
  | _ => none
theorem ft27 (x y : V) : FT (env K gw) NoW 66 [.agg x.cs, .agg y.cs] s (.int .i64 (cmpV x y)) s := by
  obtain ⟨b, u, n⟩ := x
  obtain ⟨b', u', n'⟩ := y
  refine FT.pure (fn := Tryd.f66) F2_ok mixed Tryd.func66 rfl (by rfl) rfl rfl (by simp) rfl fun μ w => ?_
  cases b <;> cases b'
  all_goals
    repeat' (first
      | refine WP.t ?_ | refine WP.k ?_ | refine WP.e ?_ | refine Qn ?_ | refine Qr ?_ | refine Qe ?_ | refine Bn ?_ | refine Br ?_ | refine Be ?_ | refine Bx (by decide) ?_
      | (refine RS.nl ?_; refine hk _ _ ?_; clear hk k)
      | ((first | refine RS.st fun A B hA hB => ?_ | refine RQ.st fun A B hA hB => ?_); simp [F2, Fns.addP, pCmpI, pCmpS, V.cs, ti25, ti9, ti4, ti2, onW_t, onW_f, onV_s]; first | ((first | refine hA _ _ _ ?_ ?_ | refine hA _ _ _ ?_ (by first | exact .inl rfl | exact .inr (by decide)) ?_); (focus (simp [F2, Fns.addP, pCmpI, pCmpS, V.cs, ti25, ti9, ti4, ti2] <;> omega)); clear hA hB A B) | (refine hB ?_; clear hA hB A B) | (refine onV_if ?_ ?_; (focus (first | omega | (refine ⟨?_, ?_⟩ <;> omega))); simp only [onV_s]; (first | refine hA _ _ _ ?_ ?_ | refine hA _ _ _ ?_ (by first | exact .inl rfl | exact .inr (by decide)) ?_); (focus (simp [F2, Fns.addP, pCmpI, pCmpS, V.cs, ti25, ti9, ti4, ti2] <;> omega)); clear hA hB A B))
      | (refine RQ.nl ?_; refine hk _ _ ?_; clear hk k)
      | refine WP.sr fun k hk => ?_ | refine WP.r fun k hk => ?_
      | refine WP.sd _ rfl fun k hk => ?_ | refine WP.d _ rfl fun k hk => ?_
      | (refine WP.cc fun A B hA hB => ?_; simp [F2, Fns.addP, pCmpI, pCmpS, V.cs, ti25, ti9, ti4, ti2, onB_t, onB_f]; first | (refine hA ?_; clear hA hB A B) | (refine hB ?_; clear hA hB A B) | (refine onB_if (fun h => hA ?_) (fun h => hB ?_) <;> clear hA hB A B))
      | refine WP.q ?_ | refine WP.b ?_)
  
  all_goals simp [cmpV]
end
end Go.Am
namespace Go.Am
open Go.Proofs
section
variable {K : Nat} {gw : World} {s : St}
attribute [local simp] awanted xop zOf zrow aop ev T0 Slots.put Slots.set Slots.get awr WOk AV.may ofConst abinop aint isConst St.get_push St.get_put St.live AV.fit AV.cells AV.one fieldOf afieldAddr aload ofCells astore splice May eqres env_ti FinP FinZ FinW ares aresL ares1 Fns.addP Fns.add Fns.a0 Fns.a1 Fns.a2 Fns.a3 Fns.a4 abuiltin alenOk alen aindex elemOfT elemId abuildSlice afill chunks ard aappend isSS AV.isStr aminmax placesOf abuild afield aidx isStrD isStrDesc astrop aslice asliceOk abound arange anext aextract aunop aeq AV.ck avseq aveq aconv aconvert onB_t onB_f List.range_succ ti0 ti1 ti2 ti3 ti4 ti5 ti6 ti7 ti8 ti9 ti10 ti11 ti12 ti13 ti14 ti15 ti16 ti17 ti18 ti19 ti20 ti21 ti22 ti23 ti24 ti25 ti26 ti27 ti28 ti29 ti30 ti31 ti32 ti33 ti34 ti35 ti36 ti37 ti38 ti39 ti40 ti41 ti42 ti43 ti44 ti45 ti46 ti47 ti48 ti49 ti50 ti51 ti52 ti53 ti54 ti55 ti56 ti57 ti58 ti59 ti60 ti61 ti62 ti63 ti64 ti65 ti66 ti67 ti68 ti69 ti70 ti71 ti72 ti73 ti74 ti75 ti76 ti77 ti78 ti79 ti80 ti81 ti82 ti83 ti84 ti85 ti86 ti87 ti88 ti89 ti90 ti91 ti92 ti93 ti94 ti95 ti96 ti97 ti98 ti99 ti100 ti101 ti102 ti103 ti104 ti105 ti106 ti107 ti108 ti109 ti110 ti111 ti112 ti113 ti114 ti115 ti116 ti117 ti118 ti119 ti120 ti121 ti122 ti123 ti124 ti125 ti126 ti127 ti128 ti129 ti130 ti131 ti132 ti133 ti134 ti135 ti136 ti137 ti138 ti139 ti140 ti141 ti142 ti143 ti144 ti145 ti146 ti147
def F3 : Fns := F2.addP 66 pCmpV
theorem F3_ok : FOk (env K gw) F3 := by
  refine F2_ok.addP ?_
  intro xs s r h; unfold pCmpV at h; split at h <;> cases h; exact ft27 ⟨_, _, _⟩ ⟨_, _, _⟩

def decV : List AV → Option V
  | [.bool b, .str s, .int .i64 n] => some ⟨b, s, n⟩
  | _ => none
def decL : List (List AV) → Option (List V)
  | [] => some []
  | c :: l => match decV c, decL l with
    | some v, some vs => some (v :: vs)
    | _, _ => none
@[simp] theorem decV_cs (v : V) : decV v.cs = some v := rfl
@[simp] theorem decL_map (l : List V) : decL (l.map V.cs) = some l := by
  induction l with
  | nil => rfl
  | cons v l ih => simp [decL, ih]
theorem decV_eq {c : List AV} {v : V} (h : decV c = some v) : c = v.cs := by
  unfold decV at h
  split at h <;> cases h
  rfl
theorem decL_eq {c : List (List AV)} {v : List V} (h : decL c = some v) : c = v.map V.cs := by
  induction c generalizing v with
  | nil => cases h; rfl
  | cons x c ih =>
    simp only [decL] at h
    split at h
    · rename_i a b ha hb
      cases h
      simp [decV_eq ha, ih hb]
    · cases h

abbrev LIM : Nat := 4611686018427387904
def cmpT : List V → List V → Int
  | [], [] => 0
  | [], _ :: _ => -1
  | _ :: _, [] => 1
  | a :: x, b :: y => if cmpV a b = 0 then cmpT x y else cmpV a b
def pCmpT : List AV → Option AV
  | [.sl a, .sl b] => match decL a, decL b with
    | some x, some y => if x.length < LIM ∧ y.length < LIM then some (.int .i64 (cmpT x y)) else none
    | _, _ => none
  | _ => none

theorem cmpT_drop {x y : List V} {i : Nat} (hx : i < x.length) (hy : i < y.length) :
    cmpT (x.drop i) (y.drop i) = if cmpV x[i] y[i] = 0 then cmpT (x.drop (i + 1)) (y.drop (i + 1)) else cmpV x[i] y[i] := by
  rw [List.drop_eq_getElem_cons hx, List.drop_eq_getElem_cons hy]; rfl
theorem cmpT_end {x y : List V} {i : Nat} (h : i = min x.length y.length) : cmpT (x.drop i) (y.drop i) = cmpI x.length y.length := by
  unfold cmpI
  by_cases h1 : x.length < y.length
  · obtain rfl : i = x.length := by omega
    rw [List.drop_length, if_pos (by omega), List.drop_eq_getElem_cons h1]; rfl
  · by_cases h2 : y.length < x.length
    · obtain rfl : i = y.length := by omega
      rw [List.drop_length, if_neg (by omega), if_pos (by omega), List.drop_eq_getElem_cons h2]; rfl
    · obtain rfl : i = x.length := by omega
      rw [if_neg (by omega), if_neg (by omega)]
      have : x.length = y.length := by omega
      rw [List.drop_length, this, List.drop_length]; rfl

theorem ft11 (x y : List V) (hx : x.length < LIM) (hy : y.length < LIM) : FT (env K gw) NoW 60 [.sl (x.map V.cs), .sl (y.map V.cs)] s (.int .i64 (cmpT x y)) s := by
  refine FT.pure (fn := Tryd.f60) F3_ok mixed Tryd.func60 rfl (by rfl) rfl rfl (by simp) rfl fun μ w => ?_
  repeat' (first
    | refine WP.t ?_ | refine WP.k ?_ | refine WP.e ?_ | refine Qn ?_ | refine Qr ?_ | refine Qe ?_ | refine Bn ?_ | refine Br ?_ | refine Be ?_ | refine Bx (by decide) ?_
    | (refine RS.nl ?_; refine hk _ _ ?_; clear hk k)
    | ((first | refine RS.st fun A B hA hB => ?_ | refine RQ.st fun A B hA hB => ?_); simp [F3, abuiltin, alenOk, alen, ti33, aminmax, onW_t, onW_f, onV_s]; first | ((first | refine hA _ _ _ ?_ ?_ | refine hA _ _ _ ?_ (by first | exact .inl rfl | exact .inr (by decide)) ?_); (focus (simp [F3, abuiltin, alenOk, alen, ti33, aminmax] <;> omega)); clear hA hB A B) | (refine hB ?_; clear hA hB A B) | (refine onV_if ?_ ?_; (focus (first | omega | (refine ⟨?_, ?_⟩ <;> omega))); simp only [onV_s]; (first | refine hA _ _ _ ?_ ?_ | refine hA _ _ _ ?_ (by first | exact .inl rfl | exact .inr (by decide)) ?_); (focus (simp [F3, abuiltin, alenOk, alen, ti33, aminmax] <;> omega)); clear hA hB A B))
    | (refine RQ.nl ?_; refine hk _ _ ?_; clear hk k)
    | refine WP.sr fun k hk => ?_ | refine WP.r fun k hk => ?_
    | refine WP.sd _ rfl fun k hk => ?_ | refine WP.d _ rfl fun k hk => ?_
    | (refine WP.cc fun A B hA hB => ?_; simp [F3, abuiltin, alenOk, alen, ti33, aminmax, onB_t, onB_f]; first | (refine hA ?_; clear hA hB A B) | (refine hB ?_; clear hA hB A B) | (refine onB_if (fun h => hA ?_) (fun h => hB ?_) <;> clear hA hB A B))
    | refine WP.q ?_ | refine WP.b ?_)
  refine WP_loop (fun n T s' => ∃ i : Nat, n + i = min x.length y.length ∧ s' = s ∧ T.get 0 = .sl (x.map V.cs) ∧ T.get 1 = .sl (y.map V.cs) ∧ T.get 11 = .int .i64 (min x.length y.length : Nat) ∧ T.get 12 = .int .i64 i ∧ cmpT x y = cmpT (x.drop i) (y.drop i)) (min x.length y.length) ⟨0, by simp, rfl, by simp, by simp, by simp; omega, by simp, by simp⟩ ?_
  rintro n T s' ⟨i, hn, rfl, h0, h1, h11, h12, hc⟩
  by_cases hi : i < min x.length y.length
  · have hx' : i < x.length := by omega
    have hy' : i < y.length := by omega
    have hw : IntKind.i64.wrap ((i : Int) + 1) = (i : Int) + 1 := wrap64 (by omega) (by simp only [LIM] at hx; omega)
    have ha : x[i]? = some x[i] := List.getElem?_eq_getElem hx'
    have hb : y[i]? = some y[i] := List.getElem?_eq_getElem hy'
    have hlt : ((i : Int) < ((min x.length y.length : Nat) : Int)) := by omega
    repeat' (first
      | refine WP.t ?_ | refine WP.k ?_ | refine WP.e ?_ | refine Qn ?_ | refine Qr ?_ | refine Qe ?_ | refine Bn ?_ | refine Br ?_ | refine Be ?_ | refine Bx (by decide) ?_
      | (refine RS.nl ?_; refine hk _ _ ?_; clear hk k)
      | ((first | refine RS.st fun A B hA hB => ?_ | refine RQ.st fun A B hA hB => ?_); simp [F3, pCmpV, h0, h1, h11, h12, hlt, hx', hy', ha, hb, hw, aindex, elemOfT, ti33, ti25, V.cs, onW_t, onW_f, onV_s]; first | ((first | refine hA _ _ _ ?_ ?_ | refine hA _ _ _ ?_ (by first | exact .inl rfl | exact .inr (by decide)) ?_); (focus (simp [F3, pCmpV, h0, h1, h11, h12, hlt, hx', hy', ha, hb, hw, aindex, elemOfT, ti33, ti25, V.cs] <;> omega)); clear hA hB A B) | (refine hB ?_; clear hA hB A B) | (refine onV_if ?_ ?_; (focus (first | omega | (refine ⟨?_, ?_⟩ <;> omega))); simp only [onV_s]; (first | refine hA _ _ _ ?_ ?_ | refine hA _ _ _ ?_ (by first | exact .inl rfl | exact .inr (by decide)) ?_); (focus (simp [F3, pCmpV, h0, h1, h11, h12, hlt, hx', hy', ha, hb, hw, aindex, elemOfT, ti33, ti25, V.cs] <;> omega)); clear hA hB A B))
      | (refine RQ.nl ?_; refine hk _ _ ?_; clear hk k)
      | refine WP.sr fun k hk => ?_ | refine WP.r fun k hk => ?_
      | refine WP.sd _ rfl fun k hk => ?_ | refine WP.d _ rfl fun k hk => ?_
      | (refine WP.cc fun A B hA hB => ?_; simp [F3, pCmpV, h0, h1, h11, h12, hlt, hx', hy', ha, hb, hw, aindex, elemOfT, ti33, ti25, V.cs, onB_t, onB_f]; first | (refine hA ?_; clear hA hB A B) | (refine hB ?_; clear hA hB A B) | (refine onB_if (fun h => hA ?_) (fun h => hB ?_) <;> clear hA hB A B))
      | refine WP.q ?_ | refine WP.b ?_)
    · simp at h
      simp
      rw [hc, cmpT_drop hx' hy', if_neg h]
    · simp at h
      refine ⟨n - 1, by omega, i + 1, by omega, rfl, by simp [h0], by simp [h1], by simp [h11], by simp, ?_⟩
      rw [hc, cmpT_drop hx' hy', if_pos h]
  · have hlt : ¬ ((i : Int) < ((min x.length y.length : Nat) : Int)) := by omega
    have he : i = min x.length y.length := by omega
    repeat' (first
      | refine WP.t ?_ | refine WP.k ?_ | refine WP.e ?_ | refine Qn ?_ | refine Qr ?_ | refine Qe ?_ | refine Bn ?_ | refine Br ?_ | refine Be ?_ | refine Bx (by decide) ?_
      | (refine RS.nl ?_; refine hk _ _ ?_; clear hk k)
      | ((first | refine RS.st fun A B hA hB => ?_ | refine RQ.st fun A B hA hB => ?_); simp [F3, F2, pCmpI, h0, h1, h11, h12, hlt, abuiltin, alenOk, alen, ti33, onW_t, onW_f, onV_s]; first | ((first | refine hA _ _ _ ?_ ?_ | refine hA _ _ _ ?_ (by first | exact .inl rfl | exact .inr (by decide)) ?_); (focus (simp [F3, F2, pCmpI, h0, h1, h11, h12, hlt, abuiltin, alenOk, alen, ti33] <;> omega)); clear hA hB A B) | (refine hB ?_; clear hA hB A B) | (refine onV_if ?_ ?_; (focus (first | omega | (refine ⟨?_, ?_⟩ <;> omega))); simp only [onV_s]; (first | refine hA _ _ _ ?_ ?_ | refine hA _ _ _ ?_ (by first | exact .inl rfl | exact .inr (by decide)) ?_); (focus (simp [F3, F2, pCmpI, h0, h1, h11, h12, hlt, abuiltin, alenOk, alen, ti33] <;> omega)); clear hA hB A B))
      | (refine RQ.nl ?_; refine hk _ _ ?_; clear hk k)
      | refine WP.sr fun k hk => ?_ | refine WP.r fun k hk => ?_
      | refine WP.sd _ rfl fun k hk => ?_ | refine WP.d _ rfl fun k hk => ?_
      | (refine WP.cc fun A B hA hB => ?_; simp [F3, F2, pCmpI, h0, h1, h11, h12, hlt, abuiltin, alenOk, alen, ti33, onB_t, onB_f]; first | (refine hA ?_; clear hA hB A B) | (refine hB ?_; clear hA hB A B) | (refine onB_if (fun h => hA ?_) (fun h => hB ?_) <;> clear hA hB A B))
      | refine WP.q ?_ | refine WP.b ?_)
    rw [cmpT_end he] at hc
    simp [hc]
def F4 : Fns := F3.addP 60 pCmpT
theorem F4_ok : FOk (env K gw) F4 := by
  refine F3_ok.addP ?_
  intro xs s r h
  unfold pCmpT at h
  split at h
  · split at h
    · rename_i hx hy
      split at h
      · rename_i hl
        cases h
        rw [decL_eq hx, decL_eq hy]
        exact ft11 _ _ hl.1 hl.2
      · cases h
    · cases h
  · cases h
end
end Go.Am
namespace Go.Am
open Go.Proofs
section
variable {K : Nat} {gw : World} {s : St}
attribute [local simp] awanted xop zOf zrow aop ev T0 Slots.put Slots.set Slots.get awr WOk AV.may ofConst abinop aint isConst St.get_push St.get_put St.live AV.fit AV.cells AV.one fieldOf afieldAddr aload ofCells astore splice May eqres env_ti FinP FinZ FinW ares aresL ares1 Fns.addP Fns.add Fns.a0 Fns.a1 Fns.a2 Fns.a3 Fns.a4 abuiltin alenOk alen aindex elemOfT elemId abuildSlice afill chunks ard aappend isSS AV.isStr aminmax placesOf abuild afield aidx isStrD isStrDesc astrop aslice asliceOk abound arange anext aextract aunop aeq AV.ck avseq aveq aconv aconvert onB_t onB_f List.range_succ ti0 ti1 ti2 ti3 ti4 ti5 ti6 ti7 ti8 ti9 ti10 ti11 ti12 ti13 ti14 ti15 ti16 ti17 ti18 ti19 ti20 ti21 ti22 ti23 ti24 ti25 ti26 ti27 ti28 ti29 ti30 ti31 ti32 ti33 ti34 ti35 ti36 ti37 ti38 ti39 ti40 ti41 ti42 ti43 ti44 ti45 ti46 ti47 ti48 ti49 ti50 ti51 ti52 ti53 ti54 ti55 ti56 ti57 ti58 ti59 ti60 ti61 ti62 ti63 ti64 ti65 ti66 ti67 ti68 ti69 ti70 ti71 ti72 ti73 ti74 ti75 ti76 ti77 ti78 ti79 ti80 ti81 ti82 ti83 ti84 ti85 ti86 ti87 ti88 ti89 ti90 ti91 ti92 ti93 ti94 ti95 ti96 ti97 ti98 ti99 ti100 ti101 ti102 ti103 ti104 ti105 ti106 ti107 ti108 ti109 ti110 ti111 ti112 ti113 ti114 ti115 ti116 ti117 ti118 ti119 ti120 ti121 ti122 ti123 ti124 ti125 ti126 ti127 ti128 ti129 ti130 ti131 ti132 ti133 ti134 ti135 ti136 ti137 ti138 ti139 ti140 ti141 ti142 ti143 ti144 ti145 ti146 ti147

theorem ext62 (v : Value) (w : World) : (callFunc 63 #[v]).run Tryd.prog w = .ok (.value v) w := by kernel_rfl
def pNoEsc : List AV → Option AV
  | [x] => some x
  | _ => none
theorem fx62 (x : AV) : FX (env K gw) 63 [x] s x := by
  intro μ w vs hR hv
  have h1 : vs.size = 1 := by rw [← hv.1]; rfl
  obtain ⟨v, rfl⟩ : ∃ v, vs = #[v] := ⟨vs[0], Array.ext (by simpa using h1) (fun i h1 h2 => by simp at h2; subst h2; rfl)⟩
  exact ⟨v, ext62 v w, hv.2 0 x v rfl rfl⟩
def F5 : Fns := F4.addP 63 pNoEsc
theorem F5_ok : FOk (env K gw) F5 := by
  refine F4_ok.addX ?_
  intro xs s r h; unfold pNoEsc at h; split at h <;> cases h; exact fx62 _

theorem ft47a {id : Nat} {b : AV} (hid : id < s.nx) (hs : s.get id = some (.var 96 [.np, b])) (hb : Below s.nx b) :
    FT (env K gw) (fun i => i ∈ [id]) 56 [.ptr id 0] s (.tup []) (s.put id (.var 96 [.ptr id 0, b])) := by
  refine FT.own (fn := Tryd.f56) F5_ok mixed Tryd.func56 rfl (by rfl) rfl rfl (by simp) rfl fun μ w => ?_
  repeat' (first
    | refine WP.t ?_ | refine WP.k ?_ | refine WP.e ?_ | refine Qn ?_ | refine Qr ?_ | refine Qe ?_ | refine Bn ?_ | refine Br ?_ | refine Be ?_ | refine Bx (by decide) ?_
    | (refine RS.nl ?_; refine hk _ _ ?_; clear hk k)
    | ((first | refine RS.st fun A B hA hB => ?_ | refine RQ.st fun A B hA hB => ?_); simp [F5, pNoEsc, hs, anilCheck, acvp, onW_t, onW_f, onV_s]; first | ((first | refine hA _ _ _ ?_ ?_ | refine hA _ _ _ ?_ (by first | exact .inl rfl | exact .inr (by decide)) ?_); (focus (simp [F5, pNoEsc, hs, anilCheck, acvp] <;> omega)); clear hA hB A B) | (refine hB ?_; clear hA hB A B) | (refine onV_if ?_ ?_; (focus (first | omega | (refine ⟨?_, ?_⟩ <;> omega))); simp only [onV_s]; (first | refine hA _ _ _ ?_ ?_ | refine hA _ _ _ ?_ (by first | exact .inl rfl | exact .inr (by decide)) ?_); (focus (simp [F5, pNoEsc, hs, anilCheck, acvp] <;> omega)); clear hA hB A B))
    | (refine RQ.nl ?_; refine hk _ _ ?_; clear hk k)
    | refine WP.sr fun k hk => ?_ | refine WP.r fun k hk => ?_
    | refine WP.sd _ rfl fun k hk => ?_ | refine WP.d _ rfl fun k hk => ?_
    | (refine WP.cc fun A B hA hB => ?_; simp [F5, pNoEsc, hs, anilCheck, acvp, onB_t, onB_f]; first | (refine hA ?_; clear hA hB A B) | (refine hB ?_; clear hA hB A B) | (refine onB_if (fun h => hA ?_) (fun h => hB ?_) <;> clear hA hB A B))
    | refine WP.q ?_ | refine WP.b ?_)
  simp [FinW]
  intro h i hi hw o ho
  by_cases e : i = id
  · simp [e] at ho; subst ho; simp [hid, hb]
  · omega
theorem ft47b {id : Nat} {b : AV} (hid : id < s.nx) (hs : s.get id = some (.var 96 [.ptr id 0, b])) : FT (env K gw) NoW 56 [.ptr id 0] s (.tup []) s := by
  refine FT.pure (fn := Tryd.f56) F5_ok mixed Tryd.func56 rfl (by rfl) rfl rfl (by simp) rfl fun μ w => ?_
  repeat' (first
    | refine WP.t ?_ | refine WP.k ?_ | refine WP.e ?_ | refine Qn ?_ | refine Qr ?_ | refine Qe ?_ | refine Bn ?_ | refine Br ?_ | refine Be ?_ | refine Bx (by decide) ?_
    | (refine RS.nl ?_; refine hk _ _ ?_; clear hk k)
    | ((first | refine RS.st fun A B hA hB => ?_ | refine RQ.st fun A B hA hB => ?_); simp [F5, pNoEsc, hs, anilCheck, acvp, onW_t, onW_f, onV_s]; first | ((first | refine hA _ _ _ ?_ ?_ | refine hA _ _ _ ?_ (by first | exact .inl rfl | exact .inr (by decide)) ?_); (focus (simp [F5, pNoEsc, hs, anilCheck, acvp] <;> omega)); clear hA hB A B) | (refine hB ?_; clear hA hB A B) | (refine onV_if ?_ ?_; (focus (first | omega | (refine ⟨?_, ?_⟩ <;> omega))); simp only [onV_s]; (first | refine hA _ _ _ ?_ ?_ | refine hA _ _ _ ?_ (by first | exact .inl rfl | exact .inr (by decide)) ?_); (focus (simp [F5, pNoEsc, hs, anilCheck, acvp] <;> omega)); clear hA hB A B))
    | (refine RQ.nl ?_; refine hk _ _ ?_; clear hk k)
    | refine WP.sr fun k hk => ?_ | refine WP.r fun k hk => ?_
    | refine WP.sd _ rfl fun k hk => ?_ | refine WP.d _ rfl fun k hk => ?_
    | (refine WP.cc fun A B hA hB => ?_; simp [F5, pNoEsc, hs, anilCheck, acvp, onB_t, onB_f]; first | (refine hA ?_; clear hA hB A B) | (refine hB ?_; clear hA hB A B) | (refine onB_if (fun h => hA ?_) (fun h => hB ?_) <;> clear hA hB A B))
    | refine WP.q ?_ | refine WP.b ?_)
  simp
/-- A text's bytes, as a row. -/
def byteRow (x : List UInt8) : List (List AV) := x.map fun c => [.int .u8 (c.toNat : Int)]
/-- copyCheck, as a table's entry. -/
def belowB (n : Nat) : AV → Bool
  | .nsl => true
  | .ls r _ _ => decide (r < n)
  | _ => false
theorem belowB_eq {n : Nat} {x : AV} (h : belowB n x = true) : Below n x := by
  unfold belowB at h
  split at h
  · simp
  · simpa using h
  · cases h
def gCheck (xs : List AV) (s : St) : Option (AV × St × List Nat) :=
  match xs with
  | [.ptr id 0] => if id < s.nx then (match s.get id with
    | some (.var 96 [.np, b]) => if belowB s.nx b then some (.tup [], s.put id (.var 96 [.ptr id 0, b]), [id]) else none
    | some (.var 96 [.ptr id' 0, b]) => if id' = id then some (.tup [], s, []) else none
    | _ => none) else none
  | _ => none
def F6 : Fns := F5.add 56 gCheck
theorem F6_ok : FOk (env K gw) F6 := by
  refine F5_ok.add ?_
  intro xs s r s' l h
  unfold gCheck at h
  split at h
  · split at h
    · rename_i hid
      split at h
      · rename_i b hs
        split at h
        · rename_i hb
          cases h
          exact ft47a hid hs (belowB_eq hb)
        · cases h
      · rename_i b hs
        split at h
        · rename_i e
          subst e
          cases h
          have : (fun id => id ∈ ([] : List Nat)) = NoW := by funext id; simp
          rw [this]
          exact ft47b hid hs
        · cases h
      · cases h
    · cases h
  · cases h
theorem byteRow_length (x : List UInt8) : (byteRow x).length = x.length := by simp [byteRow]
theorem byteRow_ok (x : List UInt8) : (byteRow x).all (fun y => y.length == 1 && y.all AV.one) = true := by simp [byteRow, AV.one]
theorem byteRow_append (x y : List UInt8) : byteRow (x ++ y) = byteRow x ++ byteRow y := by simp [byteRow]
theorem byteRow_below (n : Nat) (x : List UInt8) : ∀ e ∈ byteRow x, ∀ y ∈ e, Below n y := by simp [byteRow]
theorem byteRow_bytes (x : List UInt8) : (byteRow x).mapM byteOf = some x := by
  induction x with
  | nil => rfl
  | cons c x ih => simp [byteRow] at ih ⊢; rw [ih]; simp [byteOf]

theorem ft30a {id : Nat} {p : AV} {x : List UInt8} (hid : id < s.nx) (hs : s.get id = some (.var 96 [p, .nsl])) (hp : p = .np ∨ p = .ptr id 0) (hb : x.length ≤ 140737488355328) :
    FT (env K gw) (fun i => i ∈ [id]) 46 [.ptr id 0, .str x] s (.tup [.int .i64 x.length, .nif]) ((s.push (.row 1 (true, 5) (byteRow x))).put id (.var 96 [.ptr id 0, .ls s.nx 0 x.length])) := by
  refine FT.own (fn := Tryd.f46) F6_ok mixed Tryd.func46 rfl (by rfl) rfl rfl (by simp) rfl fun μ w => ?_
  have hne : ¬ s.nx = id := by omega
  have hne' : ¬ id = s.nx := by omega
  unfold byteRow at *
  rcases hp with rfl | rfl
  all_goals
    repeat' (first
      | refine WP.t ?_ | refine WP.k ?_ | refine WP.e ?_ | refine Qn ?_ | refine Qr ?_ | refine Qe ?_ | refine Bn ?_ | refine Br ?_ | refine Be ?_ | refine Bx (by decide) ?_
      | (refine RS.nl ?_; refine hk _ _ ?_; clear hk k)
      | ((first | refine RS.st fun A B hA hB => ?_ | refine RQ.st fun A B hA hB => ?_); simp [F6, gCheck, belowB, hs, hid, anilCheck, hb, hne, hne', onW_t, onW_f, onV_s]; first | ((first | refine hA _ _ _ ?_ ?_ | refine hA _ _ _ ?_ (by first | exact .inl rfl | exact .inr (by decide)) ?_); (focus (simp [F6, gCheck, belowB, hs, hid, anilCheck, hb, hne, hne'] <;> omega)); clear hA hB A B) | (refine hB ?_; clear hA hB A B) | (refine onV_if ?_ ?_; (focus (first | omega | (refine ⟨?_, ?_⟩ <;> omega))); simp only [onV_s]; (first | refine hA _ _ _ ?_ ?_ | refine hA _ _ _ ?_ (by first | exact .inl rfl | exact .inr (by decide)) ?_); (focus (simp [F6, gCheck, belowB, hs, hid, anilCheck, hb, hne, hne'] <;> omega)); clear hA hB A B))
      | (refine RQ.nl ?_; refine hk _ _ ?_; clear hk k)
      | refine WP.sr fun k hk => ?_ | refine WP.r fun k hk => ?_
      | refine WP.sd _ rfl fun k hk => ?_ | refine WP.d _ rfl fun k hk => ?_
      | (refine WP.cc fun A B hA hB => ?_; simp [F6, gCheck, belowB, hs, hid, anilCheck, hb, hne, hne', onB_t, onB_f]; first | (refine hA ?_; clear hA hB A B) | (refine hB ?_; clear hA hB A B) | (refine onB_if (fun h => hA ?_) (fun h => hB ?_) <;> clear hA hB A B))
      | refine WP.q ?_ | refine WP.b ?_)
  all_goals
    refine ⟨.inr rfl, by simp, by simp; try omega, by simp, by simp, fun _ => ⟨fun j hj => ?_, fun j hj hw o ho => ?_⟩⟩
    · by_cases h1 : j = id
      · simp [h1]
      · simp [h1, St.get_drop] <;> first | done | rfl
    · by_cases h1 : j = id
      · simp [h1] at ho; subst ho; simp; omega
      · by_cases h2 : j = s.nx
        · simp [h2, hne] at ho; subst ho; simp
        · simp [h1, h2, St.get_drop] at ho hw hj
          try omega
theorem ft30b {id rd : Nat} {p : AV} {x y : List UInt8} (hid : id < s.nx) (hrd : rd < s.nx) (hs : s.get id = some (.var 96 [p, .ls rd 0 y.length])) (hr : s.get rd = some (.row 1 (true, 5) (byteRow y))) (hp : p = .np ∨ p = .ptr id 0) (hb : y.length + x.length ≤ 140737488355328) :
    FT (env K gw) (fun i => i ∈ [id, rd]) 46 [.ptr id 0, .str x] s (.tup [.int .i64 x.length, .nif]) (((s.drop rd).push (.row 1 (true, 5) (byteRow (y ++ x)))).put id (.var 96 [.ptr id 0, .ls s.nx 0 (y.length + x.length)])) := by
  have hne0 : ¬ rd = id := by rintro rfl; rw [hs] at hr; cases hr
  have hne00 : ¬ id = rd := fun e => hne0 e.symm
  refine FT.own (fn := Tryd.f46) F6_ok mixed Tryd.func46 rfl (by rfl) rfl rfl (by simp) rfl fun μ w => ?_
  have hne : ¬ s.nx = id := by omega
  have hne' : ¬ id = s.nx := by omega
  have hne1 : ¬ rd = s.nx := by omega
  unfold byteRow at *
  rcases hp with rfl | rfl
  all_goals
    repeat' (first
      | refine WP.t ?_ | refine WP.k ?_ | refine WP.e ?_ | refine Qn ?_ | refine Qr ?_ | refine Qe ?_ | refine Bn ?_ | refine Br ?_ | refine Be ?_ | refine Bx (by decide) ?_
      | (refine RS.nl ?_; refine hk _ _ ?_; clear hk k)
      | ((first | refine RS.st fun A B hA hB => ?_ | refine RQ.st fun A B hA hB => ?_); simp [F6, gCheck, belowB, hs, hr, hid, hrd, anilCheck, hb, hne, hne', hne0, hne00, hne1, St.get_drop, onW_t, onW_f, onV_s]; first | ((first | refine hA _ _ _ ?_ ?_ | refine hA _ _ _ ?_ (by first | exact .inl rfl | exact .inr (by decide)) ?_); (focus (simp [F6, gCheck, belowB, hs, hr, hid, hrd, anilCheck, hb, hne, hne', hne0, hne00, hne1, St.get_drop] <;> omega)); clear hA hB A B) | (refine hB ?_; clear hA hB A B) | (refine onV_if ?_ ?_; (focus (first | omega | (refine ⟨?_, ?_⟩ <;> omega))); simp only [onV_s]; (first | refine hA _ _ _ ?_ ?_ | refine hA _ _ _ ?_ (by first | exact .inl rfl | exact .inr (by decide)) ?_); (focus (simp [F6, gCheck, belowB, hs, hr, hid, hrd, anilCheck, hb, hne, hne', hne0, hne00, hne1, St.get_drop] <;> omega)); clear hA hB A B))
      | (refine RQ.nl ?_; refine hk _ _ ?_; clear hk k)
      | refine WP.sr fun k hk => ?_ | refine WP.r fun k hk => ?_
      | refine WP.sd _ rfl fun k hk => ?_ | refine WP.d _ rfl fun k hk => ?_
      | (refine WP.cc fun A B hA hB => ?_; simp [F6, gCheck, belowB, hs, hr, hid, hrd, anilCheck, hb, hne, hne', hne0, hne00, hne1, St.get_drop, onB_t, onB_f]; first | (refine hA ?_; clear hA hB A B) | (refine hB ?_; clear hA hB A B) | (refine onB_if (fun h => hA ?_) (fun h => hB ?_) <;> clear hA hB A B))
      | refine WP.q ?_ | refine WP.b ?_)
  all_goals
    refine ⟨.inr rfl, by simp, by simp; try omega, by simp, by simp, fun _ => ⟨fun j hj => ?_, fun j hj hw o ho => ?_⟩⟩
    · by_cases h1 : j = id
      · simp [h1]
      · simp [h1, St.get_drop] <;> first | done | rfl
    · by_cases h1 : j = id
      · simp [h1] at ho; subst ho; simp; omega
      · by_cases h2 : j = s.nx
        · simp [h2, hne] at ho; subst ho; simp
          rintro e (⟨c, _, rfl⟩ | ⟨c, _, rfl⟩) y hy <;> (simp at hy; subst hy; simp)
        · simp [h1, h2, St.get_drop] at ho hw hj
          try omega
def unrow : List (List AV) → Option (List UInt8)
  | [] => some []
  | [.int .u8 n] :: l => if 0 ≤ n ∧ n < 256 then (unrow l).map (UInt8.ofNat n.toNat :: ·) else none
  | _ => none
@[simp] theorem unrow_row (x : List UInt8) : unrow (byteRow x) = some x := by
  unfold byteRow
  induction x with
  | nil => rfl
  | cons c x ih =>
    have h : ((c.toNat : Int) < 256) := by have := c.toNat_lt; omega
    simp [unrow, ih, h]
theorem unrow_eq : ∀ {es : List (List AV)} {x : List UInt8}, unrow es = some x → es = byteRow x := by
  intro es
  induction es with
  | nil => intro x h; cases h; rfl
  | cons e es ih =>
    intro x h
    unfold unrow at h
    split at h
    · rename_i heq; cases heq
    · rename_i n l heq
      simp only [List.cons.injEq] at heq
      obtain ⟨rfl, rfl⟩ := heq
      split at h
      · rename_i hn
        obtain ⟨y, hy, rfl⟩ := Option.map_eq_some_iff.1 h
        rw [ih hy]
        simp only [byteRow, List.map_cons, List.cons.injEq, and_true]
        congr 1
        simp
        omega
      · cases h
    · cases h
def okp (id : Nat) : AV → Bool
  | .np => true
  | .ptr i 0 => i == id
  | _ => false
theorem okp_eq {id : Nat} {p : AV} (h : okp id p = true) : p = .np ∨ p = .ptr id 0 := by
  unfold okp at h
  split at h
  · exact .inl rfl
  · simp at h; exact .inr (by rw [h])
  · cases h
def gWrite (xs : List AV) (s : St) : Option (AV × St × List Nat) :=
  match xs with
  | [.ptr id 0, .str x] => if id < s.nx then (match s.get id with
    | some (.var 96 [p, b]) => if okp id p then (match b with
      | .nsl => if x.length ≤ 140737488355328 then some (.tup [.int .i64 x.length, .nif], (s.push (.row 1 (true, 5) (byteRow x))).put id (.var 96 [.ptr id 0, .ls s.nx 0 x.length]), [id]) else none
      | .ls rd 0 n => if rd < s.nx then (match s.get rd with
        | some (.row 1 (true, 5) es) => match unrow es with
          | some y => if n = y.length ∧ y.length + x.length ≤ 140737488355328 then
              some (.tup [.int .i64 x.length, .nif], ((s.drop rd).push (.row 1 (true, 5) (byteRow (y ++ x)))).put id (.var 96 [.ptr id 0, .ls s.nx 0 (y.length + x.length)]), [id, rd]) else none
          | none => none
        | _ => none) else none
      | _ => none) else none
    | _ => none) else none
  | _ => none
theorem gWrite_ok {xs : List AV} {r : AV} {s' : St} {l : List Nat} (h : gWrite xs s = some (r, s', l)) : FT (env K gw) (fun id => id ∈ l) 46 xs s r s' := by
  unfold gWrite at h
  split at h
  · split at h
    · rename_i hid
      split at h
      · rename_i hs
        split at h
        · rename_i hp
          split at h
          · split at h
            · rename_i hx
              cases h
              exact ft30a hid hs (okp_eq hp) hx
            · cases h
          · split at h
            · rename_i hrd
              split at h
              · rename_i hr
                split at h
                · rename_i y hy
                  split at h
                  · rename_i hc
                    cases h
                    obtain ⟨rfl, hc⟩ := hc
                    rw [unrow_eq hy] at hr
                    exact ft30b hid hrd hs hr (okp_eq hp) hc
                  · cases h
                · cases h
              · cases h
            · cases h
          · cases h
        · cases h
      · cases h
    · cases h
  · cases h
def F7 : Fns := F6.add 46 gWrite
theorem F7_ok : FOk (env K gw) F7 := F6_ok.add fun xs s r s' l h => gWrite_ok h

theorem ft32a {id : Nat} {p : AV} (hs : s.get id = some (.var 96 [p, .nsl])) : FT (env K gw) NoW 48 [.ptr id 0] s (.str []) s := by
  refine FT.pure (fn := Tryd.f48) F7_ok mixed Tryd.func48 rfl (by rfl) rfl rfl (by simp) rfl fun μ w => ?_
  repeat' (first
    | refine WP.t ?_ | refine WP.k ?_ | refine WP.e ?_ | refine Qn ?_ | refine Qr ?_ | refine Qe ?_ | refine Bn ?_ | refine Br ?_ | refine Be ?_ | refine Bx (by decide) ?_
    | (refine RS.nl ?_; refine hk _ _ ?_; clear hk k)
    | ((first | refine RS.st fun A B hA hB => ?_ | refine RQ.st fun A B hA hB => ?_); simp [hs, anilCheck, ausd, aus, onW_t, onW_f, onV_s]; first | ((first | refine hA _ _ _ ?_ ?_ | refine hA _ _ _ ?_ (by first | exact .inl rfl | exact .inr (by decide)) ?_); (focus (simp [hs, anilCheck, ausd, aus] <;> omega)); clear hA hB A B) | (refine hB ?_; clear hA hB A B) | (refine onV_if ?_ ?_; (focus (first | omega | (refine ⟨?_, ?_⟩ <;> omega))); simp only [onV_s]; (first | refine hA _ _ _ ?_ ?_ | refine hA _ _ _ ?_ (by first | exact .inl rfl | exact .inr (by decide)) ?_); (focus (simp [hs, anilCheck, ausd, aus] <;> omega)); clear hA hB A B))
    | (refine RQ.nl ?_; refine hk _ _ ?_; clear hk k)
    | refine WP.sr fun k hk => ?_ | refine WP.r fun k hk => ?_
    | refine WP.sd _ rfl fun k hk => ?_ | refine WP.d _ rfl fun k hk => ?_
    | (refine WP.cc fun A B hA hB => ?_; simp [hs, anilCheck, ausd, aus, onB_t, onB_f]; first | (refine hA ?_; clear hA hB A B) | (refine hB ?_; clear hA hB A B) | (refine onB_if (fun h => hA ?_) (fun h => hB ?_) <;> clear hA hB A B))
    | refine WP.q ?_ | refine WP.b ?_)
  simp
theorem ft32b {id rd : Nat} {p : AV} {y : List UInt8} (hid : id < s.nx) (hrd : rd < s.nx) (hs : s.get id = some (.var 96 [p, .ls rd 0 y.length])) (hr : s.get rd = some (.row 1 (true, 5) (byteRow y))) (h0 : 0 < y.length) (hb : y.length ≤ 140737488355328) :
    FT (env K gw) (fun i => i ∈ [rd]) 48 [.ptr id 0] s (.str y) (s.put rd (.row 1 (false, 5) (byteRow y))) := by
  refine FT.own (fn := Tryd.f48) F7_ok mixed Tryd.func48 rfl (by rfl) rfl rfl (by simp) rfl fun μ w => ?_
  have hm := byteRow_bytes y
  have h1 : ((y.length : Int) ≤ 9223372036854775807) := by omega
  have hl := byteRow_length y
  have ht : List.take y.length (byteRow y) = byteRow y := by rw [← hl, List.take_length]
  repeat' (first
    | refine WP.t ?_ | refine WP.k ?_ | refine WP.e ?_ | refine Qn ?_ | refine Qr ?_ | refine Qe ?_ | refine Bn ?_ | refine Br ?_ | refine Be ?_ | refine Bx (by decide) ?_
    | (refine RS.nl ?_; refine hk _ _ ?_; clear hk k)
    | ((first | refine RS.st fun A B hA hB => ?_ | refine RQ.st fun A B hA hB => ?_); simp [hs, hr, h0, h1, hm, hl, ht, anilCheck, ausd, aus, isPtrTo, onW_t, onW_f, onV_s]; first | ((first | refine hA _ _ _ ?_ ?_ | refine hA _ _ _ ?_ (by first | exact .inl rfl | exact .inr (by decide)) ?_); (focus (simp [hs, hr, h0, h1, hm, hl, ht, anilCheck, ausd, aus, isPtrTo] <;> omega)); clear hA hB A B) | (refine hB ?_; clear hA hB A B) | (refine onV_if ?_ ?_; (focus (first | omega | (refine ⟨?_, ?_⟩ <;> omega))); simp only [onV_s]; (first | refine hA _ _ _ ?_ ?_ | refine hA _ _ _ ?_ (by first | exact .inl rfl | exact .inr (by decide)) ?_); (focus (simp [hs, hr, h0, h1, hm, hl, ht, anilCheck, ausd, aus, isPtrTo] <;> omega)); clear hA hB A B))
    | (refine RQ.nl ?_; refine hk _ _ ?_; clear hk k)
    | refine WP.sr fun k hk => ?_ | refine WP.r fun k hk => ?_
    | refine WP.sd _ rfl fun k hk => ?_ | refine WP.d _ rfl fun k hk => ?_
    | (refine WP.cc fun A B hA hB => ?_; simp [hs, hr, h0, h1, hm, hl, ht, anilCheck, ausd, aus, isPtrTo, onB_t, onB_f]; first | (refine hA ?_; clear hA hB A B) | (refine hB ?_; clear hA hB A B) | (refine onB_if (fun h => hA ?_) (fun h => hB ?_) <;> clear hA hB A B))
    | refine WP.q ?_ | refine WP.b ?_)
  refine ⟨.inr rfl, by simp, by simp, by simp, by simp, fun _ => ⟨fun j hj => rfl, fun j hj hw o ho => ?_⟩⟩
  by_cases e : j = rd
  · simp [e] at ho; subst ho; simp [byteRow]
  · simp [e] at hw hj; omega
def gString (xs : List AV) (s : St) : Option (AV × St × List Nat) :=
  match xs with
  | [.ptr id 0] => if id < s.nx then (match s.get id with
    | some (.var 96 [_, b]) => (match b with
      | .nsl => some (.str [], s, [])
      | .ls rd 0 n => if rd < s.nx then (match s.get rd with
        | some (.row 1 (true, 5) es) => match unrow es with
          | some y => if n = y.length ∧ 0 < y.length ∧ y.length ≤ 140737488355328 then some (.str y, s.put rd (.row 1 (false, 5) (byteRow y)), [rd]) else none
          | none => none
        | _ => none) else none
      | _ => none)
    | _ => none) else none
  | _ => none
theorem gString_ok {xs : List AV} {r : AV} {s' : St} {l : List Nat} (h : gString xs s = some (r, s', l)) : FT (env K gw) (fun id => id ∈ l) 48 xs s r s' := by
  unfold gString at h
  split at h
  · split at h
    · rename_i hid
      split at h
      · rename_i hs
        split at h
        · cases h
          have : (fun id => id ∈ ([] : List Nat)) = NoW := by funext id; simp
          rw [this]
          exact ft32a hs
        · split at h
          · rename_i hrd
            split at h
            · rename_i hr
              split at h
              · rename_i y hy
                split at h
                · rename_i hc
                  cases h
                  obtain ⟨rfl, hc0, hc⟩ := hc
                  rw [unrow_eq hy] at hr
                  exact ft32b hid hrd hs hr hc0 hc
                · cases h
              · cases h
            · cases h
          · cases h
        · cases h
      · cases h
    · cases h
  · cases h
def F8 : Fns := F7.add 48 gString
theorem F8_ok : FOk (env K gw) F8 := F7_ok.add fun xs s r s' l h => gString_ok h
end
end Go.Am
namespace Go.Proofs
open Go.Shelf
def Tryd.laysItoa_ren : Go.Shelf.Ren := ⟨fun | 171 => 47 | 243 => 57 | 246 => 64 | 283 => 68 | 284 => 69 | 285 => 70 | 286 => 71 | 129 => 78 | 317 => 77 | 318 => 79 | 319 => 80 | 320 => 81 | 337 => 85 | 338 => 86 | n => n, fun | 3 => 3 | 9 => 9 | 2 => 2 | 4 => 4 | 171 => 115 | 0 => 0 | 53 => 116 | 37 => 94 | 5 => 5 | 173 => 119 | 212 => 127 | 51 => 128 | 20 => 20 | 213 => 129 | 46 => 130 | 232 => 135 | 233 => 136 | n => n, fun | 17 => 0 | 18 => 1 | 19 => 2 | n => n⟩
theorem Tryd.laysItoa : Go.Proofs.LaysM.n171 Tryd.prog Tryd.laysItoa_ren := {
  mixed := by kernel_rfl
  f129 := Tryd.func78.trans (congrArg some (by kernel_rfl))
  f171 := Tryd.func47.trans (congrArg some (by kernel_rfl))
  f243 := Tryd.func57.trans (congrArg some (by kernel_rfl))
  f246 := Tryd.func64.trans (congrArg some (by kernel_rfl))
  f283 := Tryd.func68.trans (congrArg some (by kernel_rfl))
  f284 := Tryd.func69.trans (congrArg some (by kernel_rfl))
  f285 := Tryd.func70.trans (congrArg some (by kernel_rfl))
  f286 := Tryd.func71.trans (congrArg some (by kernel_rfl))
  f317 := Tryd.func77.trans (congrArg some (by kernel_rfl))
  f318 := Tryd.func79.trans (congrArg some (by kernel_rfl))
  f319 := Tryd.func80.trans (congrArg some (by kernel_rfl))
  f320 := Tryd.func81.trans (congrArg some (by kernel_rfl))
  f337 := Tryd.func85.trans (congrArg some (by kernel_rfl))
  f338 := Tryd.func86.trans (congrArg some (by kernel_rfl))
  t0 := Tryd.underlying0
  a0 := Tryd.isAgg0
  z0 := Tryd.sizeOf0
  v0 := Tryd.zeroValue0
  t2 := Tryd.underlying2
  a2 := Tryd.isAgg2
  z2 := Tryd.sizeOf2
  v2 := Tryd.zeroValue2
  t3 := Tryd.underlying3
  a3 := Tryd.isAgg3
  z3 := Tryd.sizeOf3
  v3 := Tryd.zeroValue3
  t4 := Tryd.underlying4
  a4 := Tryd.isAgg4
  z4 := Tryd.sizeOf4
  v4 := Tryd.zeroValue4
  t5 := Tryd.underlying5
  a5 := Tryd.isAgg5
  z5 := Tryd.sizeOf5
  v5 := Tryd.zeroValue5
  t9 := Tryd.underlying9
  a9 := Tryd.isAgg9
  z9 := Tryd.sizeOf9
  v9 := Tryd.zeroValue9
  t20 := Tryd.underlying20
  a20 := Tryd.isAgg20
  z20 := Tryd.sizeOf20
  v20 := Tryd.zeroValue20
  t37 := Tryd.underlying94
  a37 := Tryd.isAgg94
  z37 := Tryd.sizeOf94
  v37 := Tryd.zeroValue94
  t46 := Tryd.underlying130
  a46 := Tryd.isAgg130
  z46 := Tryd.sizeOf130
  v46 := Tryd.zeroValue130
  t51 := Tryd.underlying128
  a51 := Tryd.isAgg128
  z51 := Tryd.sizeOf128
  v51 := Tryd.zeroValue128
  t53 := Tryd.underlying116
  a53 := Tryd.isAgg116
  z53 := Tryd.sizeOf116
  v53 := Tryd.zeroValue116
  t171 := Tryd.underlying115
  a171 := Tryd.isAgg115
  z171 := Tryd.sizeOf115
  v171 := Tryd.zeroValue115
  t173 := Tryd.underlying119
  a173 := Tryd.isAgg119
  z173 := Tryd.sizeOf119
  v173 := Tryd.zeroValue119
  t212 := Tryd.underlying127
  a212 := Tryd.isAgg127
  z212 := Tryd.sizeOf127
  v212 := Tryd.zeroValue127
  t213 := Tryd.underlying129
  a213 := Tryd.isAgg129
  z213 := Tryd.sizeOf129
  t232 := Tryd.underlying135
  a232 := Tryd.isAgg135
  z232 := Tryd.sizeOf135
  v232 := Tryd.zeroValue135
  t233 := Tryd.underlying136
  a233 := Tryd.isAgg136
  z233 := Tryd.sizeOf136
  v233 := Tryd.zeroValue136
  g17 := by kernel_rfl
  g18 := by kernel_rfl
  g19 := by kernel_rfl
  i0 := by kernel_rfl
  i2 := by kernel_rfl
  i3 := by kernel_rfl
  i4 := by kernel_rfl
  i5 := by kernel_rfl
  i9 := by kernel_rfl
  i20 := by kernel_rfl
  i37 := by kernel_rfl
  i46 := by kernel_rfl
  i51 := by kernel_rfl
  i53 := by kernel_rfl
  i171 := by kernel_rfl
  i173 := by kernel_rfl
  i212 := by kernel_rfl
  i232 := by kernel_rfl
  i233 := by kernel_rfl
  m17 := by kernel_rfl
  m18 := by kernel_rfl
  m19 := by kernel_rfl }
end Go.Proofs
namespace Go.Am
open Go.Proofs Go.Shelf
section
variable {K : Nat} {gw : World} {s : St}
attribute [local simp] awanted xop zOf zrow aop ev T0 Slots.put Slots.set Slots.get awr WOk AV.may ofConst abinop aint isConst St.get_push St.get_put St.live AV.fit AV.cells AV.one fieldOf afieldAddr aload ofCells astore splice May eqres env_ti FinP FinZ FinW ares aresL ares1 Fns.addP Fns.add Fns.a0 Fns.a1 Fns.a2 Fns.a3 Fns.a4 abuiltin alenOk alen aindex elemOfT elemId abuildSlice afill chunks ard aappend isSS AV.isStr aminmax placesOf abuild afield aidx isStrD isStrDesc astrop aslice asliceOk abound arange anext aextract aunop aeq AV.ck avseq aveq aconv aconvert onB_t onB_f List.range_succ ti0 ti1 ti2 ti3 ti4 ti5 ti6 ti7 ti8 ti9 ti10 ti11 ti12 ti13 ti14 ti15 ti16 ti17 ti18 ti19 ti20 ti21 ti22 ti23 ti24 ti25 ti26 ti27 ti28 ti29 ti30 ti31 ti32 ti33 ti34 ti35 ti36 ti37 ti38 ti39 ti40 ti41 ti42 ti43 ti44 ti45 ti46 ti47 ti48 ti49 ti50 ti51 ti52 ti53 ti54 ti55 ti56 ti57 ti58 ti59 ti60 ti61 ti62 ti63 ti64 ti65 ti66 ti67 ti68 ti69 ti70 ti71 ti72 ti73 ti74 ti75 ti76 ti77 ti78 ti79 ti80 ti81 ti82 ti83 ti84 ti85 ti86 ti87 ti88 ti89 ti90 ti91 ti92 ti93 ti94 ti95 ti96 ti97 ti98 ti99 ti100 ti101 ti102 ti103 ti104 ti105 ti106 ti107 ti108 ti109 ti110 ti111 ti112 ti113 ti114 ti115 ti116 ti117 ti118 ti119 ti120 ti121 ti122 ti123 ti124 ti125 ti126 ti127 ti128 ti129 ti130 ti131 ti132 ti133 ti134 ti135 ti136 ti137 ti138 ti139 ti140 ti141 ti142 ti143 ti144 ti145 ti146 ti147
theorem gTens : Tryd.prog.globalNamed "internal/strconv.uint64pow10" = some 0 := by kernel_rfl
theorem tens_of {μ : Mu} {w : World} (hK : 0 < K) (hT : Tens gw) (hR : Rel (env K gw) μ s w) : Tens w := by
  unfold Tens Lib.TabIs World.var? at *
  rw [gTens] at *
  have := hR.gl 0 hK
  simp only [Option.bind_some] at hT ⊢
  rw [this]
  exact hT
theorem ft31 (hK : 0 < K) (hT : Tens gw) {n : Int} (h0 : -9223372036854775808 ≤ n) (h1 : n ≤ 9223372036854775807) : FT (env K gw) NoW 47 [.int .i64 n] s (.str (Lib.itoa n)) s := by
  refine FT.below (fnOk env_P Tryd.func47 (by rfl) (by rfl)) fun μ w vs hR hv => ?_
  have hs : vs.size = 1 := by rw [← hv.1]; rfl
  obtain ⟨v, rfl⟩ : ∃ v, vs = #[v] := ⟨vs[0], Array.ext (by simpa using hs) (fun i h1 h2 => by simp at h2; subst h2; rfl)⟩
  have hx := hv.2 0 _ v rfl rfl
  cases hx
  refine Calls.mono (Any.strconv_Itoa Tryd.laysItoa n h0 h1 w (tens_of hK hT hR)) fun e w' he => ?_
  obtain ⟨rfl, k, os, rfl⟩ := he
  exact ⟨_, rfl, .str ⟨(Lib.itoa n).toArray⟩, Lib.below_grow _ w (Nat.le_refl _) k os⟩
/-- Numbers that an int holds. -/
def i64ok (n : Int) : Bool := decide (-9223372036854775808 ≤ n ∧ n ≤ 9223372036854775807)
def pItoa : List AV → Option AV
  | [.int .i64 n] => if i64ok n then some (.str (Lib.itoa n)) else none
  | _ => none
def F9 : Fns := F8.addP 47 pItoa
theorem F9_ok (hK : 0 < K) (hT : Tens gw) : FOk (env K gw) F9 := by
  refine F8_ok.addP ?_
  intro xs s r h
  unfold pItoa at h
  split at h
  · split at h
    · rename_i hn
      cases h
      have := of_decide_eq_true hn
      exact ft31 hK hT this.1 this.2
    · cases h
  · cases h
end
end Go.Am
namespace Go.Am
open Go.Proofs
section
variable {K : Nat} {gw : World} {s : St}
attribute [local simp] awanted xop zOf zrow aop ev T0 Slots.put Slots.set Slots.get awr WOk AV.may ofConst abinop aint isConst St.get_push St.get_put St.live AV.fit AV.cells AV.one fieldOf afieldAddr aload ofCells astore splice May eqres env_ti FinP FinZ FinW ares aresL ares1 Fns.addP Fns.add Fns.a0 Fns.a1 Fns.a2 Fns.a3 Fns.a4 abuiltin alenOk alen aindex elemOfT elemId abuildSlice afill chunks ard aappend isSS AV.isStr aminmax placesOf abuild afield aidx isStrD isStrDesc astrop aslice asliceOk abound arange anext aextract aunop aeq AV.ck avseq aveq aconv aconvert onB_t onB_f List.range_succ ti0 ti1 ti2 ti3 ti4 ti5 ti6 ti7 ti8 ti9 ti10 ti11 ti12 ti13 ti14 ti15 ti16 ti17 ti18 ti19 ti20 ti21 ti22 ti23 ti24 ti25 ti26 ti27 ti28 ti29 ti30 ti31 ti32 ti33 ti34 ti35 ti36 ti37 ti38 ti39 ti40 ti41 ti42 ti43 ti44 ti45 ti46 ti47 ti48 ti49 ti50 ti51 ti52 ti53 ti54 ti55 ti56 ti57 ti58 ti59 ti60 ti61 ti62 ti63 ti64 ti65 ti66 ti67 ti68 ti69 ti70 ti71 ti72 ti73 ti74 ti75 ti76 ti77 ti78 ti79 ti80 ti81 ti82 ti83 ti84 ti85 ti86 ti87 ti88 ti89 ti90 ti91 ti92 ti93 ti94 ti95 ti96 ti97 ti98 ti99 ti100 ti101 ti102 ti103 ti104 ti105 ti106 ti107 ti108 ti109 ti110 ti111 ti112 ti113 ti114 ti115 ti116 ti117 ti118 ti119 ti120 ti121 ti122 ti123 ti124 ti125 ti126 ti127 ti128 ti129 ti130 ti131 ti132 ti133 ti134 ti135 ti136 ti137 ti138 ti139 ti140 ti141 ti142 ti143 ti144 ti145 ti146 ti147
/-- A Builder and what it holds. -/
def Bld (s : St) (n id : Nat) (x : List UInt8) : Prop := ∃ p, okp id p = true ∧ ((x = [] ∧ s.get id = some (.var 96 [p, .nsl])) ∨
  (0 < x.length ∧ ∃ rd, n ≤ rd ∧ rd < s.nx ∧ s.get id = some (.var 96 [p, .ls rd 0 x.length]) ∧ s.get rd = some (.row 1 (true, 5) (byteRow x))))
/-- What a Builder's write leaves. -/
theorem write_bld {n id : Nat} {x y : List UInt8} (hB : Bld s n id x) (hid : id < s.nx) (hn : n ≤ id) (hy : 0 < y.length) (hl : x.length + y.length ≤ 140737488355328) :
    ∃ s' l, gWrite [.ptr id 0, .str y] s = some (.tup [.int .i64 y.length, .nif], s', l) ∧ (∀ i ∈ l, n ≤ i) ∧ Bld s' n id (x ++ y) ∧ s'.nx = s.nx + 1 := by
  obtain ⟨p, hp, h | ⟨h0, rd, hn2, hrd, hs, hr⟩⟩ := hB
  · obtain ⟨rfl, hs⟩ := h
    have hl' : y.length ≤ 140737488355328 := by simpa using hl
    refine ⟨_, _, by simp only [gWrite, hid, hs, hp, hl', if_true]; rfl, by simp [hn], ⟨.ptr id 0, by simp [okp], .inr ⟨by simpa using hy, s.nx, by omega, by simp, by simp, ?_⟩⟩, by simp⟩
    have : ¬ s.nx = id := by omega
    simp [St.get_put, this]
  · refine ⟨_, _, by simp only [gWrite, hid, hs, hp, hrd, hr, unrow_row, hl, if_true, true_and]; rfl, by simp [hn, hn2], ⟨.ptr id 0, by simp [okp], .inr ⟨by simp; omega, s.nx, by omega, by simp, by simp, ?_⟩⟩, by simp⟩
    have : ¬ s.nx = id := by omega
    have e : s.nx = (s.drop rd).nx := rfl
    simp only [St.get_put, this, if_false]
    rw [e, St.get_push_same]

theorem Bld.keep {s1 : St} {n id : Nat} {x : List UInt8} (h : Bld s n id x) (hid : id < s.nx) (hnx : s.nx ≤ s1.nx) (hg : ∀ j, j < s.nx → s1.get j = s.get j) : Bld s1 n id x := by
  obtain ⟨p, hp, h | ⟨h0, rd, hn2, hrd, hs, hr⟩⟩ := h
  · exact ⟨p, hp, .inl ⟨h.1, by rw [hg id hid]; exact h.2⟩⟩
  · exact ⟨p, hp, .inr ⟨h0, rd, hn2, by omega, by rw [hg id hid]; exact hs, by rw [hg rd hrd]; exact hr⟩⟩

theorem string_bld {n id : Nat} {x : List UInt8} (hB : Bld s n id x) (hid : id < s.nx) (hl : x.length ≤ 140737488355328) :
    ∃ s' l, gString [.ptr id 0] s = some (.str x, s', l) ∧ (∀ i ∈ l, n ≤ i) := by
  obtain ⟨p, hp, h | ⟨h0, rd, hn2, hrd, hs, hr⟩⟩ := hB
  · obtain ⟨rfl, hs⟩ := h
    exact ⟨_, _, by simp only [gString, hid, hs, if_true]; rfl, by simp⟩
  · exact ⟨_, _, by simp only [gString, hid, hs, hrd, hr, unrow_row, hl, h0, if_true, true_and, and_true]; rfl, by simp [hn2]⟩

theorem ft53 (hK : 0 < K) (hT : Tens gw) (x : List UInt8) : FT (env K gw) NoW 54 [.str x] s (.agg [.bool true, .str x, .int .i64 0]) s := by
  refine FT.pure (fn := Tryd.f54) (F9_ok hK hT) mixed Tryd.func54 (by kernel_rfl) (by rfl) rfl rfl (by simp) rfl fun μ w => ?_
  repeat' (first
    | refine WP.t ?_ | refine WP.k ?_ | refine WP.e ?_ | refine Qn ?_ | refine Qr ?_ | refine Qe ?_ | refine Bn ?_ | refine Br ?_ | refine Be ?_ | refine Bx (by decide) ?_
    | (refine RS.nl ?_; refine hk _ _ ?_; clear hk k)
    | ((first | refine RS.st fun A B hA hB => ?_ | refine RQ.st fun A B hA hB => ?_); simp [ti25, abuild, afill, placesOf, ti4, ti9, ti2, onW_t, onW_f, onV_s]; first | ((first | refine hA _ _ _ ?_ ?_ | refine hA _ _ _ ?_ (by first | exact .inl rfl | exact .inr (by decide)) ?_); (focus (simp [ti25, abuild, afill, placesOf, ti4, ti9, ti2] <;> omega)); clear hA hB A B) | (refine hB ?_; clear hA hB A B) | (refine onV_if ?_ ?_; (focus (first | omega | (refine ⟨?_, ?_⟩ <;> omega))); simp only [onV_s]; (first | refine hA _ _ _ ?_ ?_ | refine hA _ _ _ ?_ (by first | exact .inl rfl | exact .inr (by decide)) ?_); (focus (simp [ti25, abuild, afill, placesOf, ti4, ti9, ti2] <;> omega)); clear hA hB A B))
    | (refine RQ.nl ?_; refine hk _ _ ?_; clear hk k)
    | refine WP.sr fun k hk => ?_ | refine WP.r fun k hk => ?_
    | refine WP.sd _ rfl fun k hk => ?_ | refine WP.d _ rfl fun k hk => ?_
    | (refine WP.cc fun A B hA hB => ?_; simp [ti25, abuild, afill, placesOf, ti4, ti9, ti2, onB_t, onB_f]; first | (refine hA ?_; clear hA hB A B) | (refine hB ?_; clear hA hB A B) | (refine onB_if (fun h => hA ?_) (fun h => hB ?_) <;> clear hA hB A B))
    | refine WP.q ?_ | refine WP.b ?_)
  simp [ti25]
theorem ft55 (hK : 0 < K) (hT : Tens gw) (n : Int) : FT (env K gw) NoW 55 [.int .i64 n] s (.agg [.bool false, .str [], .int .i64 n]) s := by
  refine FT.pure (fn := Tryd.f55) (F9_ok hK hT) mixed Tryd.func55 (by kernel_rfl) (by rfl) rfl rfl (by simp) rfl fun μ w => ?_
  repeat' (first
    | refine WP.t ?_ | refine WP.k ?_ | refine WP.e ?_ | refine Qn ?_ | refine Qr ?_ | refine Qe ?_ | refine Bn ?_ | refine Br ?_ | refine Be ?_ | refine Bx (by decide) ?_
    | (refine RS.nl ?_; refine hk _ _ ?_; clear hk k)
    | ((first | refine RS.st fun A B hA hB => ?_ | refine RQ.st fun A B hA hB => ?_); simp [ti25, abuild, afill, placesOf, ti4, ti9, ti2, onW_t, onW_f, onV_s]; first | ((first | refine hA _ _ _ ?_ ?_ | refine hA _ _ _ ?_ (by first | exact .inl rfl | exact .inr (by decide)) ?_); (focus (simp [ti25, abuild, afill, placesOf, ti4, ti9, ti2] <;> omega)); clear hA hB A B) | (refine hB ?_; clear hA hB A B) | (refine onV_if ?_ ?_; (focus (first | omega | (refine ⟨?_, ?_⟩ <;> omega))); simp only [onV_s]; (first | refine hA _ _ _ ?_ ?_ | refine hA _ _ _ ?_ (by first | exact .inl rfl | exact .inr (by decide)) ?_); (focus (simp [ti25, abuild, afill, placesOf, ti4, ti9, ti2] <;> omega)); clear hA hB A B))
    | (refine RQ.nl ?_; refine hk _ _ ?_; clear hk k)
    | refine WP.sr fun k hk => ?_ | refine WP.r fun k hk => ?_
    | refine WP.sd _ rfl fun k hk => ?_ | refine WP.d _ rfl fun k hk => ?_
    | (refine WP.cc fun A B hA hB => ?_; simp [ti25, abuild, afill, placesOf, ti4, ti9, ti2, onB_t, onB_f]; first | (refine hA ?_; clear hA hB A B) | (refine hB ?_; clear hA hB A B) | (refine onB_if (fun h => hA ?_) (fun h => hB ?_) <;> clear hA hB A B))
    | refine WP.q ?_ | refine WP.b ?_)
  simp [ti25]
def pSym : List AV → Option AV
  | [.str x] => some (.agg [.bool true, .str x, .int .i64 0])
  | _ => none
def pInt : List AV → Option AV
  | [.int .i64 n] => some (.agg [.bool false, .str [], .int .i64 n])
  | _ => none
def F10 : Fns := (F9.addP 54 pSym).addP 55 pInt
theorem F10_ok (hK : 0 < K) (hT : Tens gw) : FOk (env K gw) F10 := by
  refine ((F9_ok hK hT).addP ?_).addP ?_
  · intro xs s r h; unfold pSym at h; split at h <;> cases h; exact ft53 hK hT _
  · intro xs s r h; unfold pInt at h; split at h <;> cases h; exact ft55 hK hT _
def bareV (v : V) : V := if v.b then ⟨true, v.s, 0⟩ else ⟨false, [], v.n⟩
theorem ft41 (hK : 0 < K) (hT : Tens gw) (v : V) : FT (env K gw) NoW 49 [.agg v.cs] s (.agg (bareV v).cs) s := by
  refine FT.pure (fn := Tryd.f49) (F10_ok hK hT) mixed Tryd.func49 (by kernel_rfl) (by rfl) rfl rfl (by simp) rfl fun μ w => ?_
  obtain ⟨b, x, n⟩ := v
  cases b
  all_goals
    repeat' (first
      | refine WP.t ?_ | refine WP.k ?_ | refine WP.e ?_ | refine Qn ?_ | refine Qr ?_ | refine Qe ?_ | refine Bn ?_ | refine Br ?_ | refine Be ?_ | refine Bx (by decide) ?_
      | (refine RS.nl ?_; refine hk _ _ ?_; clear hk k)
      | ((first | refine RS.st fun A B hA hB => ?_ | refine RQ.st fun A B hA hB => ?_); simp [F10, pSym, pInt, ti25, ti4, ti9, ti2, V.cs, onW_t, onW_f, onV_s]; first | ((first | refine hA _ _ _ ?_ ?_ | refine hA _ _ _ ?_ (by first | exact .inl rfl | exact .inr (by decide)) ?_); (focus (simp [F10, pSym, pInt, ti25, ti4, ti9, ti2, V.cs] <;> omega)); clear hA hB A B) | (refine hB ?_; clear hA hB A B) | (refine onV_if ?_ ?_; (focus (first | omega | (refine ⟨?_, ?_⟩ <;> omega))); simp only [onV_s]; (first | refine hA _ _ _ ?_ ?_ | refine hA _ _ _ ?_ (by first | exact .inl rfl | exact .inr (by decide)) ?_); (focus (simp [F10, pSym, pInt, ti25, ti4, ti9, ti2, V.cs] <;> omega)); clear hA hB A B))
      | (refine RQ.nl ?_; refine hk _ _ ?_; clear hk k)
      | refine WP.sr fun k hk => ?_ | refine WP.r fun k hk => ?_
      | refine WP.sd _ rfl fun k hk => ?_ | refine WP.d _ rfl fun k hk => ?_
      | (refine WP.cc fun A B hA hB => ?_; simp [F10, pSym, pInt, ti25, ti4, ti9, ti2, V.cs, onB_t, onB_f]; first | (refine hA ?_; clear hA hB A B) | (refine hB ?_; clear hA hB A B) | (refine onB_if (fun h => hA ?_) (fun h => hB ?_) <;> clear hA hB A B))
      | refine WP.q ?_ | refine WP.b ?_)
    simp [ti25, bareV, V.cs]
def pBare : List AV → Option AV
  | [.agg c] => (decV c).map fun v => .agg (bareV v).cs
  | _ => none
def F11 : Fns := F10.addP 49 pBare
theorem F11_ok (hK : 0 < K) (hT : Tens gw) : FOk (env K gw) F11 := by
  refine (F10_ok hK hT).addP ?_
  intro xs s r h
  unfold pBare at h
  split at h
  · obtain ⟨v, hv, rfl⟩ := Option.map_eq_some_iff.1 h
    rw [decV_eq hv]
    exact ft41 hK hT v
  · cases h
theorem bare_cs_len (v : V) : v.cs.length = 3 := rfl
theorem bare_cs_one (v : V) : v.cs.all AV.one = true := rfl
theorem ft25 (hK : 0 < K) (hT : Tens gw) (l : List V) (hl : l.length < 1073741824) : FT (env K gw) NoW 33 [.sl (l.map V.cs)] s (.sl ((l.map bareV).map V.cs)) s := by
  refine FT.data (fn := Tryd.f33) (F11_ok hK hT) mixed Tryd.func33 (by kernel_rfl) (by rfl) rfl rfl (by simp) rfl fun μ w => ?_
  repeat' (first
    | refine WP.t ?_ | refine WP.k ?_ | refine WP.e ?_ | refine Qn ?_ | refine Qr ?_ | refine Qe ?_ | refine Bn ?_ | refine Br ?_ | refine Be ?_ | refine Bx (by decide) ?_
    | (refine RS.nl ?_; refine hk _ _ ?_; clear hk k)
    | ((first | refine RS.st fun A B hA hB => ?_ | refine RQ.st fun A B hA hB => ?_); simp [abuiltin, alenOk, alen, ti33, onW_t, onW_f, onV_s]; first | ((first | refine hA _ _ _ ?_ ?_ | refine hA _ _ _ ?_ (by first | exact .inl rfl | exact .inr (by decide)) ?_); (focus (simp [abuiltin, alenOk, alen, ti33] <;> omega)); clear hA hB A B) | (refine hB ?_; clear hA hB A B) | (refine onV_if ?_ ?_; (focus (first | omega | (refine ⟨?_, ?_⟩ <;> omega))); simp only [onV_s]; (first | refine hA _ _ _ ?_ ?_ | refine hA _ _ _ ?_ (by first | exact .inl rfl | exact .inr (by decide)) ?_); (focus (simp [abuiltin, alenOk, alen, ti33] <;> omega)); clear hA hB A B))
    | (refine RQ.nl ?_; refine hk _ _ ?_; clear hk k)
    | refine WP.sr fun k hk => ?_ | refine WP.r fun k hk => ?_
    | refine WP.sd _ rfl fun k hk => ?_ | refine WP.d _ rfl fun k hk => ?_
    | (refine WP.cc fun A B hA hB => ?_; simp [abuiltin, alenOk, alen, ti33, onB_t, onB_f]; first | (refine hA ?_; clear hA hB A B) | (refine hB ?_; clear hA hB A B) | (refine onB_if (fun h => hA ?_) (fun h => hB ?_) <;> clear hA hB A B))
    | refine WP.q ?_ | refine WP.b ?_)
  refine WP_loop (fun n T s' => ∃ i : Nat, n + i = l.length ∧ T.get 6 = .sl (l.map V.cs) ∧ T.get 7 = .int .i64 l.length ∧ T.get 8 = .int .i64 i ∧ s.nx ≤ s'.nx ∧
    ((i = 0 ∧ T.get 3 = .nsl) ∨ (0 < i ∧ ∃ rd, s.nx ≤ rd ∧ rd < s'.nx ∧ T.get 3 = .ls rd 0 i ∧ s'.get rd = some (.row 3 (true, 25) (((l.take i).map bareV).map V.cs))))) l.length ⟨0, by simp, by simp, by simp, by simp, by simp, .inl ⟨rfl, by simp⟩⟩ ?_
  rintro n T s' ⟨i, hni, h6, h7, h8, hnx, hB⟩
  by_cases hi : i < l.length
  · have hw : IntKind.i64.wrap ((i : Int) + 1) = (i : Int) + 1 := wrap64 (by omega) (by omega)
    have ha : l[i]? = some l[i] := List.getElem?_eq_getElem hi
    have hlt : ((i : Int) < (l.length : Int)) := by omega
    have htk : l.take (i + 1) = l.take i ++ [l[i]] := List.take_succ_eq_append_getElem hi
    generalize hv : l[i] = v at *
    rcases hB with ⟨rfl, h3⟩ | ⟨hi0, rd, hrd, hrd2, h3, hr⟩
    · skip
      repeat' (first
        | refine WP.t ?_ | refine WP.k ?_ | refine WP.e ?_ | refine Qn ?_ | refine Qr ?_ | refine Qe ?_ | refine Bn ?_ | refine Br ?_ | refine Be ?_ | refine Bx (by decide) ?_
        | (refine RS.nl ?_; refine hk _ _ ?_; clear hk k)
        | ((first | refine RS.st fun A B hA hB => ?_ | refine RQ.st fun A B hA hB => ?_); simp [F11, pBare, decV, h3, h6, h7, h8, hlt, hi, ha, hw, hnx, aindex, elemOfT, elemId, ti33, ti25, V.cs, abuildSlice, afill, chunks, abuiltin, ard, aappend, isSS, AV.isStr, onW_t, onW_f, onV_s]; first | ((first | refine hA _ _ _ ?_ ?_ | refine hA _ _ _ ?_ (by first | exact .inl rfl | exact .inr (by decide)) ?_); (focus (simp [F11, pBare, decV, h3, h6, h7, h8, hlt, hi, ha, hw, hnx, aindex, elemOfT, elemId, ti33, ti25, V.cs, abuildSlice, afill, chunks, abuiltin, ard, aappend, isSS, AV.isStr] <;> omega)); clear hA hB A B) | (refine hB ?_; clear hA hB A B) | (refine onV_if ?_ ?_; (focus (first | omega | (refine ⟨?_, ?_⟩ <;> omega))); simp only [onV_s]; (first | refine hA _ _ _ ?_ ?_ | refine hA _ _ _ ?_ (by first | exact .inl rfl | exact .inr (by decide)) ?_); (focus (simp [F11, pBare, decV, h3, h6, h7, h8, hlt, hi, ha, hw, hnx, aindex, elemOfT, elemId, ti33, ti25, V.cs, abuildSlice, afill, chunks, abuiltin, ard, aappend, isSS, AV.isStr] <;> omega)); clear hA hB A B))
        | (refine RQ.nl ?_; refine hk _ _ ?_; clear hk k)
        | refine WP.sr fun k hk => ?_ | refine WP.r fun k hk => ?_
        | refine WP.sd _ rfl fun k hk => ?_ | refine WP.d _ rfl fun k hk => ?_
        | (refine WP.cc fun A B hA hB => ?_; simp [F11, pBare, decV, h3, h6, h7, h8, hlt, hi, ha, hw, hnx, aindex, elemOfT, elemId, ti33, ti25, V.cs, abuildSlice, afill, chunks, abuiltin, ard, aappend, isSS, AV.isStr, onB_t, onB_f]; first | (refine hA ?_; clear hA hB A B) | (refine hB ?_; clear hA hB A B) | (refine onB_if (fun h => hA ?_) (fun h => hB ?_) <;> clear hA hB A B))
        | refine WP.q ?_ | refine WP.b ?_)
      refine ⟨n - 1, by omega, 1, by omega, by simp [h6], by simp [h7], by simp [wrap64 (x := 1) (by omega) (by omega)], by simp; omega, .inr ⟨by omega, s'.nx + 1, by omega, by simp, by simp, ?_⟩⟩
      rw [htk, ← hv]
      simp [V.cs]
    · have n1 : ¬ rd = s'.nx := by omega
      have n2 : ¬ rd = s'.nx + 1 := by omega
      have hmin : min i l.length = i := by omega
      have hby : (i + 1) * 32 ≤ 140737488355328 := by omega
      repeat' (first
        | refine WP.t ?_ | refine WP.k ?_ | refine WP.e ?_ | refine Qn ?_ | refine Qr ?_ | refine Qe ?_ | refine Bn ?_ | refine Br ?_ | refine Be ?_ | refine Bx (by decide) ?_
        | (refine RS.nl ?_; refine hk _ _ ?_; clear hk k)
        | ((first | refine RS.st fun A B hA hB => ?_ | refine RQ.st fun A B hA hB => ?_); simp [F11, pBare, decV, h3, h6, h7, h8, hlt, hi, ha, hw, hnx, aindex, elemOfT, elemId, ti33, ti25, V.cs, abuildSlice, afill, chunks, abuiltin, ard, aappend, isSS, AV.isStr, hr, n1, n2, hmin, hby, hrd, onW_t, onW_f, onV_s]; first | ((first | refine hA _ _ _ ?_ ?_ | refine hA _ _ _ ?_ (by first | exact .inl rfl | exact .inr (by decide)) ?_); (focus (simp [F11, pBare, decV, h3, h6, h7, h8, hlt, hi, ha, hw, hnx, aindex, elemOfT, elemId, ti33, ti25, V.cs, abuildSlice, afill, chunks, abuiltin, ard, aappend, isSS, AV.isStr, hr, n1, n2, hmin, hby, hrd] <;> omega)); clear hA hB A B) | (refine hB ?_; clear hA hB A B) | (refine onV_if ?_ ?_; (focus (first | omega | (refine ⟨?_, ?_⟩ <;> omega))); simp only [onV_s]; (first | refine hA _ _ _ ?_ ?_ | refine hA _ _ _ ?_ (by first | exact .inl rfl | exact .inr (by decide)) ?_); (focus (simp [F11, pBare, decV, h3, h6, h7, h8, hlt, hi, ha, hw, hnx, aindex, elemOfT, elemId, ti33, ti25, V.cs, abuildSlice, afill, chunks, abuiltin, ard, aappend, isSS, AV.isStr, hr, n1, n2, hmin, hby, hrd] <;> omega)); clear hA hB A B))
        | (refine RQ.nl ?_; refine hk _ _ ?_; clear hk k)
        | refine WP.sr fun k hk => ?_ | refine WP.r fun k hk => ?_
        | refine WP.sd _ rfl fun k hk => ?_ | refine WP.d _ rfl fun k hk => ?_
        | (refine WP.cc fun A B hA hB => ?_; simp [F11, pBare, decV, h3, h6, h7, h8, hlt, hi, ha, hw, hnx, aindex, elemOfT, elemId, ti33, ti25, V.cs, abuildSlice, afill, chunks, abuiltin, ard, aappend, isSS, AV.isStr, hr, n1, n2, hmin, hby, hrd, onB_t, onB_f]; first | (refine hA ?_; clear hA hB A B) | (refine hB ?_; clear hA hB A B) | (refine onB_if (fun h => hA ?_) (fun h => hB ?_) <;> clear hA hB A B))
        | refine WP.q ?_ | refine WP.b ?_)
      refine ⟨n - 1, by omega, i + 1, by omega, by simp [h6], by simp [h7], by simp, by simp; omega, .inr ⟨by omega, s'.nx + 1, by omega, by simp, by simp, ?_⟩⟩
      have e2 : ∀ s2 : St, s2.nx = s'.nx + 1 → ∀ o, (s2.push o).get (s'.nx + 1) = some o := fun s2 h o => by rw [← h]; exact St.get_push_same _ _
      rw [e2 _ (by simp), htk, ← hv]
      simp only [List.map_append, List.map_cons, List.map_nil]
      have e3 : List.map V.cs (List.map bareV (List.take i l)) = List.take i (List.map (V.cs ∘ bareV) l) := by simp
      rw [e3]
      rfl
  · have hlt : ¬ ((i : Int) < (l.length : Int)) := by omega
    have he : i = l.length := by omega
    repeat' (first
      | refine WP.t ?_ | refine WP.k ?_ | refine WP.e ?_ | refine Qn ?_ | refine Qr ?_ | refine Qe ?_ | refine Bn ?_ | refine Br ?_ | refine Be ?_ | refine Bx (by decide) ?_
      | (refine RS.nl ?_; refine hk _ _ ?_; clear hk k)
      | ((first | refine RS.st fun A B hA hB => ?_ | refine RQ.st fun A B hA hB => ?_); simp [h6, h7, h8, hlt, onW_t, onW_f, onV_s]; first | ((first | refine hA _ _ _ ?_ ?_ | refine hA _ _ _ ?_ (by first | exact .inl rfl | exact .inr (by decide)) ?_); (focus (simp [h6, h7, h8, hlt] <;> omega)); clear hA hB A B) | (refine hB ?_; clear hA hB A B) | (refine onV_if ?_ ?_; (focus (first | omega | (refine ⟨?_, ?_⟩ <;> omega))); simp only [onV_s]; (first | refine hA _ _ _ ?_ ?_ | refine hA _ _ _ ?_ (by first | exact .inl rfl | exact .inr (by decide)) ?_); (focus (simp [h6, h7, h8, hlt] <;> omega)); clear hA hB A B))
      | (refine RQ.nl ?_; refine hk _ _ ?_; clear hk k)
      | refine WP.sr fun k hk => ?_ | refine WP.r fun k hk => ?_
      | refine WP.sd _ rfl fun k hk => ?_ | refine WP.d _ rfl fun k hk => ?_
      | (refine WP.cc fun A B hA hB => ?_; simp [h6, h7, h8, hlt, onB_t, onB_f]; first | (refine hA ?_; clear hA hB A B) | (refine hB ?_; clear hA hB A B) | (refine onB_if (fun h => hA ?_) (fun h => hB ?_) <;> clear hA hB A B))
      | refine WP.q ?_ | refine WP.b ?_)
    rcases hB with ⟨h0, h3⟩ | ⟨hi0, rd, hrd, hrd2, h3, hr⟩
    · have : l = [] := List.eq_nil_of_length_eq_zero (by omega)
      subst this
      exact ⟨.inr rfl, .nsl, by simp [h3], .nil⟩
    · have ht : l.take i = l := by rw [he, List.take_length]
      rw [ht] at hr
      refine ⟨.inr rfl, .ls rd 0 i, by simp [h3], ?_⟩
      have hlen : i = (List.map V.cs (List.map bareV l)).length := by simp [he]
      rw [hlen]
      refine .row rd 3 _ _ _ hr hrd rfl (fun e he => ?_) (fun i j y hy => ⟨y, hy⟩) (fun i j x y hx hy => ?_)
      · obtain ⟨v, _, rfl⟩ := List.mem_map.1 he; rfl
      · rw [hx] at hy
        obtain rfl := Option.some.inj hy
        refine .same x ?_
        have : Below s.nx (.sl (List.map V.cs (List.map bareV l))) := by simp [V.cs]
        cases this with
        | sl _ h => exact h i j x hx
def pOf : List AV → Option AV
  | [.sl a] => match decL a with
    | some l => if l.length < 1073741824 then some (.sl ((l.map bareV).map V.cs)) else none
    | none => none
  | _ => none
def F12 : Fns := F11.addP 33 pOf
theorem F12_ok (hK : 0 < K) (hT : Tens gw) : FOk (env K gw) F12 := by
  refine (F11_ok hK hT).addP ?_
  intro xs s r h
  unfold pOf at h
  split at h
  · split at h
    · rename_i l hl
      split at h
      · rename_i hc
        cases h
        rw [decL_eq hl]
        exact ft25 hK hT l hc
      · cases h
    · cases h
  · cases h
end
end Go.Am
namespace Go.Am
open Go.Proofs
section
variable {K : Nat} {gw : World} {s : St}
attribute [local simp] awanted xop zOf zrow aop ev T0 Slots.put Slots.set Slots.get awr WOk AV.may ofConst abinop aint isConst St.get_push St.get_put St.live AV.fit AV.cells AV.one fieldOf afieldAddr aload ofCells astore splice May eqres env_ti FinP FinZ FinW ares aresL ares1 Fns.addP Fns.add Fns.a0 Fns.a1 Fns.a2 Fns.a3 Fns.a4 abuiltin alenOk alen aindex elemOfT elemId abuildSlice afill chunks ard aappend isSS AV.isStr aminmax placesOf abuild afield aidx isStrD isStrDesc astrop aslice asliceOk abound arange anext aextract aunop aeq AV.ck avseq aveq aconv aconvert onB_t onB_f List.range_succ ti0 ti1 ti2 ti3 ti4 ti5 ti6 ti7 ti8 ti9 ti10 ti11 ti12 ti13 ti14 ti15 ti16 ti17 ti18 ti19 ti20 ti21 ti22 ti23 ti24 ti25 ti26 ti27 ti28 ti29 ti30 ti31 ti32 ti33 ti34 ti35 ti36 ti37 ti38 ti39 ti40 ti41 ti42 ti43 ti44 ti45 ti46 ti47 ti48 ti49 ti50 ti51 ti52 ti53 ti54 ti55 ti56 ti57 ti58 ti59 ti60 ti61 ti62 ti63 ti64 ti65 ti66 ti67 ti68 ti69 ti70 ti71 ti72 ti73 ti74 ti75 ti76 ti77 ti78 ti79 ti80 ti81 ti82 ti83 ti84 ti85 ti86 ti87 ti88 ti89 ti90 ti91 ti92 ti93 ti94 ti95 ti96 ti97 ti98 ti99 ti100 ti101 ti102 ti103 ti104 ti105 ti106 ti107 ti108 ti109 ti110 ti111 ti112 ti113 ti114 ti115 ti116 ti117 ti118 ti119 ti120 ti121 ti122 ti123 ti124 ti125 ti126 ti127 ti128 ti129 ti130 ti131 ti132 ti133 ti134 ti135 ti136 ti137 ti138 ti139 ti140 ti141 ti142 ti143 ti144 ti145 ti146 ti147
theorem cmpS_cons (a b : UInt8) (x y : List UInt8) : cmpS (a :: x) (b :: y) = if (a.toNat : Int) < b.toNat then -1 else if (b.toNat : Int) < a.toNat then 1 else cmpS x y := by
  unfold cmpS
  simp only [Op.bytesLess]
  by_cases h : (a.toNat : Int) < b.toNat
  · have : a < b := by rw [UInt8.lt_iff_toNat_lt]; omega
    simp [h, this]
  · have h1 : ¬ a < b := by rw [UInt8.lt_iff_toNat_lt]; omega
    rw [if_neg h]
    by_cases h2 : (b.toNat : Int) < a.toNat
    · have h3 : ¬ a = b := by rintro rfl; omega
      simp [h1, h2, h3]
    · have h3 : a = b := by rw [← UInt8.toNat_inj]; omega
      subst h3
      simp [h1, h2]
theorem cmpS_drop {x y : List UInt8} {i : Nat} (hx : i < x.length) (hy : i < y.length) :
    cmpS (x.drop i) (y.drop i) = if (x[i].toNat : Int) < y[i].toNat then -1 else if (y[i].toNat : Int) < x[i].toNat then 1 else cmpS (x.drop (i + 1)) (y.drop (i + 1)) := by
  rw [List.drop_eq_getElem_cons hx, List.drop_eq_getElem_cons hy, cmpS_cons]
theorem cmpS_end {x y : List UInt8} {i : Nat} (h : i = min x.length y.length) : cmpS (x.drop i) (y.drop i) = cmpI x.length y.length := by
  unfold cmpI
  by_cases h1 : x.length < y.length
  · obtain rfl : i = x.length := by omega
    rw [List.drop_length, if_pos (by omega), List.drop_eq_getElem_cons h1]; rfl
  · by_cases h2 : y.length < x.length
    · obtain rfl : i = y.length := by omega
      rw [List.drop_length, if_neg (by omega), if_pos (by omega), List.drop_eq_getElem_cons h2]; rfl
    · obtain rfl : i = x.length := by omega
      rw [if_neg (by omega), if_neg (by omega)]
      have : x.length = y.length := by omega
      rw [List.drop_length, this, List.drop_length]; rfl
theorem ft49 (x y : List UInt8) (hx : x.length < LIM) (hy : y.length < LIM) : FT (env K gw) NoW 51 [.str x, .str y] s (.int .i64 (cmpS x y)) s := by
  refine FT.pure (fn := Tryd.f51) (F0_ok) mixed Tryd.func51 (by kernel_rfl) (by rfl) rfl rfl (by simp) rfl fun μ w => ?_
  repeat' (first
    | refine WP.t ?_ | refine WP.k ?_ | refine WP.e ?_ | refine Qn ?_ | refine Qr ?_ | refine Qe ?_ | refine Bn ?_ | refine Br ?_ | refine Be ?_ | refine Bx (by decide) ?_
    | (refine RS.nl ?_; refine hk _ _ ?_; clear hk k)
    | ((first | refine RS.st fun A B hA hB => ?_ | refine RQ.st fun A B hA hB => ?_); simp [abuiltin, alenOk, alen, ti9, onW_t, onW_f, onV_s]; first | ((first | refine hA _ _ _ ?_ ?_ | refine hA _ _ _ ?_ (by first | exact .inl rfl | exact .inr (by decide)) ?_); (focus (simp [abuiltin, alenOk, alen, ti9] <;> omega)); clear hA hB A B) | (refine hB ?_; clear hA hB A B) | (refine onV_if ?_ ?_; (focus (first | omega | (refine ⟨?_, ?_⟩ <;> omega))); simp only [onV_s]; (first | refine hA _ _ _ ?_ ?_ | refine hA _ _ _ ?_ (by first | exact .inl rfl | exact .inr (by decide)) ?_); (focus (simp [abuiltin, alenOk, alen, ti9] <;> omega)); clear hA hB A B))
    | (refine RQ.nl ?_; refine hk _ _ ?_; clear hk k)
    | refine WP.sr fun k hk => ?_ | refine WP.r fun k hk => ?_
    | refine WP.sd _ rfl fun k hk => ?_ | refine WP.d _ rfl fun k hk => ?_
    | (refine WP.cc fun A B hA hB => ?_; simp [abuiltin, alenOk, alen, ti9, onB_t, onB_f]; first | (refine hA ?_; clear hA hB A B) | (refine hB ?_; clear hA hB A B) | (refine onB_if (fun h => hA ?_) (fun h => hB ?_) <;> clear hA hB A B))
    | refine WP.q ?_ | refine WP.b ?_)
  refine WP_loop (fun n T s' => ∃ i : Nat, n + i = min x.length y.length ∧ s' = s ∧ T.get 0 = .str x ∧ T.get 1 = .str y ∧ T.get 5 = .int .i64 i ∧ cmpS x y = cmpS (x.drop i) (y.drop i)) (min x.length y.length) ⟨0, by simp, rfl, by simp, by simp, by simp, by simp⟩ ?_
  rintro n T s' ⟨i, hn, rfl, h0, h1, h5, hc⟩
  by_cases hi : i < min x.length y.length
  · have hx' : i < x.length := by omega
    have hy' : i < y.length := by omega
    have hw : IntKind.i64.wrap ((i : Int) + 1) = (i : Int) + 1 := wrap64 (by omega) (by simp only [LIM] at hx; omega)
    have ha : x[i]? = some x[i] := List.getElem?_eq_getElem hx'
    have hb : y[i]? = some y[i] := List.getElem?_eq_getElem hy'
    rw [cmpS_drop hx' hy'] at hc
    repeat' (first
      | refine WP.t ?_ | refine WP.k ?_ | refine WP.e ?_ | refine Qn ?_ | refine Qr ?_ | refine Qe ?_ | refine Bn ?_ | refine Br ?_ | refine Be ?_ | refine Bx (by decide) ?_
      | (refine RS.nl ?_; refine hk _ _ ?_; clear hk k)
      | ((first | refine RS.st fun A B hA hB => ?_ | refine RQ.st fun A B hA hB => ?_); simp [abuiltin, alenOk, alen, ti9, isStrD, aidx, AV.isStr, h0, h1, h5, hx', hy', ha, hb, hw, onW_t, onW_f, onV_s]; first | ((first | refine hA _ _ _ ?_ ?_ | refine hA _ _ _ ?_ (by first | exact .inl rfl | exact .inr (by decide)) ?_); (focus (simp [abuiltin, alenOk, alen, ti9, isStrD, aidx, AV.isStr, h0, h1, h5, hx', hy', ha, hb, hw] <;> omega)); clear hA hB A B) | (refine hB ?_; clear hA hB A B) | (refine onV_if ?_ ?_; (focus (first | omega | (refine ⟨?_, ?_⟩ <;> omega))); simp only [onV_s]; (first | refine hA _ _ _ ?_ ?_ | refine hA _ _ _ ?_ (by first | exact .inl rfl | exact .inr (by decide)) ?_); (focus (simp [abuiltin, alenOk, alen, ti9, isStrD, aidx, AV.isStr, h0, h1, h5, hx', hy', ha, hb, hw] <;> omega)); clear hA hB A B))
      | (refine RQ.nl ?_; refine hk _ _ ?_; clear hk k)
      | refine WP.sr fun k hk => ?_ | refine WP.r fun k hk => ?_
      | refine WP.sd _ rfl fun k hk => ?_ | refine WP.d _ rfl fun k hk => ?_
      | (refine WP.cc fun A B hA hB => ?_; simp [abuiltin, alenOk, alen, ti9, isStrD, aidx, AV.isStr, h0, h1, h5, hx', hy', ha, hb, hw, onB_t, onB_f]; first | (refine hA ?_; clear hA hB A B) | (refine hB ?_; clear hA hB A B) | (refine onB_if (fun h => hA ?_) (fun h => hB ?_) <;> clear hA hB A B))
      | refine WP.q ?_ | refine WP.b ?_)
    · simp at h
      rw [if_pos (by omega)] at hc
      simp [hc]
    · rename_i h'
      simp at h h'
      rw [if_neg (by omega), if_pos (by omega)] at hc
      simp [hc]
    · rename_i h'
      simp at h h'
      rw [if_neg (by omega), if_neg (by omega)] at hc
      exact ⟨n - 1, by omega, i + 1, by omega, rfl, by simp [h0], by simp [h1], by simp, hc⟩
  · have he : i = min x.length y.length := by omega
    rw [cmpS_end he] at hc
    by_cases hx' : i < x.length
    · have hy' : ¬ i < y.length := by omega
      repeat' (first
        | refine WP.t ?_ | refine WP.k ?_ | refine WP.e ?_ | refine Qn ?_ | refine Qr ?_ | refine Qe ?_ | refine Bn ?_ | refine Br ?_ | refine Be ?_ | refine Bx (by decide) ?_
        | (refine RS.nl ?_; refine hk _ _ ?_; clear hk k)
        | ((first | refine RS.st fun A B hA hB => ?_ | refine RQ.st fun A B hA hB => ?_); simp [abuiltin, alenOk, alen, ti9, isStrD, h0, h1, h5, hx', hy', onW_t, onW_f, onV_s]; first | ((first | refine hA _ _ _ ?_ ?_ | refine hA _ _ _ ?_ (by first | exact .inl rfl | exact .inr (by decide)) ?_); (focus (simp [abuiltin, alenOk, alen, ti9, isStrD, h0, h1, h5, hx', hy'] <;> omega)); clear hA hB A B) | (refine hB ?_; clear hA hB A B) | (refine onV_if ?_ ?_; (focus (first | omega | (refine ⟨?_, ?_⟩ <;> omega))); simp only [onV_s]; (first | refine hA _ _ _ ?_ ?_ | refine hA _ _ _ ?_ (by first | exact .inl rfl | exact .inr (by decide)) ?_); (focus (simp [abuiltin, alenOk, alen, ti9, isStrD, h0, h1, h5, hx', hy'] <;> omega)); clear hA hB A B))
        | (refine RQ.nl ?_; refine hk _ _ ?_; clear hk k)
        | refine WP.sr fun k hk => ?_ | refine WP.r fun k hk => ?_
        | refine WP.sd _ rfl fun k hk => ?_ | refine WP.d _ rfl fun k hk => ?_
        | (refine WP.cc fun A B hA hB => ?_; simp [abuiltin, alenOk, alen, ti9, isStrD, h0, h1, h5, hx', hy', onB_t, onB_f]; first | (refine hA ?_; clear hA hB A B) | (refine hB ?_; clear hA hB A B) | (refine onB_if (fun h => hA ?_) (fun h => hB ?_) <;> clear hA hB A B))
        | refine WP.q ?_ | refine WP.b ?_)
      all_goals (simp at *; rw [hc]; unfold cmpI; first | (rw [if_pos (by omega)]; done) | (rw [if_neg (by omega), if_pos (by omega)]; done) | rw [if_neg (by omega), if_neg (by omega)])
    · skip
      repeat' (first
        | refine WP.t ?_ | refine WP.k ?_ | refine WP.e ?_ | refine Qn ?_ | refine Qr ?_ | refine Qe ?_ | refine Bn ?_ | refine Br ?_ | refine Be ?_ | refine Bx (by decide) ?_
        | (refine RS.nl ?_; refine hk _ _ ?_; clear hk k)
        | ((first | refine RS.st fun A B hA hB => ?_ | refine RQ.st fun A B hA hB => ?_); simp [abuiltin, alenOk, alen, ti9, isStrD, h0, h1, h5, hx', onW_t, onW_f, onV_s]; first | ((first | refine hA _ _ _ ?_ ?_ | refine hA _ _ _ ?_ (by first | exact .inl rfl | exact .inr (by decide)) ?_); (focus (simp [abuiltin, alenOk, alen, ti9, isStrD, h0, h1, h5, hx'] <;> omega)); clear hA hB A B) | (refine hB ?_; clear hA hB A B) | (refine onV_if ?_ ?_; (focus (first | omega | (refine ⟨?_, ?_⟩ <;> omega))); simp only [onV_s]; (first | refine hA _ _ _ ?_ ?_ | refine hA _ _ _ ?_ (by first | exact .inl rfl | exact .inr (by decide)) ?_); (focus (simp [abuiltin, alenOk, alen, ti9, isStrD, h0, h1, h5, hx'] <;> omega)); clear hA hB A B))
        | (refine RQ.nl ?_; refine hk _ _ ?_; clear hk k)
        | refine WP.sr fun k hk => ?_ | refine WP.r fun k hk => ?_
        | refine WP.sd _ rfl fun k hk => ?_ | refine WP.d _ rfl fun k hk => ?_
        | (refine WP.cc fun A B hA hB => ?_; simp [abuiltin, alenOk, alen, ti9, isStrD, h0, h1, h5, hx', onB_t, onB_f]; first | (refine hA ?_; clear hA hB A B) | (refine hB ?_; clear hA hB A B) | (refine onB_if (fun h => hA ?_) (fun h => hB ?_) <;> clear hA hB A B))
        | refine WP.q ?_ | refine WP.b ?_)
      all_goals (simp at *; rw [hc]; unfold cmpI; first | (rw [if_pos (by omega)]; done) | (rw [if_neg (by omega), if_pos (by omega)]; done) | rw [if_neg (by omega), if_neg (by omega)])
def pTexts : List AV → Option AV
  | [.str x, .str y] => if x.length < LIM ∧ y.length < LIM then some (.int .i64 (cmpS x y)) else none
  | _ => none
def F14 : Fns := F12.addP 51 pTexts
theorem F14_ok (hK : 0 < K) (hT : Tens gw) : FOk (env K gw) F14 := by
  refine (F12_ok hK hT).addP ?_
  intro xs s r h; unfold pTexts at h; split at h
  · split at h
    · rename_i hl; cases h; exact ft49 _ _ hl.1 hl.2
    · cases h
  · cases h
theorem ft33 (hK : 0 < K) (hT : Tens gw) (v u : V) (hv : v.s.length < LIM) (hu : u.s.length < LIM) : FT (env K gw) NoW 37 [.agg v.cs, .agg u.cs] s (.int .i64 (cmpV v u)) s := by
  refine FT.pure (fn := Tryd.f37) (F14_ok hK hT) mixed Tryd.func37 (by kernel_rfl) (by rfl) rfl rfl (by simp) rfl fun μ w => ?_
  obtain ⟨b, x, n⟩ := v
  obtain ⟨b', x', n'⟩ := u
  simp only at hv hu
  cases b <;> cases b'
  all_goals
    repeat' (first
      | refine WP.t ?_ | refine WP.k ?_ | refine WP.e ?_ | refine Qn ?_ | refine Qr ?_ | refine Qe ?_ | refine Bn ?_ | refine Br ?_ | refine Be ?_ | refine Bx (by decide) ?_
      | (refine RS.nl ?_; refine hk _ _ ?_; clear hk k)
      | ((first | refine RS.st fun A B hA hB => ?_ | refine RQ.st fun A B hA hB => ?_); simp [F14, pTexts, hv, hu, ti25, ti4, ti9, ti2, V.cs, aeq, onW_t, onW_f, onV_s]; first | ((first | refine hA _ _ _ ?_ ?_ | refine hA _ _ _ ?_ (by first | exact .inl rfl | exact .inr (by decide)) ?_); (focus (simp [F14, pTexts, hv, hu, ti25, ti4, ti9, ti2, V.cs, aeq] <;> omega)); clear hA hB A B) | (refine hB ?_; clear hA hB A B) | (refine onV_if ?_ ?_; (focus (first | omega | (refine ⟨?_, ?_⟩ <;> omega))); simp only [onV_s]; (first | refine hA _ _ _ ?_ ?_ | refine hA _ _ _ ?_ (by first | exact .inl rfl | exact .inr (by decide)) ?_); (focus (simp [F14, pTexts, hv, hu, ti25, ti4, ti9, ti2, V.cs, aeq] <;> omega)); clear hA hB A B))
      | (refine RQ.nl ?_; refine hk _ _ ?_; clear hk k)
      | refine WP.sr fun k hk => ?_ | refine WP.r fun k hk => ?_
      | refine WP.sd _ rfl fun k hk => ?_ | refine WP.d _ rfl fun k hk => ?_
      | (refine WP.cc fun A B hA hB => ?_; simp [F14, pTexts, hv, hu, ti25, ti4, ti9, ti2, V.cs, aeq, onB_t, onB_f]; first | (refine hA ?_; clear hA hB A B) | (refine hB ?_; clear hA hB A B) | (refine onB_if (fun h => hA ?_) (fun h => hB ?_) <;> clear hA hB A B))
      | refine WP.q ?_ | refine WP.b ?_)
  all_goals (simp at *; try simp [cmpV, cmpI]; try omega)
def pComp : List AV → Option AV
  | [.agg a, .agg b] => match decV a, decV b with
    | some v, some u => if v.s.length < LIM ∧ u.s.length < LIM then some (.int .i64 (cmpV v u)) else none
    | _, _ => none
  | _ => none
def F15 : Fns := F14.addP 37 pComp
theorem F15_ok (hK : 0 < K) (hT : Tens gw) : FOk (env K gw) F15 := by
  refine (F14_ok hK hT).addP ?_
  intro xs s r h; unfold pComp at h; split at h
  · split at h
    · rename_i h1 h2
      split at h
      · rename_i hl; cases h; rw [decV_eq h1, decV_eq h2]; exact ft33 hK hT _ _ hl.1 hl.2
      · cases h
    · cases h
  · cases h
theorem ft15 (hK : 0 < K) (hT : Tens gw) (v u : V) (hv : v.s.length < LIM) (hu : u.s.length < LIM) : FT (env K gw) NoW 36 [.agg v.cs, .agg u.cs] s (.bool (cmpV v u == 0)) s := by
  refine FT.pure (fn := Tryd.f36) (F15_ok hK hT) mixed Tryd.func36 (by kernel_rfl) (by rfl) rfl rfl (by simp) rfl fun μ w => ?_
  obtain ⟨b, x, n⟩ := v
  obtain ⟨b', x', n'⟩ := u
  simp only at hv hu
  repeat' (first
    | refine WP.t ?_ | refine WP.k ?_ | refine WP.e ?_ | refine Qn ?_ | refine Qr ?_ | refine Qe ?_ | refine Bn ?_ | refine Br ?_ | refine Be ?_ | refine Bx (by decide) ?_
    | (refine RS.nl ?_; refine hk _ _ ?_; clear hk k)
    | ((first | refine RS.st fun A B hA hB => ?_ | refine RQ.st fun A B hA hB => ?_); simp [F15, pComp, decV, hv, hu, ti25, ti4, ti9, ti2, V.cs, aeq, onW_t, onW_f, onV_s]; first | ((first | refine hA _ _ _ ?_ ?_ | refine hA _ _ _ ?_ (by first | exact .inl rfl | exact .inr (by decide)) ?_); (focus (simp [F15, pComp, decV, hv, hu, ti25, ti4, ti9, ti2, V.cs, aeq] <;> omega)); clear hA hB A B) | (refine hB ?_; clear hA hB A B) | (refine onV_if ?_ ?_; (focus (first | omega | (refine ⟨?_, ?_⟩ <;> omega))); simp only [onV_s]; (first | refine hA _ _ _ ?_ ?_ | refine hA _ _ _ ?_ (by first | exact .inl rfl | exact .inr (by decide)) ?_); (focus (simp [F15, pComp, decV, hv, hu, ti25, ti4, ti9, ti2, V.cs, aeq] <;> omega)); clear hA hB A B))
    | (refine RQ.nl ?_; refine hk _ _ ?_; clear hk k)
    | refine WP.sr fun k hk => ?_ | refine WP.r fun k hk => ?_
    | refine WP.sd _ rfl fun k hk => ?_ | refine WP.d _ rfl fun k hk => ?_
    | (refine WP.cc fun A B hA hB => ?_; simp [F15, pComp, decV, hv, hu, ti25, ti4, ti9, ti2, V.cs, aeq, onB_t, onB_f]; first | (refine hA ?_; clear hA hB A B) | (refine hB ?_; clear hA hB A B) | (refine onB_if (fun h => hA ?_) (fun h => hB ?_) <;> clear hA hB A B))
    | refine WP.q ?_ | refine WP.b ?_)
  simp
def pSameV : List AV → Option AV
  | [.agg a, .agg b] => match decV a, decV b with
    | some v, some u => if v.s.length < LIM ∧ u.s.length < LIM then some (.bool (cmpV v u == 0)) else none
    | _, _ => none
  | _ => none
def F16 : Fns := F15.addP 36 pSameV
theorem F16_ok (hK : 0 < K) (hT : Tens gw) : FOk (env K gw) F16 := by
  refine (F15_ok hK hT).addP ?_
  intro xs s r h; unfold pSameV at h; split at h
  · split at h
    · rename_i h1 h2
      split at h
      · rename_i hl; cases h; rw [decV_eq h1, decV_eq h2]; exact ft15 hK hT _ _ hl.1 hl.2
      · cases h
    · cases h
  · cases h
end
end Go.Am
namespace Go.Am
open Go.Proofs
section
variable {K : Nat} {gw : World} {s : St}
attribute [local simp] awanted xop zOf zrow aop ev T0 Slots.put Slots.set Slots.get awr WOk AV.may ofConst abinop aint isConst St.get_push St.get_put St.live AV.fit AV.cells AV.one fieldOf afieldAddr aload ofCells astore splice May eqres env_ti FinP FinZ FinW ares aresL ares1 Fns.addP Fns.add Fns.a0 Fns.a1 Fns.a2 Fns.a3 Fns.a4 abuiltin alenOk alen aindex elemOfT elemId abuildSlice afill chunks ard aappend isSS AV.isStr aminmax placesOf abuild afield aidx isStrD isStrDesc astrop aslice asliceOk abound arange anext aextract aunop aeq AV.ck avseq aveq aconv aconvert onB_t onB_f List.range_succ ti0 ti1 ti2 ti3 ti4 ti5 ti6 ti7 ti8 ti9 ti10 ti11 ti12 ti13 ti14 ti15 ti16 ti17 ti18 ti19 ti20 ti21 ti22 ti23 ti24 ti25 ti26 ti27 ti28 ti29 ti30 ti31 ti32 ti33 ti34 ti35 ti36 ti37 ti38 ti39 ti40 ti41 ti42 ti43 ti44 ti45 ti46 ti47 ti48 ti49 ti50 ti51 ti52 ti53 ti54 ti55 ti56 ti57 ti58 ti59 ti60 ti61 ti62 ti63 ti64 ti65 ti66 ti67 ti68 ti69 ti70 ti71 ti72 ti73 ti74 ti75 ti76 ti77 ti78 ti79 ti80 ti81 ti82 ti83 ti84 ti85 ti86 ti87 ti88 ti89 ti90 ti91 ti92 ti93 ti94 ti95 ti96 ti97 ti98 ti99 ti100 ti101 ti102 ti103 ti104 ti105 ti106 ti107 ti108 ti109 ti110 ti111 ti112 ti113 ti114 ti115 ti116 ti117 ti118 ti119 ti120 ti121 ti122 ti123 ti124 ti125 ti126 ti127 ti128 ti129 ti130 ti131 ti132 ti133 ti134 ti135 ti136 ti137 ti138 ti139 ti140 ti141 ti142 ti143 ti144 ti145 ti146 ti147
theorem V.ext' {v u : V} (h1 : v.b = u.b) (h2 : v.s = u.s) (h3 : v.n = u.n) : v = u := by cases v; cases u; simp at h1 h2 h3; simp [*]
theorem kV : kindsT (env K gw) 9 25 = some [CK.b, CK.s, CK.i] := by simp [kindsT, kindsD, kindsFs, env_ti, ti25, ti4, ti9, ti2]
open Classical in
theorem ft14 (x y : List V) (hx : x.length < LIM) (hy : y.length < LIM) : FT (env K gw) NoW 20 [.sl (x.map V.cs), .sl (y.map V.cs)] s (.bool (decide (x = y))) s := by
  refine FT.pure (fn := Tryd.f20) F0_ok mixed Tryd.func20 (by kernel_rfl) (by rfl) rfl rfl (by simp) rfl fun μ w => ?_
  by_cases hl : x.length = y.length
  · skip
    repeat' (first
      | refine WP.t ?_ | refine WP.k ?_ | refine WP.e ?_ | refine Qn ?_ | refine Qr ?_ | refine Qe ?_ | refine Bn ?_ | refine Br ?_ | refine Be ?_ | refine Bx (by decide) ?_
      | (refine RS.nl ?_; refine hk _ _ ?_; clear hk k)
      | ((first | refine RS.st fun A B hA hB => ?_ | refine RQ.st fun A B hA hB => ?_); simp [abuiltin, alenOk, alen, ti33, hl, onW_t, onW_f, onV_s]; first | ((first | refine hA _ _ _ ?_ ?_ | refine hA _ _ _ ?_ (by first | exact .inl rfl | exact .inr (by decide)) ?_); (focus (simp [abuiltin, alenOk, alen, ti33, hl] <;> omega)); clear hA hB A B) | (refine hB ?_; clear hA hB A B) | (refine onV_if ?_ ?_; (focus (first | omega | (refine ⟨?_, ?_⟩ <;> omega))); simp only [onV_s]; (first | refine hA _ _ _ ?_ ?_ | refine hA _ _ _ ?_ (by first | exact .inl rfl | exact .inr (by decide)) ?_); (focus (simp [abuiltin, alenOk, alen, ti33, hl] <;> omega)); clear hA hB A B))
      | (refine RQ.nl ?_; refine hk _ _ ?_; clear hk k)
      | refine WP.sr fun k hk => ?_ | refine WP.r fun k hk => ?_
      | refine WP.sd _ rfl fun k hk => ?_ | refine WP.d _ rfl fun k hk => ?_
      | (refine WP.cc fun A B hA hB => ?_; simp [abuiltin, alenOk, alen, ti33, hl, onB_t, onB_f]; first | (refine hA ?_; clear hA hB A B) | (refine hB ?_; clear hA hB A B) | (refine onB_if (fun h => hA ?_) (fun h => hB ?_) <;> clear hA hB A B))
      | refine WP.q ?_ | refine WP.b ?_)
    refine WP_loop (fun n T s' => ∃ i : Nat, n + i = x.length ∧ s' = s ∧ T.get 0 = .sl (x.map V.cs) ∧ T.get 1 = .sl (y.map V.cs) ∧ T.get 5 = .int .i64 i ∧ x.take i = y.take i) x.length ⟨0, by simp, rfl, by simp, by simp, by simp, by simp⟩ ?_
    rintro n T s' ⟨i, hn, rfl, h0, h1, h5, hc⟩
    by_cases hi : i < x.length
    · have hi' : i < y.length := by omega
      have hw : IntKind.i64.wrap ((i : Int) + 1) = (i : Int) + 1 := wrap64 (by omega) (by simp only [LIM] at hx; omega)
      have ha : x[i]? = some x[i] := List.getElem?_eq_getElem hi
      have hb : y[i]? = some y[i] := List.getElem?_eq_getElem hi'
      have t1 : x.take (i + 1) = x.take i ++ [x[i]] := List.take_succ_eq_append_getElem hi
      have t2 : y.take (i + 1) = y.take i ++ [y[i]] := List.take_succ_eq_append_getElem hi'
      repeat' (first
        | refine WP.t ?_ | refine WP.k ?_ | refine WP.e ?_ | refine Qn ?_ | refine Qr ?_ | refine Qe ?_ | refine Bn ?_ | refine Br ?_ | refine Be ?_ | refine Bx (by decide) ?_
        | (refine RS.nl ?_; refine hk _ _ ?_; clear hk k)
        | ((first | refine RS.st fun A B hA hB => ?_ | refine RQ.st fun A B hA hB => ?_); simp [abuiltin, alenOk, alen, ti33, ti25, h0, h1, h5, hi, hi', ha, hb, hw, V.cs, aindex, elemOfT, aeq, kV, AV.ck, avseq, aveq, onW_t, onW_f, onV_s]; first | ((first | refine hA _ _ _ ?_ ?_ | refine hA _ _ _ ?_ (by first | exact .inl rfl | exact .inr (by decide)) ?_); (focus (simp [abuiltin, alenOk, alen, ti33, ti25, h0, h1, h5, hi, hi', ha, hb, hw, V.cs, aindex, elemOfT, aeq, kV, AV.ck, avseq, aveq] <;> omega)); clear hA hB A B) | (refine hB ?_; clear hA hB A B) | (refine onV_if ?_ ?_; (focus (first | omega | (refine ⟨?_, ?_⟩ <;> omega))); simp only [onV_s]; (first | refine hA _ _ _ ?_ ?_ | refine hA _ _ _ ?_ (by first | exact .inl rfl | exact .inr (by decide)) ?_); (focus (simp [abuiltin, alenOk, alen, ti33, ti25, h0, h1, h5, hi, hi', ha, hb, hw, V.cs, aindex, elemOfT, aeq, kV, AV.ck, avseq, aveq] <;> omega)); clear hA hB A B))
        | (refine RQ.nl ?_; refine hk _ _ ?_; clear hk k)
        | refine WP.sr fun k hk => ?_ | refine WP.r fun k hk => ?_
        | refine WP.sd _ rfl fun k hk => ?_ | refine WP.d _ rfl fun k hk => ?_
        | (refine WP.cc fun A B hA hB => ?_; simp [abuiltin, alenOk, alen, ti33, ti25, h0, h1, h5, hi, hi', ha, hb, hw, V.cs, aindex, elemOfT, aeq, kV, AV.ck, avseq, aveq, onB_t, onB_f]; first | (refine hA ?_; clear hA hB A B) | (refine hB ?_; clear hA hB A B) | (refine onB_if (fun h => hA ?_) (fun h => hB ?_) <;> clear hA hB A B))
        | refine WP.q ?_ | refine WP.b ?_)
      · have hne : ¬ x = y := by
          intro e
          have : x[i] = y[i] := by simp only [e]
          rw [this] at h
          simp at h
        simp [hne]
      · have he : x[i] = y[i] := by
          simp at h
          exact V.ext' h.1 h.2.1 h.2.2
        exact ⟨n - 1, by omega, i + 1, by omega, rfl, by simp [h0], by simp [h1], by simp, by rw [t1, t2, hc, he]⟩
    · have he : x = y := by
        have e1 : i = x.length := by omega
        have e2 : i = y.length := by omega
        have h3 : x.take i = x := by rw [e1, List.take_length]
        have h4 : y.take i = y := by rw [e2, List.take_length]
        rw [← h3, ← h4, hc]
      have hi' : ¬ i < y.length := by omega
      repeat' (first
        | refine WP.t ?_ | refine WP.k ?_ | refine WP.e ?_ | refine Qn ?_ | refine Qr ?_ | refine Qe ?_ | refine Bn ?_ | refine Br ?_ | refine Be ?_ | refine Bx (by decide) ?_
        | (refine RS.nl ?_; refine hk _ _ ?_; clear hk k)
        | ((first | refine RS.st fun A B hA hB => ?_ | refine RQ.st fun A B hA hB => ?_); simp [abuiltin, alenOk, alen, ti33, h0, h1, h5, hi, hi', onW_t, onW_f, onV_s]; first | ((first | refine hA _ _ _ ?_ ?_ | refine hA _ _ _ ?_ (by first | exact .inl rfl | exact .inr (by decide)) ?_); (focus (simp [abuiltin, alenOk, alen, ti33, h0, h1, h5, hi, hi'] <;> omega)); clear hA hB A B) | (refine hB ?_; clear hA hB A B) | (refine onV_if ?_ ?_; (focus (first | omega | (refine ⟨?_, ?_⟩ <;> omega))); simp only [onV_s]; (first | refine hA _ _ _ ?_ ?_ | refine hA _ _ _ ?_ (by first | exact .inl rfl | exact .inr (by decide)) ?_); (focus (simp [abuiltin, alenOk, alen, ti33, h0, h1, h5, hi, hi'] <;> omega)); clear hA hB A B))
        | (refine RQ.nl ?_; refine hk _ _ ?_; clear hk k)
        | refine WP.sr fun k hk => ?_ | refine WP.r fun k hk => ?_
        | refine WP.sd _ rfl fun k hk => ?_ | refine WP.d _ rfl fun k hk => ?_
        | (refine WP.cc fun A B hA hB => ?_; simp [abuiltin, alenOk, alen, ti33, h0, h1, h5, hi, hi', onB_t, onB_f]; first | (refine hA ?_; clear hA hB A B) | (refine hB ?_; clear hA hB A B) | (refine onB_if (fun h => hA ?_) (fun h => hB ?_) <;> clear hA hB A B))
        | refine WP.q ?_ | refine WP.b ?_)
      simp [he]
  · have hl' : ¬ y.length = x.length := fun e => hl e.symm
    have hne : ¬ x = y := by rintro rfl; exact hl rfl
    have hb : ((x.length : Int) != (y.length : Int)) = true := by rw [bne_iff_ne]; omega
    repeat' (first
      | refine WP.t ?_ | refine WP.k ?_ | refine WP.e ?_ | refine Qn ?_ | refine Qr ?_ | refine Qe ?_ | refine Bn ?_ | refine Br ?_ | refine Be ?_ | refine Bx (by decide) ?_
      | (refine RS.nl ?_; refine hk _ _ ?_; clear hk k)
      | ((first | refine RS.st fun A B hA hB => ?_ | refine RQ.st fun A B hA hB => ?_); simp [abuiltin, alenOk, alen, ti33, hl, hl', hb, onW_t, onW_f, onV_s]; first | ((first | refine hA _ _ _ ?_ ?_ | refine hA _ _ _ ?_ (by first | exact .inl rfl | exact .inr (by decide)) ?_); (focus (simp [abuiltin, alenOk, alen, ti33, hl, hl', hb] <;> omega)); clear hA hB A B) | (refine hB ?_; clear hA hB A B) | (refine onV_if ?_ ?_; (focus (first | omega | (refine ⟨?_, ?_⟩ <;> omega))); simp only [onV_s]; (first | refine hA _ _ _ ?_ ?_ | refine hA _ _ _ ?_ (by first | exact .inl rfl | exact .inr (by decide)) ?_); (focus (simp [abuiltin, alenOk, alen, ti33, hl, hl', hb] <;> omega)); clear hA hB A B))
      | (refine RQ.nl ?_; refine hk _ _ ?_; clear hk k)
      | refine WP.sr fun k hk => ?_ | refine WP.r fun k hk => ?_
      | refine WP.sd _ rfl fun k hk => ?_ | refine WP.d _ rfl fun k hk => ?_
      | (refine WP.cc fun A B hA hB => ?_; simp [abuiltin, alenOk, alen, ti33, hl, hl', hb, onB_t, onB_f]; first | (refine hA ?_; clear hA hB A B) | (refine hB ?_; clear hA hB A B) | (refine onB_if (fun h => hA ?_) (fun h => hB ?_) <;> clear hA hB A B))
      | refine WP.q ?_ | refine WP.b ?_)
    simp [hne]
open Classical in
noncomputable def pSameT : List AV → Option AV
  | [.sl a, .sl b] => match decL a, decL b with
    | some x, some y => if x.length < LIM ∧ y.length < LIM then some (.bool (decide (x = y))) else none
    | _, _ => none
  | _ => none
noncomputable def F17 : Fns := F16.addP 20 pSameT
theorem F17_ok (hK : 0 < K) (hT : Tens gw) : FOk (env K gw) F17 := by
  refine (F16_ok hK hT).addP ?_
  intro xs s r h; unfold pSameT at h; split at h
  · split at h
    · rename_i h1 h2
      split at h
      · rename_i hl; cases h; rw [decL_eq h1, decL_eq h2]; exact ft14 _ _ hl.1 hl.2
      · cases h
    · cases h
  · cases h
end
end Go.Am
