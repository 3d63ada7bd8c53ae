/- Part of the proof: abstract values over the given model of Go (Ti, U1, U2, B1, U3). Conditions: none of its own; see the statement in the seat's Rows text. -/
import Derived.Test.YtkfociekgeldnaaDoorAmFour
import Derived.Test.YtkfociekgeldnaaDoorRows
import Derived.Lib.LaidTab
import Derived.Lib.AppendIntMem
set_option linter.unusedSimpArgs false
set_option linter.unusedVariables false
set_option linter.unusedSectionVars false
namespace Go.Am
open Go.Proofs
theorem ti0 : tiOf Tryd.prog 0 = some ({ size := 1, bytes := 0, agg := false, zero := [.tuple #[]], desc := .tuple #[], held := false, guarded := false } : TI) := by kernel_rfl
theorem ti1 : tiOf Tryd.prog 1 = some ({ size := 1, bytes := 8, agg := false, zero := [.nilFunc], desc := .func #[] #[] false, held := false, guarded := false } : TI) := by kernel_rfl
theorem ti2 : tiOf Tryd.prog 2 = some ({ size := 1, bytes := 8, agg := false, zero := [.int .i64 0], desc := .int .i64, held := false, guarded := false } : TI) := by kernel_rfl
theorem ti3 : tiOf Tryd.prog 3 = some ({ size := 1, bytes := 8, agg := false, zero := [.int .i64 0], desc := .int .i64, held := false, guarded := false } : TI) := by kernel_rfl
theorem ti4 : tiOf Tryd.prog 4 = some ({ size := 1, bytes := 1, agg := false, zero := [.bool false], desc := .bool, held := false, guarded := false } : TI) := by kernel_rfl
theorem ti5 : tiOf Tryd.prog 5 = some ({ size := 1, bytes := 1, agg := false, zero := [.int .u8 0], desc := .int .u8, held := false, guarded := false } : TI) := by kernel_rfl
theorem ti6 : tiOf Tryd.prog 6 = some ({ size := 1, bytes := 1, agg := false, zero := [.int .u8 0], desc := .int .u8, held := false, guarded := false } : TI) := by kernel_rfl
theorem ti7 : tiOf Tryd.prog 7 = some ({ size := 4, bytes := 24, agg := true, zero := [.int .i64 0, .int .i64 0, .bool false, .int .u8 0], desc := .struct #[{ name := "x", type := 2, offset := 0, embedded := false, tag := "", pkgPath := "runtime", byteOffset := 0 }, { name := "y", type := 3, offset := 1, embedded := false, tag := "", pkgPath := "runtime", byteOffset := 8 }, { name := "signed", type := 4, offset := 2, embedded := false, tag := "", pkgPath := "runtime", byteOffset := 16 }, { name := "code", type := 6, offset := 3, embedded := false, tag := "", pkgPath := "runtime", byteOffset := 17 }], held := false, guarded := false } : TI) := by kernel_rfl
theorem ti8 : tiOf Tryd.prog 8 = some ({ size := 4, bytes := 24, agg := true, zero := [.int .i64 0, .int .i64 0, .bool false, .int .u8 0], desc := .struct #[{ name := "x", type := 2, offset := 0, embedded := false, tag := "", pkgPath := "runtime", byteOffset := 0 }, { name := "y", type := 3, offset := 1, embedded := false, tag := "", pkgPath := "runtime", byteOffset := 8 }, { name := "signed", type := 4, offset := 2, embedded := false, tag := "", pkgPath := "runtime", byteOffset := 16 }, { name := "code", type := 6, offset := 3, embedded := false, tag := "", pkgPath := "runtime", byteOffset := 17 }], held := false, guarded := false } : TI) := by kernel_rfl
theorem ti9 : tiOf Tryd.prog 9 = some ({ size := 1, bytes := 16, agg := false, zero := [.string { data := #[] }], desc := .string, held := false, guarded := false } : TI) := by kernel_rfl
theorem ti10 : tiOf Tryd.prog 10 = some ({ size := 1, bytes := 16, agg := false, zero := [.string { data := #[] }], desc := .string, held := false, guarded := false } : TI) := by kernel_rfl
theorem ti11 : tiOf Tryd.prog 11 = some ({ size := 1, bytes := 16, agg := false, zero := [.string { data := #[] }], desc := .string, held := false, guarded := false } : TI) := by kernel_rfl
theorem ti12 : tiOf Tryd.prog 12 = some ({ size := 1, bytes := 8, agg := false, zero := [.int .u64 0], desc := .int .u64, held := false, guarded := false } : TI) := by kernel_rfl
theorem ti13 : tiOf Tryd.prog 13 = some ({ size := 2, bytes := 24, agg := true, zero := [.string { data := #[] }, .int .u64 0], desc := .struct #[{ name := "msg", type := 9, offset := 0, embedded := false, tag := "", pkgPath := "runtime", byteOffset := 0 }, { name := "addr", type := 12, offset := 1, embedded := false, tag := "", pkgPath := "runtime", byteOffset := 16 }], held := true, guarded := false } : TI) := by kernel_rfl
theorem ti14 : tiOf Tryd.prog 14 = some ({ size := 2, bytes := 24, agg := true, zero := [.string { data := #[] }, .int .u64 0], desc := .struct #[{ name := "msg", type := 9, offset := 0, embedded := false, tag := "", pkgPath := "runtime", byteOffset := 0 }, { name := "addr", type := 12, offset := 1, embedded := false, tag := "", pkgPath := "runtime", byteOffset := 16 }], held := true, guarded := false } : TI) := by kernel_rfl
theorem ti15 : tiOf Tryd.prog 15 = some ({ size := 1, bytes := 8, agg := false, zero := [.pointer none], desc := .pointer 128, held := false, guarded := false } : TI) := by kernel_rfl
theorem ti16 : tiOf Tryd.prog 16 = some ({ size := 1, bytes := 8, agg := false, zero := [.pointer none], desc := .pointer 131, held := false, guarded := false } : TI) := by kernel_rfl
theorem ti17 : tiOf Tryd.prog 17 = some ({ size := 1, bytes := 8, agg := false, zero := [.pointer none], desc := .pointer 139, held := false, guarded := false } : TI) := by kernel_rfl
theorem ti18 : tiOf Tryd.prog 18 = some ({ size := 1, bytes := 8, agg := true, zero := [.pointer none], desc := .struct #[{ name := "typ", type := 17, offset := 0, embedded := false, tag := "", pkgPath := "internal/runtime/maps", byteOffset := 0 }], held := true, guarded := false } : TI) := by kernel_rfl
theorem ti19 : tiOf Tryd.prog 19 = some ({ size := 1, bytes := 8, agg := true, zero := [.pointer none], desc := .struct #[{ name := "typ", type := 17, offset := 0, embedded := false, tag := "", pkgPath := "internal/runtime/maps", byteOffset := 0 }], held := true, guarded := false } : TI) := by kernel_rfl
theorem ti20 : tiOf Tryd.prog 20 = some ({ size := 1, bytes := 16, agg := false, zero := [.nilIface], desc := .interface #[], held := false, guarded := false } : TI) := by kernel_rfl
theorem ti21 : tiOf Tryd.prog 21 = some ({ size := 1, bytes := 4, agg := false, zero := [.int .i32 0], desc := .int .i32, held := false, guarded := false } : TI) := by kernel_rfl
theorem ti22 : tiOf Tryd.prog 22 = some ({ size := 1, bytes := 8, agg := false, zero := [.nilFunc], desc := .func #[] #[4] false, held := false, guarded := false } : TI) := by kernel_rfl
theorem ti23 : tiOf Tryd.prog 23 = some ({ size := 1, bytes := 24, agg := false, zero := [.slice none 0 0], desc := .slice 38, held := false, guarded := false } : TI) := by kernel_rfl
theorem ti24 : tiOf Tryd.prog 24 = some ({ size := 1, bytes := 8, agg := false, zero := [.int .i64 0], desc := .int .i64, held := false, guarded := false } : TI) := by kernel_rfl
theorem ti25 : tiOf Tryd.prog 25 = some ({ size := 1, bytes := 0, agg := false, zero := [.tuple #[.slice none 0 0, .int .i64 0, .int .i64 0]], desc := .tuple #[23, 3, 24], held := false, guarded := false } : TI) := by kernel_rfl
theorem ti26 : tiOf Tryd.prog 26 = some ({ size := 1, bytes := 8, agg := false, zero := [.nilFunc], desc := .func #[9] #[23, 3, 24] false, held := false, guarded := false } : TI) := by kernel_rfl
theorem ti27 : tiOf Tryd.prog 27 = some ({ size := 1, bytes := 0, agg := false, zero := [.tuple #[.slice none 0 0, .int .i64 0, .int .i64 0]], desc := .tuple #[23, 3, 3], held := false, guarded := false } : TI) := by kernel_rfl
theorem ti28 : tiOf Tryd.prog 28 = some ({ size := 1, bytes := 8, agg := false, zero := [.nilFunc], desc := .func #[9] #[23, 3, 3] false, held := false, guarded := false } : TI) := by kernel_rfl
theorem ti29 : tiOf Tryd.prog 29 = some ({ size := 1, bytes := 8, agg := false, zero := [.nilFunc], desc := .func #[23, 23] #[4] false, held := false, guarded := false } : TI) := by kernel_rfl
theorem ti30 : tiOf Tryd.prog 30 = some ({ size := 1, bytes := 8, agg := false, zero := [.nilFunc], desc := .func #[9] #[4] false, held := false, guarded := false } : TI) := by kernel_rfl
theorem ti31 : tiOf Tryd.prog 31 = some ({ size := 1, bytes := 0, agg := false, zero := [.tuple #[.int .i64 0, .int .i64 0]], desc := .tuple #[3, 24], held := false, guarded := false } : TI) := by kernel_rfl
theorem ti32 : tiOf Tryd.prog 32 = some ({ size := 1, bytes := 8, agg := false, zero := [.nilFunc], desc := .func #[23] #[3, 24] false, held := false, guarded := false } : TI) := by kernel_rfl
theorem ti33 : tiOf Tryd.prog 33 = some ({ size := 1, bytes := 0, agg := false, zero := [.tuple #[.int .i64 0, .int .i64 0]], desc := .tuple #[3, 3], held := false, guarded := false } : TI) := by kernel_rfl
theorem ti34 : tiOf Tryd.prog 34 = some ({ size := 1, bytes := 8, agg := false, zero := [.nilFunc], desc := .func #[23] #[3, 3] false, held := false, guarded := false } : TI) := by kernel_rfl
theorem ti35 : tiOf Tryd.prog 35 = some ({ size := 1, bytes := 8, agg := false, zero := [.nilFunc], desc := .func #[23] #[4] false, held := false, guarded := false } : TI) := by kernel_rfl
theorem ti36 : tiOf Tryd.prog 36 = some ({ size := 1, bytes := 8, agg := false, zero := [.nilFunc], desc := .func #[38] #[4] false, held := false, guarded := false } : TI) := by kernel_rfl
theorem ti37 : tiOf Tryd.prog 37 = some ({ size := 8, bytes := 96, agg := true, zero := [.int .i64 0, .string { data := #[] }, .string { data := #[] }, .string { data := #[] }, .string { data := #[] }, .int .i64 0, .int .i64 0, .int .i64 0], desc := .struct #[{ name := "Kind", type := 3, offset := 0, embedded := false, tag := "", pkgPath := "", byteOffset := 0 }, { name := "X", type := 9, offset := 1, embedded := false, tag := "", pkgPath := "", byteOffset := 8 }, { name := "Y", type := 9, offset := 2, embedded := false, tag := "", pkgPath := "", byteOffset := 24 }, { name := "Z", type := 9, offset := 3, embedded := false, tag := "", pkgPath := "", byteOffset := 40 }, { name := "Op", type := 9, offset := 4, embedded := false, tag := "", pkgPath := "", byteOffset := 56 }, { name := "N", type := 2, offset := 5, embedded := false, tag := "", pkgPath := "", byteOffset := 72 }, { name := "A", type := 3, offset := 6, embedded := false, tag := "", pkgPath := "", byteOffset := 80 }, { name := "B", type := 3, offset := 7, embedded := false, tag := "", pkgPath := "", byteOffset := 88 }], held := false, guarded := false } : TI) := by kernel_rfl
theorem ti38 : tiOf Tryd.prog 38 = some ({ size := 8, bytes := 96, agg := true, zero := [.int .i64 0, .string { data := #[] }, .string { data := #[] }, .string { data := #[] }, .string { data := #[] }, .int .i64 0, .int .i64 0, .int .i64 0], desc := .struct #[{ name := "Kind", type := 3, offset := 0, embedded := false, tag := "", pkgPath := "", byteOffset := 0 }, { name := "X", type := 9, offset := 1, embedded := false, tag := "", pkgPath := "", byteOffset := 8 }, { name := "Y", type := 9, offset := 2, embedded := false, tag := "", pkgPath := "", byteOffset := 24 }, { name := "Z", type := 9, offset := 3, embedded := false, tag := "", pkgPath := "", byteOffset := 40 }, { name := "Op", type := 9, offset := 4, embedded := false, tag := "", pkgPath := "", byteOffset := 56 }, { name := "N", type := 2, offset := 5, embedded := false, tag := "", pkgPath := "", byteOffset := 72 }, { name := "A", type := 3, offset := 6, embedded := false, tag := "", pkgPath := "", byteOffset := 80 }, { name := "B", type := 3, offset := 7, embedded := false, tag := "", pkgPath := "", byteOffset := 88 }], held := false, guarded := false } : TI) := by kernel_rfl
theorem ti39 : tiOf Tryd.prog 39 = some ({ size := 1, bytes := 0, agg := false, zero := [.tuple { toList := [.string { data := #[] }, .int .i64 0] }], desc := .tuple #[9, 24], held := false, guarded := false } : TI) := by kernel_rfl
theorem ti40 : tiOf Tryd.prog 40 = some ({ size := 1, bytes := 8, agg := false, zero := [.nilFunc], desc := .func #[23] #[9, 24] false, held := false, guarded := false } : TI) := by kernel_rfl
theorem ti41 : tiOf Tryd.prog 41 = some ({ size := 1, bytes := 0, agg := false, zero := [.tuple { toList := [.string { data := #[] }, .int .i64 0] }], desc := .tuple #[9, 3], held := false, guarded := false } : TI) := by kernel_rfl
theorem ti42 : tiOf Tryd.prog 42 = some ({ size := 1, bytes := 8, agg := false, zero := [.nilFunc], desc := .func #[23] #[9, 3] false, held := false, guarded := false } : TI) := by kernel_rfl
theorem ti43 : tiOf Tryd.prog 43 = some ({ size := 1, bytes := 8, agg := false, zero := [.nilFunc], desc := .func #[23, 9] #[4] false, held := false, guarded := false } : TI) := by kernel_rfl
theorem ti44 : tiOf Tryd.prog 44 = some ({ size := 1, bytes := 8, agg := false, zero := [.nilFunc], desc := .func #[23, 9, 5] #[4] false, held := false, guarded := false } : TI) := by kernel_rfl
theorem ti45 : tiOf Tryd.prog 45 = some ({ size := 1, bytes := 24, agg := false, zero := [.slice none 0 0], desc := .slice 9, held := false, guarded := false } : TI) := by kernel_rfl
theorem ti46 : tiOf Tryd.prog 46 = some ({ size := 1, bytes := 8, agg := false, zero := [.nilFunc], desc := .func #[9, 9] #[45] false, held := false, guarded := false } : TI) := by kernel_rfl
theorem ti47 : tiOf Tryd.prog 47 = some ({ size := 1, bytes := 8, agg := false, zero := [.nilFunc], desc := .func #[45] #[38] false, held := false, guarded := false } : TI) := by kernel_rfl
theorem ti48 : tiOf Tryd.prog 48 = some ({ size := 1, bytes := 8, agg := false, zero := [.nilFunc], desc := .func #[9, 9] #[9] false, held := false, guarded := false } : TI) := by kernel_rfl
theorem ti49 : tiOf Tryd.prog 49 = some ({ size := 1, bytes := 8, agg := false, zero := [.nilFunc], desc := .func #[38] #[9] false, held := false, guarded := false } : TI) := by kernel_rfl
theorem ti50 : tiOf Tryd.prog 50 = some ({ size := 1, bytes := 8, agg := false, zero := [.nilFunc], desc := .func #[9] #[38] false, held := false, guarded := false } : TI) := by kernel_rfl
theorem ti51 : tiOf Tryd.prog 51 = some ({ size := 1, bytes := 8, agg := false, zero := [.nilFunc], desc := .func #[38, 3, 3] #[4] false, held := false, guarded := false } : TI) := by kernel_rfl
theorem ti52 : tiOf Tryd.prog 52 = some ({ size := 1, bytes := 8, agg := false, zero := [.nilFunc], desc := .func #[45] #[4] true, held := false, guarded := false } : TI) := by kernel_rfl
theorem ti53 : tiOf Tryd.prog 53 = some ({ size := 1, bytes := 8, agg := false, zero := [.nilFunc], desc := .func #[3] #[4] false, held := false, guarded := false } : TI) := by kernel_rfl
theorem ti54 : tiOf Tryd.prog 54 = some ({ size := 1, bytes := 8, agg := false, zero := [.nilFunc], desc := .func #[38] #[38] false, held := false, guarded := false } : TI) := by kernel_rfl
theorem ti55 : tiOf Tryd.prog 55 = some ({ size := 1, bytes := 8, agg := false, zero := [.pointer none], desc := .pointer 58, held := false, guarded := false } : TI) := by kernel_rfl
theorem ti56 : tiOf Tryd.prog 56 = some ({ size := 1, bytes := 24, agg := false, zero := [.slice none 0 0], desc := .slice 5, held := false, guarded := false } : TI) := by kernel_rfl
theorem ti57 : tiOf Tryd.prog 57 = some ({ size := 2, bytes := 32, agg := true, zero := [.pointer none, .slice none 0 0], desc := .struct #[{ name := "addr", type := 55, offset := 0, embedded := false, tag := "", pkgPath := "strings", byteOffset := 0 }, { name := "buf", type := 56, offset := 1, embedded := false, tag := "", pkgPath := "strings", byteOffset := 8 }], held := false, guarded := false } : TI) := by kernel_rfl
theorem ti58 : tiOf Tryd.prog 58 = some ({ size := 2, bytes := 32, agg := true, zero := [.pointer none, .slice none 0 0], desc := .struct #[{ name := "addr", type := 55, offset := 0, embedded := false, tag := "", pkgPath := "strings", byteOffset := 0 }, { name := "buf", type := 56, offset := 1, embedded := false, tag := "", pkgPath := "strings", byteOffset := 8 }], held := false, guarded := false } : TI) := by kernel_rfl
theorem ti59 : tiOf Tryd.prog 59 = some ({ size := 1, bytes := 16, agg := false, zero := [.nilIface], desc := .interface #[("Error", 63)], held := false, guarded := false } : TI) := by kernel_rfl
theorem ti60 : tiOf Tryd.prog 60 = some ({ size := 1, bytes := 16, agg := false, zero := [.nilIface], desc := .interface #[("Error", 63)], held := false, guarded := false } : TI) := by kernel_rfl
theorem ti61 : tiOf Tryd.prog 61 = some ({ size := 1, bytes := 0, agg := false, zero := [.tuple #[.int .i64 0, .nilIface]], desc := .tuple #[3, 60], held := false, guarded := false } : TI) := by kernel_rfl
theorem ti62 : tiOf Tryd.prog 62 = some ({ size := 1, bytes := 8, agg := false, zero := [.nilFunc], desc := .func #[9] #[3, 60] false, held := false, guarded := false } : TI) := by kernel_rfl
theorem ti63 : tiOf Tryd.prog 63 = some ({ size := 1, bytes := 8, agg := false, zero := [.nilFunc], desc := .func #[] #[9] false, held := false, guarded := false } : TI) := by kernel_rfl
theorem ti64 : tiOf Tryd.prog 64 = some ({ size := 1, bytes := 8, agg := false, zero := [.nilFunc], desc := .func #[9, 45] #[4] false, held := false, guarded := false } : TI) := by kernel_rfl
theorem ti65 : tiOf Tryd.prog 65 = some ({ size := 1, bytes := 8, agg := false, zero := [.nilFunc], desc := .func #[9, 9, 3, 3] #[45] false, held := false, guarded := false } : TI) := by kernel_rfl
theorem ti66 : tiOf Tryd.prog 66 = some ({ size := 1, bytes := 8, agg := false, zero := [.nilFunc], desc := .func #[45, 45] #[4] true, held := false, guarded := false } : TI) := by kernel_rfl
theorem ti67 : tiOf Tryd.prog 67 = some ({ size := 1, bytes := 8, agg := false, zero := [.nilFunc], desc := .func #[9] #[2] false, held := false, guarded := false } : TI) := by kernel_rfl
theorem ti68 : tiOf Tryd.prog 68 = some ({ size := 1, bytes := 8, agg := false, zero := [.nilFunc], desc := .func #[45] #[9] true, held := false, guarded := false } : TI) := by kernel_rfl
theorem ti69 : tiOf Tryd.prog 69 = some ({ size := 1, bytes := 8, agg := false, zero := [.nilFunc], desc := .func #[2, 3] #[9] false, held := false, guarded := false } : TI) := by kernel_rfl
theorem ti70 : tiOf Tryd.prog 70 = some ({ size := 1, bytes := 8, agg := false, zero := [.nilFunc], desc := .func #[3] #[9] false, held := false, guarded := false } : TI) := by kernel_rfl
theorem ti71 : tiOf Tryd.prog 71 = some ({ size := 1, bytes := 8, agg := false, zero := [.nilFunc], desc := .func #[9] #[45] false, held := false, guarded := false } : TI) := by kernel_rfl
theorem ti72 : tiOf Tryd.prog 72 = some ({ size := 1, bytes := 8, agg := false, zero := [.nilFunc], desc := .func #[45, 3] #[9] false, held := false, guarded := false } : TI) := by kernel_rfl
theorem ti73 : tiOf Tryd.prog 73 = some ({ size := 1, bytes := 8, agg := false, zero := [.nilFunc], desc := .func #[2] #[9] false, held := false, guarded := false } : TI) := by kernel_rfl
theorem ti74 : tiOf Tryd.prog 74 = some ({ size := 1, bytes := 8, agg := false, zero := [.nilFunc], desc := .func #[9, 9] #[4] false, held := false, guarded := false } : TI) := by kernel_rfl
theorem ti75 : tiOf Tryd.prog 75 = some ({ size := 1, bytes := 8, agg := false, zero := [.pointer none], desc := .pointer 5, held := false, guarded := false } : TI) := by kernel_rfl
theorem ti76 : tiOf Tryd.prog 76 = some ({ size := 1, bytes := 8, agg := false, zero := [.nilFunc], desc := .func #[21] #[4] false, held := false, guarded := false } : TI) := by kernel_rfl
theorem ti77 : tiOf Tryd.prog 77 = some ({ size := 1, bytes := 8, agg := false, zero := [.nilFunc], desc := .func #[9, 3] #[45] false, held := false, guarded := false } : TI) := by kernel_rfl
theorem ti78 : tiOf Tryd.prog 78 = some ({ size := 1, bytes := 8, agg := false, zero := [.nilFunc], desc := .func #[9, 9] #[3] false, held := false, guarded := false } : TI) := by kernel_rfl
theorem ti79 : tiOf Tryd.prog 79 = some ({ size := 1, bytes := 0, agg := false, zero := [.tuple #[.int .i64 0, .nilIface]], desc := .tuple #[2, 60], held := false, guarded := false } : TI) := by kernel_rfl
theorem ti80 : tiOf Tryd.prog 80 = some ({ size := 1, bytes := 8, agg := false, zero := [.nilFunc], desc := .func #[9, 3, 3] #[2, 60] false, held := false, guarded := false } : TI) := by kernel_rfl
theorem ti81 : tiOf Tryd.prog 81 = some ({ size := 1, bytes := 8, agg := false, zero := [.nilFunc], desc := .func #[45, 9] #[9] false, held := false, guarded := false } : TI) := by kernel_rfl
theorem ti82 : tiOf Tryd.prog 82 = some ({ size := 1, bytes := 8, agg := false, zero := [.pointer none], desc := .unsafePointer, held := false, guarded := false } : TI) := by kernel_rfl
theorem ti83 : tiOf Tryd.prog 83 = some ({ size := 1, bytes := 8, agg := false, zero := [.nilFunc], desc := .func #[82] #[82] false, held := false, guarded := false } : TI) := by kernel_rfl
theorem ti84 : tiOf Tryd.prog 84 = some ({ size := 1, bytes := 8, agg := false, zero := [.nilFunc], desc := .func #[9] #[3] false, held := false, guarded := false } : TI) := by kernel_rfl
theorem ti85 : tiOf Tryd.prog 85 = some ({ size := 1, bytes := 0, agg := false, zero := [.tuple #[.int .i32 0, .int .i64 0]], desc := .tuple #[21, 3], held := false, guarded := false } : TI) := by kernel_rfl
theorem ti86 : tiOf Tryd.prog 86 = some ({ size := 1, bytes := 8, agg := false, zero := [.nilFunc], desc := .func #[9] #[21, 3] false, held := false, guarded := false } : TI) := by kernel_rfl
theorem ti87 : tiOf Tryd.prog 87 = some ({ size := 1, bytes := 8, agg := false, zero := [.nilFunc], desc := .func #[9, 5] #[3] false, held := false, guarded := false } : TI) := by kernel_rfl
theorem ti88 : tiOf Tryd.prog 88 = some ({ size := 1, bytes := 8, agg := false, zero := [.nilFunc], desc := .func #[9, 9, 3, 3, 60] #[60] false, held := false, guarded := false } : TI) := by kernel_rfl
theorem ti89 : tiOf Tryd.prog 89 = some ({ size := 1, bytes := 8, agg := false, zero := [.nilFunc], desc := .func #[3] #[] false, held := false, guarded := false } : TI) := by kernel_rfl
theorem ti90 : tiOf Tryd.prog 90 = some ({ size := 24, bytes := 24, agg := true, zero := [.int .u8 0, .int .u8 0, .int .u8 0, .int .u8 0, .int .u8 0, .int .u8 0, .int .u8 0, .int .u8 0, .int .u8 0, .int .u8 0, .int .u8 0, .int .u8 0, .int .u8 0, .int .u8 0, .int .u8 0, .int .u8 0, .int .u8 0, .int .u8 0, .int .u8 0, .int .u8 0, .int .u8 0, .int .u8 0, .int .u8 0, .int .u8 0], desc := .array 24 5, held := false, guarded := false } : TI) := by kernel_rfl
theorem ti91 : tiOf Tryd.prog 91 = some ({ size := 1, bytes := 8, agg := false, zero := [.int .u64 0], desc := .int .u64, held := false, guarded := false } : TI) := by kernel_rfl
theorem ti92 : tiOf Tryd.prog 92 = some ({ size := 1, bytes := 8, agg := false, zero := [.nilFunc], desc := .func #[91] #[3] false, held := false, guarded := false } : TI) := by kernel_rfl
theorem ti93 : tiOf Tryd.prog 93 = some ({ size := 1, bytes := 8, agg := false, zero := [.nilFunc], desc := .func #[56, 91] #[] false, held := false, guarded := false } : TI) := by kernel_rfl
theorem ti94 : tiOf Tryd.prog 94 = some ({ size := 1, bytes := 0, agg := false, zero := [.tuple { toList := [.slice none 0 0, .string { data := #[] }] }], desc := .tuple #[56, 9], held := false, guarded := false } : TI) := by kernel_rfl
theorem ti95 : tiOf Tryd.prog 95 = some ({ size := 1, bytes := 8, agg := false, zero := [.nilFunc], desc := .func #[56, 91, 3, 4, 4] #[56, 9] false, held := false, guarded := false } : TI) := by kernel_rfl
theorem ti96 : tiOf Tryd.prog 96 = some ({ size := 1, bytes := 8, agg := false, zero := [.nilFunc], desc := .func #[3] #[3] false, held := false, guarded := false } : TI) := by kernel_rfl
theorem ti97 : tiOf Tryd.prog 97 = some ({ size := 1, bytes := 8, agg := false, zero := [.int .u64 0], desc := .int .u64, held := false, guarded := false } : TI) := by kernel_rfl
theorem ti98 : tiOf Tryd.prog 98 = some ({ size := 1, bytes := 8, agg := false, zero := [.int .i64 0], desc := .int .i64, held := false, guarded := false } : TI) := by kernel_rfl
theorem ti99 : tiOf Tryd.prog 99 = some ({ size := 1, bytes := 0, agg := false, zero := [.tuple #[.int .u64 0, .nilIface]], desc := .tuple #[91, 60], held := false, guarded := false } : TI) := by kernel_rfl
theorem ti100 : tiOf Tryd.prog 100 = some ({ size := 1, bytes := 8, agg := false, zero := [.nilFunc], desc := .func #[9, 3, 3] #[91, 60] false, held := false, guarded := false } : TI) := by kernel_rfl
theorem ti101 : tiOf Tryd.prog 101 = some ({ size := 1, bytes := 8, agg := false, zero := [.pointer none], desc := .pointer 118, held := false, guarded := false } : TI) := by kernel_rfl
end Go.Am
namespace Go.Am
open Go.Proofs
noncomputable def env (K : Nat) (gw : World) : Env := { P := Tryd.prog, K := K, gw := gw, ti := tiOf Tryd.prog, tok := fun _ _ h => h, glob := fun _ => [], gok := fun g j x h => by simp at h }
section
variable {K : Nat} {gw : World} {s : St}
theorem mixed0 : Tryd.prog.follows .mixedOrders = true := by kernel_rfl
theorem env_P : (env K gw).P = Tryd.prog := rfl
theorem mixed : (env K gw).P.follows .mixedOrders = true := @mixed_of (env K gw) Tryd.prog env_P mixed0
theorem env_ti' : (env K gw).ti = tiOf Tryd.prog := by simp only [env]
theorem env_ti (t : TypeId) : (env K gw).ti t = tiOf Tryd.prog t := congrFun env_ti' t
theorem fnOk {E : Env} {P : Program} {f : FuncId} {fn : Func} (hP : E.P = P) (h : P.funcs[f]? = some fn) (h1 : (fn.name == "runtime.NumGoroutine") = false) (h2 : fn.body.isNone = false) : FnOk E.P f := ⟨fn, by rw [hP]; exact h, h1, h2⟩
/-- What the library's variables hold. -/
structure GW (K : Nat) (gw : World) : Prop where
  big : 5 < K
  max : ∃ m, gw.cell? ⟨0, 0, none⟩ = some (.int .i64 m)
  tens : Lib.TabIs Tryd.prog gw "internal/strconv.uint64pow10" .u64 Lib.pow10Tab
  syn : ∃ te pe, gw.cell? ⟨4, 0, none⟩ = some (.iface te pe)
  rng : ∃ te pe, gw.cell? ⟨5, 0, none⟩ = some (.iface te pe)
theorem cell_gl {μ : Mu} {w : World} (hR : Rel (env K gw) μ s w) {g : Nat} (hg : g < K) : w.cell? ⟨g, 0, none⟩ = gw.cell? ⟨g, 0, none⟩ := World.cell?_block (hR.gl g hg)
theorem eq_comm_nil : True := trivial
attribute [local simp] awanted xop zOf zrow aop ev T0 Slots.put Slots.set Slots.get awr WOk AV.may ofConst abinop aint isConst St.get_push St.get_put St.live AV.fit AV.cells AV.one fieldOf afieldAddr aload ofCells astore splice May eqres env_ti FinP FinZ FinW ares aresL ares1 Fns.addP Fns.add Fns.a0 Fns.a1 Fns.a2 Fns.a3 Fns.a4 abuiltin alenOk alen aindex elemOfT elemId abuildSlice afill chunks ard aappend isSS AV.isStr aminmax placesOf abuild afield aidx isStrD isStrDesc astrop aslice asliceOk abound arange anext aextract aunop aeq AV.ck avseq aveq aconv aconvert onB_t onB_f List.range_succ ti0 ti1 ti2 ti3 ti4 ti5 ti6 ti7 ti8 ti9 ti10 ti11 ti12 ti13 ti14 ti15 ti16 ti17 ti18 ti19 ti20 ti21 ti22 ti23 ti24 ti25 ti26 ti27 ti28 ti29 ti30 ti31 ti32 ti33 ti34 ti35 ti36 ti37 ti38 ti39 ti40 ti41 ti42 ti43 ti44 ti45 ti46 ti47 ti48 ti49 ti50 ti51 ti52 ti53 ti54 ti55 ti56 ti57 ti58 ti59 ti60 ti61 ti62 ti63 ti64 ti65 ti66 ti67 ti68 ti69 ti70 ti71 ti72 ti73 ti74 ti75 ti76 ti77 ti78 ti79 ti80 ti81 ti82 ti83 ti84 ti85 ti86 ti87 ti88 ti89 ti90 ti91 ti92 ti93 ti94 ti95 ti96 ti97 ti98 ti99 ti100 ti101
abbrev Str := List UInt8
abbrev LIM : Nat := 4611686018427387904
def smallB (b : UInt8) : Bool := decide (97 ≤ b.toNat) && decide (b.toNat ≤ 122)
def wordB (b : UInt8) : Bool := smallB b || (decide (65 ≤ b.toNat) && decide (b.toNat ≤ 90)) || (decide (48 ≤ b.toNat) && decide (b.toNat ≤ 57)) || decide (b.toNat = 95)
def smallI (c : Int) : Bool := decide (97 ≤ c) && decide (c ≤ 122)
def wordI (c : Int) : Bool := smallI c || (decide (65 ≤ c) && decide (c ≤ 90)) || (decide (48 ≤ c) && decide (c ≤ 57)) || c == 95
theorem smallI_B (b : UInt8) : smallI (b.toNat : Int) = smallB b := by
  simp only [smallI, smallB]; congr 1 <;> (apply decide_eq_decide.2; omega)
theorem wordI_B (b : UInt8) : wordI (b.toNat : Int) = wordB b := by
  simp only [wordI, wordB, smallI_B]
  congr 1
  · congr 1
    · congr 2 <;> (apply decide_eq_decide.2; omega)
    · congr 1 <;> (apply decide_eq_decide.2; omega)
  · rw [Bool.eq_iff_iff]; simp; omega
theorem ft_small (c : Int) : FT (env K gw) NoW 54 [.int .i32 c] s (.bool (smallI c)) s := by
  refine FT.pure (fn := Tryd.f54) F0_ok mixed Tryd.func54 (by kernel_rfl) (by rfl) rfl rfl (by simp) rfl fun μ w => ?_
  by_cases h1 : 97 ≤ c
  · skip
    repeat' (first
      | refine WP.t ?_ | refine WP.k ?_ | refine WP.e ?_ | refine Qn ?_ | refine Qr ?_ | refine Qe ?_ | refine Bn ?_ | refine Br ?_ | refine Be ?_ | refine Bx (by decide) ?_
      | (refine RS.nl ?_; refine hk _ _ ?_; clear hk k)
      | (refine RS.st fun A B hA hB => ?_; simp [h1, onW_t, onW_f, onV_s]; first | (refine hA _ _ _ ?_ ?_; (focus (first | (simp [h1]; done) | (simp [h1]; omega))); clear hA hB A B) | (refine hB ?_; clear hA hB A B) | (refine onV_if ?_ ?_; (focus (first | omega | (refine ⟨?_, ?_⟩ <;> omega))); simp only [onV_s]; refine hA _ _ _ ?_ ?_; (focus (first | (simp [h1]; done) | (simp [h1]; omega))); clear hA hB A B))
      | (refine RQ.nl ?_; refine hk _ _ ?_; clear hk k)
      | (refine RQ.st fun A B hA hB => ?_; simp [h1, onW_t, onW_f, onV_s]; first | (refine hA _ _ _ ?_ (by first | exact .inl rfl | exact .inr (by decide)) ?_; (focus (first | (simp [h1]; done) | (simp [h1]; omega))); clear hA hB A B) | (refine hB ?_; clear hA hB A B) | (refine onV_if ?_ ?_; (focus (first | omega | (refine ⟨?_, ?_⟩ <;> omega))); simp only [onV_s]; refine hA _ _ _ ?_ (by first | exact .inl rfl | exact .inr (by decide)) ?_; (focus (first | (simp [h1]; done) | (simp [h1]; omega))); clear hA hB A B))
      | refine WP.sr fun k hk => ?_ | refine WP.r fun k hk => ?_
      | refine WP.sd _ rfl fun k hk => ?_ | refine WP.d _ rfl fun k hk => ?_
      | (refine WP.cc fun A B hA hB => ?_; simp [h1, onB_t, onB_f]; first | (refine hA ?_; clear hA hB A B) | (refine hB ?_; clear hA hB A B) | (refine onB_if (fun h => hA ?_) (fun h => hB ?_) <;> clear hA hB A B))
      | refine WP.q ?_ | refine WP.b ?_)
    simp [smallI, h1]
  · skip
    repeat' (first
      | refine WP.t ?_ | refine WP.k ?_ | refine WP.e ?_ | refine Qn ?_ | refine Qr ?_ | refine Qe ?_ | refine Bn ?_ | refine Br ?_ | refine Be ?_ | refine Bx (by decide) ?_
      | (refine RS.nl ?_; refine hk _ _ ?_; clear hk k)
      | (refine RS.st fun A B hA hB => ?_; simp [h1, onW_t, onW_f, onV_s]; first | (refine hA _ _ _ ?_ ?_; (focus (first | (simp [h1]; done) | (simp [h1]; omega))); clear hA hB A B) | (refine hB ?_; clear hA hB A B) | (refine onV_if ?_ ?_; (focus (first | omega | (refine ⟨?_, ?_⟩ <;> omega))); simp only [onV_s]; refine hA _ _ _ ?_ ?_; (focus (first | (simp [h1]; done) | (simp [h1]; omega))); clear hA hB A B))
      | (refine RQ.nl ?_; refine hk _ _ ?_; clear hk k)
      | (refine RQ.st fun A B hA hB => ?_; simp [h1, onW_t, onW_f, onV_s]; first | (refine hA _ _ _ ?_ (by first | exact .inl rfl | exact .inr (by decide)) ?_; (focus (first | (simp [h1]; done) | (simp [h1]; omega))); clear hA hB A B) | (refine hB ?_; clear hA hB A B) | (refine onV_if ?_ ?_; (focus (first | omega | (refine ⟨?_, ?_⟩ <;> omega))); simp only [onV_s]; refine hA _ _ _ ?_ (by first | exact .inl rfl | exact .inr (by decide)) ?_; (focus (first | (simp [h1]; done) | (simp [h1]; omega))); clear hA hB A B))
      | refine WP.sr fun k hk => ?_ | refine WP.r fun k hk => ?_
      | refine WP.sd _ rfl fun k hk => ?_ | refine WP.d _ rfl fun k hk => ?_
      | (refine WP.cc fun A B hA hB => ?_; simp [h1, onB_t, onB_f]; first | (refine hA ?_; clear hA hB A B) | (refine hB ?_; clear hA hB A B) | (refine onB_if (fun h => hA ?_) (fun h => hB ?_) <;> clear hA hB A B))
      | refine WP.q ?_ | refine WP.b ?_)
    simp [smallI, h1]
def FA : Fns := F0.a1 54 (vInt .i32) fun c => some (.bool (smallI c))
theorem FA_ok : FOk (env K gw) FA := F0_ok.a1 fun a s r h => by cases h; exact ft_small a
theorem ft_word (c : Int) : FT (env K gw) NoW 55 [.int .i32 c] s (.bool (wordI c)) s := by
  refine FT.pure (fn := Tryd.f55) FA_ok mixed Tryd.func55 (by kernel_rfl) (by rfl) rfl rfl (by simp) rfl fun μ w => ?_
  by_cases h1 : smallI c = true
  · skip
    repeat' (first
      | refine WP.t ?_ | refine WP.k ?_ | refine WP.e ?_ | refine Qn ?_ | refine Qr ?_ | refine Qe ?_ | refine Bn ?_ | refine Br ?_ | refine Be ?_ | refine Bx (by decide) ?_
      | (refine RS.nl ?_; refine hk _ _ ?_; clear hk k)
      | (refine RS.st fun A B hA hB => ?_; simp [FA, h1, onW_t, onW_f, onV_s]; first | (refine hA _ _ _ ?_ ?_; (focus (first | (simp [FA, h1]; done) | (simp [FA, h1]; omega))); clear hA hB A B) | (refine hB ?_; clear hA hB A B) | (refine onV_if ?_ ?_; (focus (first | omega | (refine ⟨?_, ?_⟩ <;> omega))); simp only [onV_s]; refine hA _ _ _ ?_ ?_; (focus (first | (simp [FA, h1]; done) | (simp [FA, h1]; omega))); clear hA hB A B))
      | (refine RQ.nl ?_; refine hk _ _ ?_; clear hk k)
      | (refine RQ.st fun A B hA hB => ?_; simp [FA, h1, onW_t, onW_f, onV_s]; first | (refine hA _ _ _ ?_ (by first | exact .inl rfl | exact .inr (by decide)) ?_; (focus (first | (simp [FA, h1]; done) | (simp [FA, h1]; omega))); clear hA hB A B) | (refine hB ?_; clear hA hB A B) | (refine onV_if ?_ ?_; (focus (first | omega | (refine ⟨?_, ?_⟩ <;> omega))); simp only [onV_s]; refine hA _ _ _ ?_ (by first | exact .inl rfl | exact .inr (by decide)) ?_; (focus (first | (simp [FA, h1]; done) | (simp [FA, h1]; omega))); clear hA hB A B))
      | refine WP.sr fun k hk => ?_ | refine WP.r fun k hk => ?_
      | refine WP.sd _ rfl fun k hk => ?_ | refine WP.d _ rfl fun k hk => ?_
      | (refine WP.cc fun A B hA hB => ?_; simp [FA, h1, onB_t, onB_f]; first | (refine hA ?_; clear hA hB A B) | (refine hB ?_; clear hA hB A B) | (refine onB_if (fun h => hA ?_) (fun h => hB ?_) <;> clear hA hB A B))
      | refine WP.q ?_ | refine WP.b ?_)
    simp [wordI, h1]
  · simp only [Bool.not_eq_true] at h1
    by_cases h2 : 65 ≤ c <;> by_cases h3 : c ≤ 90 <;> by_cases h4 : 48 ≤ c <;> by_cases h5 : c ≤ 57
    all_goals
      repeat' (first
        | refine WP.t ?_ | refine WP.k ?_ | refine WP.e ?_ | refine Qn ?_ | refine Qr ?_ | refine Qe ?_ | refine Bn ?_ | refine Br ?_ | refine Be ?_ | refine Bx (by decide) ?_
        | (refine RS.nl ?_; refine hk _ _ ?_; clear hk k)
        | (refine RS.st fun A B hA hB => ?_; simp [FA, h1, h2, h3, h4, h5, onW_t, onW_f, onV_s]; first | (refine hA _ _ _ ?_ ?_; (focus (first | (simp [FA, h1, h2, h3, h4, h5]; done) | (simp [FA, h1, h2, h3, h4, h5]; omega))); clear hA hB A B) | (refine hB ?_; clear hA hB A B) | (refine onV_if ?_ ?_; (focus (first | omega | (refine ⟨?_, ?_⟩ <;> omega))); simp only [onV_s]; refine hA _ _ _ ?_ ?_; (focus (first | (simp [FA, h1, h2, h3, h4, h5]; done) | (simp [FA, h1, h2, h3, h4, h5]; omega))); clear hA hB A B))
        | (refine RQ.nl ?_; refine hk _ _ ?_; clear hk k)
        | (refine RQ.st fun A B hA hB => ?_; simp [FA, h1, h2, h3, h4, h5, onW_t, onW_f, onV_s]; first | (refine hA _ _ _ ?_ (by first | exact .inl rfl | exact .inr (by decide)) ?_; (focus (first | (simp [FA, h1, h2, h3, h4, h5]; done) | (simp [FA, h1, h2, h3, h4, h5]; omega))); clear hA hB A B) | (refine hB ?_; clear hA hB A B) | (refine onV_if ?_ ?_; (focus (first | omega | (refine ⟨?_, ?_⟩ <;> omega))); simp only [onV_s]; refine hA _ _ _ ?_ (by first | exact .inl rfl | exact .inr (by decide)) ?_; (focus (first | (simp [FA, h1, h2, h3, h4, h5]; done) | (simp [FA, h1, h2, h3, h4, h5]; omega))); clear hA hB A B))
        | refine WP.sr fun k hk => ?_ | refine WP.r fun k hk => ?_
        | refine WP.sd _ rfl fun k hk => ?_ | refine WP.d _ rfl fun k hk => ?_
        | (refine WP.cc fun A B hA hB => ?_; simp [FA, h1, h2, h3, h4, h5, onB_t, onB_f]; first | (refine hA ?_; clear hA hB A B) | (refine hB ?_; clear hA hB A B) | (refine onB_if (fun h => hA ?_) (fun h => hB ?_) <;> clear hA hB A B))
        | refine WP.q ?_ | refine WP.b ?_)
      simp [wordI, h1, h2, h3, h4, h5]
      try omega
def FB : Fns := FA.a1 55 (vInt .i32) fun c => some (.bool (wordI c))
theorem FB_ok : FOk (env K gw) FB := FA_ok.a1 fun a s r h => by cases h; exact ft_word a
end
end Go.Am
namespace Go.Am
open Go.Proofs
section
variable {K : Nat} {gw : World} {s : St}
attribute [local simp] awanted xop zOf zrow aop ev T0 Slots.put Slots.set Slots.get awr WOk AV.may ofConst abinop aint isConst St.get_push St.get_put St.live AV.fit AV.cells AV.one fieldOf afieldAddr aload ofCells astore splice May eqres env_ti FinP FinZ FinW ares aresL ares1 Fns.addP Fns.add Fns.a0 Fns.a1 Fns.a2 Fns.a3 Fns.a4 abuiltin alenOk alen aindex elemOfT elemId abuildSlice afill chunks ard aappend isSS AV.isStr aminmax placesOf abuild afield aidx isStrD isStrDesc astrop aslice asliceOk abound arange anext aextract aunop aeq AV.ck avseq aveq aconv aconvert onB_t onB_f List.range_succ ti0 ti1 ti2 ti3 ti4 ti5 ti6 ti7 ti8 ti9 ti10 ti11 ti12 ti13 ti14 ti15 ti16 ti17 ti18 ti19 ti20 ti21 ti22 ti23 ti24 ti25 ti26 ti27 ti28 ti29 ti30 ti31 ti32 ti33 ti34 ti35 ti36 ti37 ti38 ti39 ti40 ti41 ti42 ti43 ti44 ti45 ti46 ti47 ti48 ti49 ti50 ti51 ti52 ti53 ti54 ti55 ti56 ti57 ti58 ti59 ti60 ti61 ti62 ti63 ti64 ti65 ti66 ti67 ti68 ti69 ti70 ti71 ti72 ti73 ti74 ti75 ti76 ti77 ti78 ti79 ti80 ti81 ti82 ti83 ti84 ti85 ti86 ti87 ti88 ti89 ti90 ti91 ti92 ti93 ti94 ti95 ti96 ti97 ti98 ti99 ti100 ti101
theorem get_ba (b : List UInt8) (i : Nat) (h : i < b.length) : (⟨b.toArray⟩ : ByteArray).get! i = b[i] := by
  show b.toArray[i]! = b[i]
  simp [h]
theorem adec_ascii {b : Str} {i : Nat} (h : i < b.length) (h1 : b[i].toNat < 128) : adec b i = (b[i].toNat, 1) := by
  unfold adec Utf8.decode
  simp only [Nat.add_zero, get_ba b i h]
  rw [if_pos h1]
theorem adec_high {b : Str} {i : Nat} (h : i < b.length) (h1 : ¬ b[i].toNat < 128) : 128 ≤ (adec b i).1 := by
  unfold adec Utf8.decode
  simp only [Nat.add_zero, get_ba b i h]
  rw [if_neg h1]
  have e : 128 ≤ Utf8.runeError := by decide
  split
  · split
    · rename_i h2; exact h2
    · exact e
  · split
    · split
      · rename_i h2; simp only [Bool.and_eq_true, decide_eq_true_eq] at h2; omega
      · exact e
    · split
      · split
        · rename_i h2; simp only [Bool.and_eq_true, decide_eq_true_eq] at h2; omega
        · exact e
      · exact e
def plain (x : Str) : Bool := !x.isEmpty && !(x == [110, 111, 116]) && smallB (x.headD 0) && x.all wordB
theorem wordB_low {b : UInt8} (h : wordB b = true) : b.toNat < 128 := by
  simp [wordB, smallB] at h; omega
theorem wordI_high {c : Nat} (h : 128 ≤ c) : wordI (c : Int) = false := by
  simp [wordI, smallI]; omega
theorem conv_u8 (b : UInt8) : IntKind.i32.wrap (b.toNat : Int) = (b.toNat : Int) := by
  have := b.toNat_lt
  simp [IntKind.wrap, IntKind.signed, IntKind.bits]
  omega
theorem ft_Plain (x : Str) (hl : x.length < LIM) : FT (env K gw) NoW 38 [.str x] s (.bool (plain x)) s := by
  refine FT.pure (fn := Tryd.f38) FB_ok mixed Tryd.func38 (by kernel_rfl) (by rfl) rfl rfl (by simp) rfl fun μ w => ?_
  match x, hl with
  | [], _ =>
    repeat' (first
      | refine WP.t ?_ | refine WP.k ?_ | refine WP.e ?_ | refine Qn ?_ | refine Qr ?_ | refine Qe ?_ | refine Bn ?_ | refine Br ?_ | refine Be ?_ | refine Bx (by decide) ?_
      | (refine RS.nl ?_; refine hk _ _ ?_; clear hk k)
      | (refine RS.st fun A B hA hB => ?_; simp [onW_t, onW_t, onW_f, onV_s]; first | (refine hA _ _ _ ?_ ?_; (focus (first | (simp [onW_t]; done) | (simp [onW_t]; omega))); clear hA hB A B) | (refine hB ?_; clear hA hB A B) | (refine onV_if ?_ ?_; (focus (first | omega | (refine ⟨?_, ?_⟩ <;> omega))); simp only [onV_s]; refine hA _ _ _ ?_ ?_; (focus (first | (simp [onW_t]; done) | (simp [onW_t]; omega))); clear hA hB A B))
      | (refine RQ.nl ?_; refine hk _ _ ?_; clear hk k)
      | (refine RQ.st fun A B hA hB => ?_; simp [onW_t, onW_t, onW_f, onV_s]; first | (refine hA _ _ _ ?_ (by first | exact .inl rfl | exact .inr (by decide)) ?_; (focus (first | (simp [onW_t]; done) | (simp [onW_t]; omega))); clear hA hB A B) | (refine hB ?_; clear hA hB A B) | (refine onV_if ?_ ?_; (focus (first | omega | (refine ⟨?_, ?_⟩ <;> omega))); simp only [onV_s]; refine hA _ _ _ ?_ (by first | exact .inl rfl | exact .inr (by decide)) ?_; (focus (first | (simp [onW_t]; done) | (simp [onW_t]; omega))); clear hA hB A B))
      | refine WP.sr fun k hk => ?_ | refine WP.r fun k hk => ?_
      | refine WP.sd _ rfl fun k hk => ?_ | refine WP.d _ rfl fun k hk => ?_
      | (refine WP.cc fun A B hA hB => ?_; simp [onW_t, onB_t, onB_f]; first | (refine hA ?_; clear hA hB A B) | (refine hB ?_; clear hA hB A B) | (refine onB_if (fun h => hA ?_) (fun h => hB ?_) <;> clear hA hB A B))
      | refine WP.q ?_ | refine WP.b ?_)
    simp [plain]
  | c :: x, hl =>
    by_cases h2 : (c :: x) = [110, 111, 116]
    · rw [h2]
      repeat' (first
        | refine WP.t ?_ | refine WP.k ?_ | refine WP.e ?_ | refine Qn ?_ | refine Qr ?_ | refine Qe ?_ | refine Bn ?_ | refine Br ?_ | refine Be ?_ | refine Bx (by decide) ?_
        | (refine RS.nl ?_; refine hk _ _ ?_; clear hk k)
        | (refine RS.st fun A B hA hB => ?_; simp [onW_t, onW_t, onW_f, onV_s]; first | (refine hA _ _ _ ?_ ?_; (focus (first | (simp [onW_t]; done) | (simp [onW_t]; omega))); clear hA hB A B) | (refine hB ?_; clear hA hB A B) | (refine onV_if ?_ ?_; (focus (first | omega | (refine ⟨?_, ?_⟩ <;> omega))); simp only [onV_s]; refine hA _ _ _ ?_ ?_; (focus (first | (simp [onW_t]; done) | (simp [onW_t]; omega))); clear hA hB A B))
        | (refine RQ.nl ?_; refine hk _ _ ?_; clear hk k)
        | (refine RQ.st fun A B hA hB => ?_; simp [onW_t, onW_t, onW_f, onV_s]; first | (refine hA _ _ _ ?_ (by first | exact .inl rfl | exact .inr (by decide)) ?_; (focus (first | (simp [onW_t]; done) | (simp [onW_t]; omega))); clear hA hB A B) | (refine hB ?_; clear hA hB A B) | (refine onV_if ?_ ?_; (focus (first | omega | (refine ⟨?_, ?_⟩ <;> omega))); simp only [onV_s]; refine hA _ _ _ ?_ (by first | exact .inl rfl | exact .inr (by decide)) ?_; (focus (first | (simp [onW_t]; done) | (simp [onW_t]; omega))); clear hA hB A B))
        | refine WP.sr fun k hk => ?_ | refine WP.r fun k hk => ?_
        | refine WP.sd _ rfl fun k hk => ?_ | refine WP.d _ rfl fun k hk => ?_
        | (refine WP.cc fun A B hA hB => ?_; simp [onW_t, onB_t, onB_f]; first | (refine hA ?_; clear hA hB A B) | (refine hB ?_; clear hA hB A B) | (refine onB_if (fun h => hA ?_) (fun h => hB ?_) <;> clear hA hB A B))
        | refine WP.q ?_ | refine WP.b ?_)
      simp [plain]
    · have hs : smallB c = smallI (c.toNat : Int) := (smallI_B c).symm
      have h2' : (c :: x == [110, 111, 116]) = false := by simpa using h2
      by_cases h3 : smallI (c.toNat : Int) = true
      · skip
        repeat' (first
          | refine WP.t ?_ | refine WP.k ?_ | refine WP.e ?_ | refine Qn ?_ | refine Qr ?_ | refine Qe ?_ | refine Bn ?_ | refine Br ?_ | refine Be ?_ | refine Bx (by decide) ?_
          | (refine RS.nl ?_; refine hk _ _ ?_; clear hk k)
          | (refine RS.st fun A B hA hB => ?_; simp [FB, FA, h2', h3, conv_u8, onW_t, onW_f, onV_s]; first | (refine hA _ _ _ ?_ ?_; (focus (first | (simp [FB, FA, h2', h3, conv_u8]; done) | (simp [FB, FA, h2', h3, conv_u8]; omega))); clear hA hB A B) | (refine hB ?_; clear hA hB A B) | (refine onV_if ?_ ?_; (focus (first | omega | (refine ⟨?_, ?_⟩ <;> omega))); simp only [onV_s]; refine hA _ _ _ ?_ ?_; (focus (first | (simp [FB, FA, h2', h3, conv_u8]; done) | (simp [FB, FA, h2', h3, conv_u8]; omega))); clear hA hB A B))
          | (refine RQ.nl ?_; refine hk _ _ ?_; clear hk k)
          | (refine RQ.st fun A B hA hB => ?_; simp [FB, FA, h2', h3, conv_u8, onW_t, onW_f, onV_s]; first | (refine hA _ _ _ ?_ (by first | exact .inl rfl | exact .inr (by decide)) ?_; (focus (first | (simp [FB, FA, h2', h3, conv_u8]; done) | (simp [FB, FA, h2', h3, conv_u8]; omega))); clear hA hB A B) | (refine hB ?_; clear hA hB A B) | (refine onV_if ?_ ?_; (focus (first | omega | (refine ⟨?_, ?_⟩ <;> omega))); simp only [onV_s]; refine hA _ _ _ ?_ (by first | exact .inl rfl | exact .inr (by decide)) ?_; (focus (first | (simp [FB, FA, h2', h3, conv_u8]; done) | (simp [FB, FA, h2', h3, conv_u8]; omega))); clear hA hB A B))
          | refine WP.sr fun k hk => ?_ | refine WP.r fun k hk => ?_
          | refine WP.sd _ rfl fun k hk => ?_ | refine WP.d _ rfl fun k hk => ?_
          | (refine WP.cc fun A B hA hB => ?_; simp [FB, FA, h2', h3, conv_u8, onB_t, onB_f]; first | (refine hA ?_; clear hA hB A B) | (refine hB ?_; clear hA hB A B) | (refine onB_if (fun h => hA ?_) (fun h => hB ?_) <;> clear hA hB A B))
          | refine WP.q ?_ | refine WP.b ?_)
        refine WP_loopS (fun i : Nat => [(19, .it s.nx)]) (fun i s' => i ≤ (c :: x).length ∧ s'.nx = s.nx + 1 ∧ s'.get s.nx = some (.siter (c :: x) i) ∧ ((c :: x).take i).all wordB = true) (fun i => (c :: x).length - i) 0 (by simp) ⟨by omega, by simp, by simp, by simp⟩ ?_
        rintro i s' ⟨hi, hnx, hg, hw⟩
        generalize hX : c :: x = X at *
        by_cases hi2 : i < X.length
        · by_cases h4 : X[i].toNat < 128
          · have hd := adec_ascii hi2 h4
            have htk : X.take (i + 1) = X.take i ++ [X[i]] := List.take_succ_eq_append_getElem hi2
            have hwi := wordI_B X[i]
            by_cases h5 : wordB X[i] = true
            · skip
              repeat' (first
                | refine WP.t ?_ | refine WP.k ?_ | refine WP.e ?_ | refine Qn ?_ | refine Qr ?_ | refine Qe ?_ | refine Bn ?_ | refine Br ?_ | refine Be ?_ | refine Bx (by decide) ?_
                | (refine RS.nl ?_; refine hk _ _ ?_; clear hk k)
                | (refine RS.st fun A B hA hB => ?_; simp [FB, hg, hi2, hd, hwi, h5, onW_t, onW_f, onV_s]; first | (refine hA _ _ _ ?_ ?_; (focus (first | (simp [FB, hg, hi2, hd, hwi, h5]; done) | (simp [FB, hg, hi2, hd, hwi, h5]; omega))); clear hA hB A B) | (refine hB ?_; clear hA hB A B) | (refine onV_if ?_ ?_; (focus (first | omega | (refine ⟨?_, ?_⟩ <;> omega))); simp only [onV_s]; refine hA _ _ _ ?_ ?_; (focus (first | (simp [FB, hg, hi2, hd, hwi, h5]; done) | (simp [FB, hg, hi2, hd, hwi, h5]; omega))); clear hA hB A B))
                | (refine RQ.nl ?_; refine hk _ _ ?_; clear hk k)
                | (refine RQ.st fun A B hA hB => ?_; simp [FB, hg, hi2, hd, hwi, h5, onW_t, onW_f, onV_s]; first | (refine hA _ _ _ ?_ (by first | exact .inl rfl | exact .inr (by decide)) ?_; (focus (first | (simp [FB, hg, hi2, hd, hwi, h5]; done) | (simp [FB, hg, hi2, hd, hwi, h5]; omega))); clear hA hB A B) | (refine hB ?_; clear hA hB A B) | (refine onV_if ?_ ?_; (focus (first | omega | (refine ⟨?_, ?_⟩ <;> omega))); simp only [onV_s]; refine hA _ _ _ ?_ (by first | exact .inl rfl | exact .inr (by decide)) ?_; (focus (first | (simp [FB, hg, hi2, hd, hwi, h5]; done) | (simp [FB, hg, hi2, hd, hwi, h5]; omega))); clear hA hB A B))
                | refine WP.sr fun k hk => ?_ | refine WP.r fun k hk => ?_
                | refine WP.sd _ rfl fun k hk => ?_ | refine WP.d _ rfl fun k hk => ?_
                | (refine WP.cc fun A B hA hB => ?_; simp [FB, hg, hi2, hd, hwi, h5, onB_t, onB_f]; first | (refine hA ?_; clear hA hB A B) | (refine hB ?_; clear hA hB A B) | (refine onB_if (fun h => hA ?_) (fun h => hB ?_) <;> clear hA hB A B))
                | refine WP.q ?_ | refine WP.b ?_)
              exact ⟨i + 1, by omega, by simp, by omega, by simp [hnx], by simp, by rw [htk, List.all_append, hw]; simp [h5]⟩
            · simp only [Bool.not_eq_true] at h5
              repeat' (first
                | refine WP.t ?_ | refine WP.k ?_ | refine WP.e ?_ | refine Qn ?_ | refine Qr ?_ | refine Qe ?_ | refine Bn ?_ | refine Br ?_ | refine Be ?_ | refine Bx (by decide) ?_
                | (refine RS.nl ?_; refine hk _ _ ?_; clear hk k)
                | (refine RS.st fun A B hA hB => ?_; simp [FB, hg, hi2, hd, hwi, h5, onW_t, onW_f, onV_s]; first | (refine hA _ _ _ ?_ ?_; (focus (first | (simp [FB, hg, hi2, hd, hwi, h5]; done) | (simp [FB, hg, hi2, hd, hwi, h5]; omega))); clear hA hB A B) | (refine hB ?_; clear hA hB A B) | (refine onV_if ?_ ?_; (focus (first | omega | (refine ⟨?_, ?_⟩ <;> omega))); simp only [onV_s]; refine hA _ _ _ ?_ ?_; (focus (first | (simp [FB, hg, hi2, hd, hwi, h5]; done) | (simp [FB, hg, hi2, hd, hwi, h5]; omega))); clear hA hB A B))
                | (refine RQ.nl ?_; refine hk _ _ ?_; clear hk k)
                | (refine RQ.st fun A B hA hB => ?_; simp [FB, hg, hi2, hd, hwi, h5, onW_t, onW_f, onV_s]; first | (refine hA _ _ _ ?_ (by first | exact .inl rfl | exact .inr (by decide)) ?_; (focus (first | (simp [FB, hg, hi2, hd, hwi, h5]; done) | (simp [FB, hg, hi2, hd, hwi, h5]; omega))); clear hA hB A B) | (refine hB ?_; clear hA hB A B) | (refine onV_if ?_ ?_; (focus (first | omega | (refine ⟨?_, ?_⟩ <;> omega))); simp only [onV_s]; refine hA _ _ _ ?_ (by first | exact .inl rfl | exact .inr (by decide)) ?_; (focus (first | (simp [FB, hg, hi2, hd, hwi, h5]; done) | (simp [FB, hg, hi2, hd, hwi, h5]; omega))); clear hA hB A B))
                | refine WP.sr fun k hk => ?_ | refine WP.r fun k hk => ?_
                | refine WP.sd _ rfl fun k hk => ?_ | refine WP.d _ rfl fun k hk => ?_
                | (refine WP.cc fun A B hA hB => ?_; simp [FB, hg, hi2, hd, hwi, h5, onB_t, onB_f]; first | (refine hA ?_; clear hA hB A B) | (refine hB ?_; clear hA hB A B) | (refine onB_if (fun h => hA ?_) (fun h => hB ?_) <;> clear hA hB A B))
                | refine WP.q ?_ | refine WP.b ?_)
              have : X.all wordB = false := by
                rw [List.all_eq_false]
                exact ⟨X[i], List.getElem_mem hi2, by simp [h5]⟩
              simp [plain, this]
          · have hd := adec_high hi2 h4
            have hwi := wordI_high hd
            repeat' (first
              | refine WP.t ?_ | refine WP.k ?_ | refine WP.e ?_ | refine Qn ?_ | refine Qr ?_ | refine Qe ?_ | refine Bn ?_ | refine Br ?_ | refine Be ?_ | refine Bx (by decide) ?_
              | (refine RS.nl ?_; refine hk _ _ ?_; clear hk k)
              | (refine RS.st fun A B hA hB => ?_; simp [FB, hg, hi2, hwi, onW_t, onW_f, onV_s]; first | (refine hA _ _ _ ?_ ?_; (focus (first | (simp [FB, hg, hi2, hwi]; done) | (simp [FB, hg, hi2, hwi]; omega))); clear hA hB A B) | (refine hB ?_; clear hA hB A B) | (refine onV_if ?_ ?_; (focus (first | omega | (refine ⟨?_, ?_⟩ <;> omega))); simp only [onV_s]; refine hA _ _ _ ?_ ?_; (focus (first | (simp [FB, hg, hi2, hwi]; done) | (simp [FB, hg, hi2, hwi]; omega))); clear hA hB A B))
              | (refine RQ.nl ?_; refine hk _ _ ?_; clear hk k)
              | (refine RQ.st fun A B hA hB => ?_; simp [FB, hg, hi2, hwi, onW_t, onW_f, onV_s]; first | (refine hA _ _ _ ?_ (by first | exact .inl rfl | exact .inr (by decide)) ?_; (focus (first | (simp [FB, hg, hi2, hwi]; done) | (simp [FB, hg, hi2, hwi]; omega))); clear hA hB A B) | (refine hB ?_; clear hA hB A B) | (refine onV_if ?_ ?_; (focus (first | omega | (refine ⟨?_, ?_⟩ <;> omega))); simp only [onV_s]; refine hA _ _ _ ?_ (by first | exact .inl rfl | exact .inr (by decide)) ?_; (focus (first | (simp [FB, hg, hi2, hwi]; done) | (simp [FB, hg, hi2, hwi]; omega))); clear hA hB A B))
              | refine WP.sr fun k hk => ?_ | refine WP.r fun k hk => ?_
              | refine WP.sd _ rfl fun k hk => ?_ | refine WP.d _ rfl fun k hk => ?_
              | (refine WP.cc fun A B hA hB => ?_; simp [FB, hg, hi2, hwi, onB_t, onB_f]; first | (refine hA ?_; clear hA hB A B) | (refine hB ?_; clear hA hB A B) | (refine onB_if (fun h => hA ?_) (fun h => hB ?_) <;> clear hA hB A B))
              | refine WP.q ?_ | refine WP.b ?_)
            have : X.all wordB = false := by
              rw [List.all_eq_false]
              exact ⟨X[i], List.getElem_mem hi2, fun h => h4 (wordB_low h)⟩
            simp [plain, this]
        · skip
          repeat' (first
            | refine WP.t ?_ | refine WP.k ?_ | refine WP.e ?_ | refine Qn ?_ | refine Qr ?_ | refine Qe ?_ | refine Bn ?_ | refine Br ?_ | refine Be ?_ | refine Bx (by decide) ?_
            | (refine RS.nl ?_; refine hk _ _ ?_; clear hk k)
            | (refine RS.st fun A B hA hB => ?_; simp [FB, hg, hi2, onW_t, onW_f, onV_s]; first | (refine hA _ _ _ ?_ ?_; (focus (first | (simp [FB, hg, hi2]; done) | (simp [FB, hg, hi2]; omega))); clear hA hB A B) | (refine hB ?_; clear hA hB A B) | (refine onV_if ?_ ?_; (focus (first | omega | (refine ⟨?_, ?_⟩ <;> omega))); simp only [onV_s]; refine hA _ _ _ ?_ ?_; (focus (first | (simp [FB, hg, hi2]; done) | (simp [FB, hg, hi2]; omega))); clear hA hB A B))
            | (refine RQ.nl ?_; refine hk _ _ ?_; clear hk k)
            | (refine RQ.st fun A B hA hB => ?_; simp [FB, hg, hi2, onW_t, onW_f, onV_s]; first | (refine hA _ _ _ ?_ (by first | exact .inl rfl | exact .inr (by decide)) ?_; (focus (first | (simp [FB, hg, hi2]; done) | (simp [FB, hg, hi2]; omega))); clear hA hB A B) | (refine hB ?_; clear hA hB A B) | (refine onV_if ?_ ?_; (focus (first | omega | (refine ⟨?_, ?_⟩ <;> omega))); simp only [onV_s]; refine hA _ _ _ ?_ (by first | exact .inl rfl | exact .inr (by decide)) ?_; (focus (first | (simp [FB, hg, hi2]; done) | (simp [FB, hg, hi2]; omega))); clear hA hB A B))
            | refine WP.sr fun k hk => ?_ | refine WP.r fun k hk => ?_
            | refine WP.sd _ rfl fun k hk => ?_ | refine WP.d _ rfl fun k hk => ?_
            | (refine WP.cc fun A B hA hB => ?_; simp [FB, hg, hi2, onB_t, onB_f]; first | (refine hA ?_; clear hA hB A B) | (refine hB ?_; clear hA hB A B) | (refine onB_if (fun h => hA ?_) (fun h => hB ?_) <;> clear hA hB A B))
            | refine WP.q ?_ | refine WP.b ?_)
          have he : X.take i = X := List.take_of_length_le (by omega)
          rw [he] at hw
          subst hX
          simp only [List.all_cons, Bool.and_eq_true] at hw
          simp [plain, hw.1, hw.2, hs, h3]
          rw [← Decidable.imp_iff_not_or]
          simpa using h2
      · simp only [Bool.not_eq_true] at h3
        repeat' (first
          | refine WP.t ?_ | refine WP.k ?_ | refine WP.e ?_ | refine Qn ?_ | refine Qr ?_ | refine Qe ?_ | refine Bn ?_ | refine Br ?_ | refine Be ?_ | refine Bx (by decide) ?_
          | (refine RS.nl ?_; refine hk _ _ ?_; clear hk k)
          | (refine RS.st fun A B hA hB => ?_; simp [FB, FA, h2', h3, conv_u8, onW_t, onW_f, onV_s]; first | (refine hA _ _ _ ?_ ?_; (focus (first | (simp [FB, FA, h2', h3, conv_u8]; done) | (simp [FB, FA, h2', h3, conv_u8]; omega))); clear hA hB A B) | (refine hB ?_; clear hA hB A B) | (refine onV_if ?_ ?_; (focus (first | omega | (refine ⟨?_, ?_⟩ <;> omega))); simp only [onV_s]; refine hA _ _ _ ?_ ?_; (focus (first | (simp [FB, FA, h2', h3, conv_u8]; done) | (simp [FB, FA, h2', h3, conv_u8]; omega))); clear hA hB A B))
          | (refine RQ.nl ?_; refine hk _ _ ?_; clear hk k)
          | (refine RQ.st fun A B hA hB => ?_; simp [FB, FA, h2', h3, conv_u8, onW_t, onW_f, onV_s]; first | (refine hA _ _ _ ?_ (by first | exact .inl rfl | exact .inr (by decide)) ?_; (focus (first | (simp [FB, FA, h2', h3, conv_u8]; done) | (simp [FB, FA, h2', h3, conv_u8]; omega))); clear hA hB A B) | (refine hB ?_; clear hA hB A B) | (refine onV_if ?_ ?_; (focus (first | omega | (refine ⟨?_, ?_⟩ <;> omega))); simp only [onV_s]; refine hA _ _ _ ?_ (by first | exact .inl rfl | exact .inr (by decide)) ?_; (focus (first | (simp [FB, FA, h2', h3, conv_u8]; done) | (simp [FB, FA, h2', h3, conv_u8]; omega))); clear hA hB A B))
          | refine WP.sr fun k hk => ?_ | refine WP.r fun k hk => ?_
          | refine WP.sd _ rfl fun k hk => ?_ | refine WP.d _ rfl fun k hk => ?_
          | (refine WP.cc fun A B hA hB => ?_; simp [FB, FA, h2', h3, conv_u8, onB_t, onB_f]; first | (refine hA ?_; clear hA hB A B) | (refine hB ?_; clear hA hB A B) | (refine onB_if (fun h => hA ?_) (fun h => hB ?_) <;> clear hA hB A B))
          | refine WP.q ?_ | refine WP.b ?_)
        simp [plain, hs, h3]
end
end Go.Am
namespace Go.Am
open Go.Proofs
section
variable {K : Nat} {gw : World} {s : St}
attribute [local simp] awanted xop zOf zrow aop ev T0 Slots.put Slots.set Slots.get awr WOk AV.may ofConst abinop aint isConst St.get_push St.get_put St.live AV.fit AV.cells AV.one fieldOf afieldAddr aload ofCells astore splice May eqres env_ti FinP FinZ FinW ares aresL ares1 Fns.addP Fns.add Fns.a0 Fns.a1 Fns.a2 Fns.a3 Fns.a4 abuiltin alenOk alen aindex elemOfT elemId abuildSlice afill chunks ard aappend isSS AV.isStr aminmax placesOf abuild afield aidx isStrD isStrDesc astrop aslice asliceOk abound arange anext aextract aunop aeq AV.ck avseq aveq aconv aconvert onB_t onB_f List.range_succ ti0 ti1 ti2 ti3 ti4 ti5 ti6 ti7 ti8 ti9 ti10 ti11 ti12 ti13 ti14 ti15 ti16 ti17 ti18 ti19 ti20 ti21 ti22 ti23 ti24 ti25 ti26 ti27 ti28 ti29 ti30 ti31 ti32 ti33 ti34 ti35 ti36 ti37 ti38 ti39 ti40 ti41 ti42 ti43 ti44 ti45 ti46 ti47 ti48 ti49 ti50 ti51 ti52 ti53 ti54 ti55 ti56 ti57 ti58 ti59 ti60 ti61 ti62 ti63 ti64 ti65 ti66 ti67 ti68 ti69 ti70 ti71 ti72 ti73 ti74 ti75 ti76 ti77 ti78 ti79 ti80 ti81 ti82 ti83 ti84 ti85 ti86 ti87 ti88 ti89 ti90 ti91 ti92 ti93 ti94 ti95 ti96 ti97 ti98 ti99 ti100 ti101

theorem ext62 (v : Value) (w : World) : (callFunc 65 #[v]).run Tryd.prog w = .ok (.value v) w := by kernel_rfl
def pNoEsc : List AV → Option AV
  | [x] => some x
  | _ => none
theorem fx62 (x : AV) : FX (env K gw) 65 [x] s x := by
  intro μ w vs hR hv
  have h1 : vs.size = 1 := by rw [← hv.1]; rfl
  obtain ⟨v, rfl⟩ : ∃ v, vs = #[v] := ⟨vs[0], Array.ext (by simpa using h1) (fun i h1 h2 => by simp at h2; subst h2; rfl)⟩
  exact ⟨v, ext62 v w, hv.2 0 x v rfl rfl⟩
def BF5 : Fns := F0.addP 65 pNoEsc
theorem F5_ok : FOk (env K gw) BF5 := by
  refine F0_ok.addX ?_
  intro xs s r h; unfold pNoEsc at h; split at h <;> cases h; exact fx62 _

theorem ft47a {id : Nat} {b : AV} (hid : id < s.nx) (hs : s.get id = some (.var 58 [.np, b])) (hb : Below s.nx b) :
    FT (env K gw) (fun i => i ∈ [id]) 53 [.ptr id 0] s (.tup []) (s.put id (.var 58 [.ptr id 0, b])) := by
  refine FT.own (fn := Tryd.f53) F5_ok mixed Tryd.func53 rfl (by rfl) rfl rfl (by simp) rfl fun μ w => ?_
  repeat' (first
    | refine WP.t ?_ | refine WP.k ?_ | refine WP.e ?_ | refine Qn ?_ | refine Qr ?_ | refine Qe ?_ | refine Bn ?_ | refine Br ?_ | refine Be ?_ | refine Bx (by decide) ?_
    | (refine RS.nl ?_; refine hk _ _ ?_; clear hk k)
    | (refine RS.st fun A B hA hB => ?_; simp [BF5, pNoEsc, hs, anilCheck, acvp, onW_t, onW_f, onV_s]; first | (refine hA _ _ _ ?_ ?_; (focus (first | (simp [BF5, pNoEsc, hs, anilCheck, acvp]; done) | (simp [BF5, pNoEsc, hs, anilCheck, acvp]; omega))); clear hA hB A B) | (refine hB ?_; clear hA hB A B) | (refine onV_if ?_ ?_; (focus (first | omega | (refine ⟨?_, ?_⟩ <;> omega))); simp only [onV_s]; refine hA _ _ _ ?_ ?_; (focus (first | (simp [BF5, pNoEsc, hs, anilCheck, acvp]; done) | (simp [BF5, pNoEsc, hs, anilCheck, acvp]; omega))); clear hA hB A B))
    | (refine RQ.nl ?_; refine hk _ _ ?_; clear hk k)
    | (refine RQ.st fun A B hA hB => ?_; simp [BF5, pNoEsc, hs, anilCheck, acvp, onW_t, onW_f, onV_s]; first | (refine hA _ _ _ ?_ (by first | exact .inl rfl | exact .inr (by decide)) ?_; (focus (first | (simp [BF5, pNoEsc, hs, anilCheck, acvp]; done) | (simp [BF5, pNoEsc, hs, anilCheck, acvp]; omega))); clear hA hB A B) | (refine hB ?_; clear hA hB A B) | (refine onV_if ?_ ?_; (focus (first | omega | (refine ⟨?_, ?_⟩ <;> omega))); simp only [onV_s]; refine hA _ _ _ ?_ (by first | exact .inl rfl | exact .inr (by decide)) ?_; (focus (first | (simp [BF5, pNoEsc, hs, anilCheck, acvp]; done) | (simp [BF5, pNoEsc, hs, anilCheck, acvp]; omega))); clear hA hB A B))
    | refine WP.sr fun k hk => ?_ | refine WP.r fun k hk => ?_
    | refine WP.sd _ rfl fun k hk => ?_ | refine WP.d _ rfl fun k hk => ?_
    | (refine WP.cc fun A B hA hB => ?_; simp [BF5, pNoEsc, hs, anilCheck, acvp, onB_t, onB_f]; first | (refine hA ?_; clear hA hB A B) | (refine hB ?_; clear hA hB A B) | (refine onB_if (fun h => hA ?_) (fun h => hB ?_) <;> clear hA hB A B))
    | refine WP.q ?_ | refine WP.b ?_)
  simp [FinW]
  intro h i hi hw o ho
  by_cases e : i = id
  · simp [e] at ho; subst ho; simp [hid, hb]
  · omega
theorem ft47b {id : Nat} {b : AV} (hid : id < s.nx) (hs : s.get id = some (.var 58 [.ptr id 0, b])) : FT (env K gw) NoW 53 [.ptr id 0] s (.tup []) s := by
  refine FT.pure (fn := Tryd.f53) F5_ok mixed Tryd.func53 rfl (by rfl) rfl rfl (by simp) rfl fun μ w => ?_
  repeat' (first
    | refine WP.t ?_ | refine WP.k ?_ | refine WP.e ?_ | refine Qn ?_ | refine Qr ?_ | refine Qe ?_ | refine Bn ?_ | refine Br ?_ | refine Be ?_ | refine Bx (by decide) ?_
    | (refine RS.nl ?_; refine hk _ _ ?_; clear hk k)
    | (refine RS.st fun A B hA hB => ?_; simp [BF5, pNoEsc, hs, anilCheck, acvp, onW_t, onW_f, onV_s]; first | (refine hA _ _ _ ?_ ?_; (focus (first | (simp [BF5, pNoEsc, hs, anilCheck, acvp]; done) | (simp [BF5, pNoEsc, hs, anilCheck, acvp]; omega))); clear hA hB A B) | (refine hB ?_; clear hA hB A B) | (refine onV_if ?_ ?_; (focus (first | omega | (refine ⟨?_, ?_⟩ <;> omega))); simp only [onV_s]; refine hA _ _ _ ?_ ?_; (focus (first | (simp [BF5, pNoEsc, hs, anilCheck, acvp]; done) | (simp [BF5, pNoEsc, hs, anilCheck, acvp]; omega))); clear hA hB A B))
    | (refine RQ.nl ?_; refine hk _ _ ?_; clear hk k)
    | (refine RQ.st fun A B hA hB => ?_; simp [BF5, pNoEsc, hs, anilCheck, acvp, onW_t, onW_f, onV_s]; first | (refine hA _ _ _ ?_ (by first | exact .inl rfl | exact .inr (by decide)) ?_; (focus (first | (simp [BF5, pNoEsc, hs, anilCheck, acvp]; done) | (simp [BF5, pNoEsc, hs, anilCheck, acvp]; omega))); clear hA hB A B) | (refine hB ?_; clear hA hB A B) | (refine onV_if ?_ ?_; (focus (first | omega | (refine ⟨?_, ?_⟩ <;> omega))); simp only [onV_s]; refine hA _ _ _ ?_ (by first | exact .inl rfl | exact .inr (by decide)) ?_; (focus (first | (simp [BF5, pNoEsc, hs, anilCheck, acvp]; done) | (simp [BF5, pNoEsc, hs, anilCheck, acvp]; omega))); clear hA hB A B))
    | refine WP.sr fun k hk => ?_ | refine WP.r fun k hk => ?_
    | refine WP.sd _ rfl fun k hk => ?_ | refine WP.d _ rfl fun k hk => ?_
    | (refine WP.cc fun A B hA hB => ?_; simp [BF5, pNoEsc, hs, anilCheck, acvp, onB_t, onB_f]; first | (refine hA ?_; clear hA hB A B) | (refine hB ?_; clear hA hB A B) | (refine onB_if (fun h => hA ?_) (fun h => hB ?_) <;> clear hA hB A B))
    | refine WP.q ?_ | refine WP.b ?_)
  simp
/-- A text's bytes, as a row. -/
def byteRow (x : List UInt8) : List (List AV) := x.map fun c => [.int .u8 (c.toNat : Int)]
/-- copyCheck, as a table's entry. -/
def belowB (n : Nat) : AV → Bool
  | .nsl => true
  | .ls r _ _ => decide (r < n)
  | _ => false
theorem belowB_eq {n : Nat} {x : AV} (h : belowB n x = true) : Below n x := by
  unfold belowB at h
  split at h
  · simp
  · simpa using h
  · cases h
def gCheck (xs : List AV) (s : St) : Option (AV × St × List Nat) :=
  match xs with
  | [.ptr id 0] => if id < s.nx then (match s.get id with
    | some (.var 58 [.np, b]) => if belowB s.nx b then some (.tup [], s.put id (.var 58 [.ptr id 0, b]), [id]) else none
    | some (.var 58 [.ptr id' 0, b]) => if id' = id then some (.tup [], s, []) else none
    | _ => none) else none
  | _ => none
def BF6 : Fns := BF5.add 53 gCheck
theorem F6_ok : FOk (env K gw) BF6 := by
  refine F5_ok.add ?_
  intro xs s r s' l h
  unfold gCheck at h
  split at h
  · split at h
    · rename_i hid
      split at h
      · rename_i b hs
        split at h
        · rename_i hb
          cases h
          exact ft47a hid hs (belowB_eq hb)
        · cases h
      · rename_i b hs
        split at h
        · rename_i e
          subst e
          cases h
          have : (fun id => id ∈ ([] : List Nat)) = NoW := by funext id; simp
          rw [this]
          exact ft47b hid hs
        · cases h
      · cases h
    · cases h
  · cases h
theorem byteRow_length (x : List UInt8) : (byteRow x).length = x.length := by simp [byteRow]
theorem byteRow_ok (x : List UInt8) : (byteRow x).all (fun y => y.length == 1 && y.all AV.one) = true := by simp [byteRow, AV.one]
theorem byteRow_append (x y : List UInt8) : byteRow (x ++ y) = byteRow x ++ byteRow y := by simp [byteRow]
theorem byteRow_below (n : Nat) (x : List UInt8) : ∀ e ∈ byteRow x, ∀ y ∈ e, Below n y := by simp [byteRow]
theorem byteRow_bytes (x : List UInt8) : (byteRow x).mapM byteOf = some x := by
  induction x with
  | nil => rfl
  | cons c x ih => simp [byteRow] at ih ⊢; rw [ih]; simp [byteOf]

theorem ft30a {id : Nat} {p : AV} {x : List UInt8} (hid : id < s.nx) (hs : s.get id = some (.var 58 [p, .nsl])) (hp : p = .np ∨ p = .ptr id 0) (hb : x.length ≤ 140737488355328) :
    FT (env K gw) (fun i => i ∈ [id]) 36 [.ptr id 0, .str x] s (.tup [.int .i64 x.length, .nif]) ((s.push (.row 1 (true, 5) (byteRow x))).put id (.var 58 [.ptr id 0, .ls s.nx 0 x.length])) := by
  refine FT.own (fn := Tryd.f36) F6_ok mixed Tryd.func36 rfl (by rfl) rfl rfl (by simp) rfl fun μ w => ?_
  have hne : ¬ s.nx = id := by omega
  have hne' : ¬ id = s.nx := by omega
  unfold byteRow at *
  rcases hp with rfl | rfl
  all_goals
    repeat' (first
      | refine WP.t ?_ | refine WP.k ?_ | refine WP.e ?_ | refine Qn ?_ | refine Qr ?_ | refine Qe ?_ | refine Bn ?_ | refine Br ?_ | refine Be ?_ | refine Bx (by decide) ?_
      | (refine RS.nl ?_; refine hk _ _ ?_; clear hk k)
      | (refine RS.st fun A B hA hB => ?_; simp [BF6, gCheck, belowB, hs, hid, anilCheck, hb, hne, hne', onW_t, onW_f, onV_s]; first | (refine hA _ _ _ ?_ ?_; (focus (first | (simp [BF6, gCheck, belowB, hs, hid, anilCheck, hb, hne, hne']; done) | (simp [BF6, gCheck, belowB, hs, hid, anilCheck, hb, hne, hne']; omega))); clear hA hB A B) | (refine hB ?_; clear hA hB A B) | (refine onV_if ?_ ?_; (focus (first | omega | (refine ⟨?_, ?_⟩ <;> omega))); simp only [onV_s]; refine hA _ _ _ ?_ ?_; (focus (first | (simp [BF6, gCheck, belowB, hs, hid, anilCheck, hb, hne, hne']; done) | (simp [BF6, gCheck, belowB, hs, hid, anilCheck, hb, hne, hne']; omega))); clear hA hB A B))
      | (refine RQ.nl ?_; refine hk _ _ ?_; clear hk k)
      | (refine RQ.st fun A B hA hB => ?_; simp [BF6, gCheck, belowB, hs, hid, anilCheck, hb, hne, hne', onW_t, onW_f, onV_s]; first | (refine hA _ _ _ ?_ (by first | exact .inl rfl | exact .inr (by decide)) ?_; (focus (first | (simp [BF6, gCheck, belowB, hs, hid, anilCheck, hb, hne, hne']; done) | (simp [BF6, gCheck, belowB, hs, hid, anilCheck, hb, hne, hne']; omega))); clear hA hB A B) | (refine hB ?_; clear hA hB A B) | (refine onV_if ?_ ?_; (focus (first | omega | (refine ⟨?_, ?_⟩ <;> omega))); simp only [onV_s]; refine hA _ _ _ ?_ (by first | exact .inl rfl | exact .inr (by decide)) ?_; (focus (first | (simp [BF6, gCheck, belowB, hs, hid, anilCheck, hb, hne, hne']; done) | (simp [BF6, gCheck, belowB, hs, hid, anilCheck, hb, hne, hne']; omega))); clear hA hB A B))
      | refine WP.sr fun k hk => ?_ | refine WP.r fun k hk => ?_
      | refine WP.sd _ rfl fun k hk => ?_ | refine WP.d _ rfl fun k hk => ?_
      | (refine WP.cc fun A B hA hB => ?_; simp [BF6, gCheck, belowB, hs, hid, anilCheck, hb, hne, hne', onB_t, onB_f]; first | (refine hA ?_; clear hA hB A B) | (refine hB ?_; clear hA hB A B) | (refine onB_if (fun h => hA ?_) (fun h => hB ?_) <;> clear hA hB A B))
      | refine WP.q ?_ | refine WP.b ?_)
  all_goals
    refine ⟨.inr rfl, by simp, by simp; try omega, by simp, by simp, fun _ => ⟨fun j hj => ?_, fun j hj hw o ho => ?_⟩⟩
    · by_cases h1 : j = id
      · simp [h1]
      · simp [h1, St.get_drop] <;> first | done | rfl
    · by_cases h1 : j = id
      · simp [h1] at ho; subst ho; simp; omega
      · by_cases h2 : j = s.nx
        · simp [h2, hne] at ho; subst ho; simp
        · simp [h1, h2, St.get_drop] at ho hw hj
          try omega
theorem ft30b {id rd : Nat} {p : AV} {x y : List UInt8} (hid : id < s.nx) (hrd : rd < s.nx) (hs : s.get id = some (.var 58 [p, .ls rd 0 y.length])) (hr : s.get rd = some (.row 1 (true, 5) (byteRow y))) (hp : p = .np ∨ p = .ptr id 0) (hb : y.length + x.length ≤ 140737488355328) :
    FT (env K gw) (fun i => i ∈ [id, rd]) 36 [.ptr id 0, .str x] s (.tup [.int .i64 x.length, .nif]) (((s.drop rd).push (.row 1 (true, 5) (byteRow (y ++ x)))).put id (.var 58 [.ptr id 0, .ls s.nx 0 (y.length + x.length)])) := by
  have hne0 : ¬ rd = id := by rintro rfl; rw [hs] at hr; cases hr
  have hne00 : ¬ id = rd := fun e => hne0 e.symm
  refine FT.own (fn := Tryd.f36) F6_ok mixed Tryd.func36 rfl (by rfl) rfl rfl (by simp) rfl fun μ w => ?_
  have hne : ¬ s.nx = id := by omega
  have hne' : ¬ id = s.nx := by omega
  have hne1 : ¬ rd = s.nx := by omega
  unfold byteRow at *
  rcases hp with rfl | rfl
  all_goals
    repeat' (first
      | refine WP.t ?_ | refine WP.k ?_ | refine WP.e ?_ | refine Qn ?_ | refine Qr ?_ | refine Qe ?_ | refine Bn ?_ | refine Br ?_ | refine Be ?_ | refine Bx (by decide) ?_
      | (refine RS.nl ?_; refine hk _ _ ?_; clear hk k)
      | (refine RS.st fun A B hA hB => ?_; simp [BF6, gCheck, belowB, hs, hr, hid, hrd, anilCheck, hb, hne, hne', hne0, hne00, hne1, St.get_drop, onW_t, onW_f, onV_s]; first | (refine hA _ _ _ ?_ ?_; (focus (first | (simp [BF6, gCheck, belowB, hs, hr, hid, hrd, anilCheck, hb, hne, hne', hne0, hne00, hne1, St.get_drop]; done) | (simp [BF6, gCheck, belowB, hs, hr, hid, hrd, anilCheck, hb, hne, hne', hne0, hne00, hne1, St.get_drop]; omega))); clear hA hB A B) | (refine hB ?_; clear hA hB A B) | (refine onV_if ?_ ?_; (focus (first | omega | (refine ⟨?_, ?_⟩ <;> omega))); simp only [onV_s]; refine hA _ _ _ ?_ ?_; (focus (first | (simp [BF6, gCheck, belowB, hs, hr, hid, hrd, anilCheck, hb, hne, hne', hne0, hne00, hne1, St.get_drop]; done) | (simp [BF6, gCheck, belowB, hs, hr, hid, hrd, anilCheck, hb, hne, hne', hne0, hne00, hne1, St.get_drop]; omega))); clear hA hB A B))
      | (refine RQ.nl ?_; refine hk _ _ ?_; clear hk k)
      | (refine RQ.st fun A B hA hB => ?_; simp [BF6, gCheck, belowB, hs, hr, hid, hrd, anilCheck, hb, hne, hne', hne0, hne00, hne1, St.get_drop, onW_t, onW_f, onV_s]; first | (refine hA _ _ _ ?_ (by first | exact .inl rfl | exact .inr (by decide)) ?_; (focus (first | (simp [BF6, gCheck, belowB, hs, hr, hid, hrd, anilCheck, hb, hne, hne', hne0, hne00, hne1, St.get_drop]; done) | (simp [BF6, gCheck, belowB, hs, hr, hid, hrd, anilCheck, hb, hne, hne', hne0, hne00, hne1, St.get_drop]; omega))); clear hA hB A B) | (refine hB ?_; clear hA hB A B) | (refine onV_if ?_ ?_; (focus (first | omega | (refine ⟨?_, ?_⟩ <;> omega))); simp only [onV_s]; refine hA _ _ _ ?_ (by first | exact .inl rfl | exact .inr (by decide)) ?_; (focus (first | (simp [BF6, gCheck, belowB, hs, hr, hid, hrd, anilCheck, hb, hne, hne', hne0, hne00, hne1, St.get_drop]; done) | (simp [BF6, gCheck, belowB, hs, hr, hid, hrd, anilCheck, hb, hne, hne', hne0, hne00, hne1, St.get_drop]; omega))); clear hA hB A B))
      | refine WP.sr fun k hk => ?_ | refine WP.r fun k hk => ?_
      | refine WP.sd _ rfl fun k hk => ?_ | refine WP.d _ rfl fun k hk => ?_
      | (refine WP.cc fun A B hA hB => ?_; simp [BF6, gCheck, belowB, hs, hr, hid, hrd, anilCheck, hb, hne, hne', hne0, hne00, hne1, St.get_drop, onB_t, onB_f]; first | (refine hA ?_; clear hA hB A B) | (refine hB ?_; clear hA hB A B) | (refine onB_if (fun h => hA ?_) (fun h => hB ?_) <;> clear hA hB A B))
      | refine WP.q ?_ | refine WP.b ?_)
  all_goals
    refine ⟨.inr rfl, by simp, by simp; try omega, by simp, by simp, fun _ => ⟨fun j hj => ?_, fun j hj hw o ho => ?_⟩⟩
    · by_cases h1 : j = id
      · simp [h1]
      · simp [h1, St.get_drop] <;> first | done | rfl
    · by_cases h1 : j = id
      · simp [h1] at ho; subst ho; simp; omega
      · by_cases h2 : j = s.nx
        · simp [h2, hne] at ho; subst ho; simp
          rintro e (⟨c, _, rfl⟩ | ⟨c, _, rfl⟩) y hy <;> (simp at hy; subst hy; simp)
        · simp [h1, h2, St.get_drop] at ho hw hj
          try omega
def unrow : List (List AV) → Option (List UInt8)
  | [] => some []
  | [.int .u8 n] :: l => if 0 ≤ n ∧ n < 256 then (unrow l).map (UInt8.ofNat n.toNat :: ·) else none
  | _ => none
@[simp] theorem unrow_row (x : List UInt8) : unrow (byteRow x) = some x := by
  unfold byteRow
  induction x with
  | nil => rfl
  | cons c x ih =>
    have h : ((c.toNat : Int) < 256) := by have := c.toNat_lt; omega
    simp [unrow, ih, h]
theorem unrow_eq : ∀ {es : List (List AV)} {x : List UInt8}, unrow es = some x → es = byteRow x := by
  intro es
  induction es with
  | nil => intro x h; cases h; rfl
  | cons e es ih =>
    intro x h
    unfold unrow at h
    split at h
    · rename_i heq; cases heq
    · rename_i n l heq
      simp only [List.cons.injEq] at heq
      obtain ⟨rfl, rfl⟩ := heq
      split at h
      · rename_i hn
        obtain ⟨y, hy, rfl⟩ := Option.map_eq_some_iff.1 h
        rw [ih hy]
        simp only [byteRow, List.map_cons, List.cons.injEq, and_true]
        congr 1
        simp
        omega
      · cases h
    · cases h
def okp (id : Nat) : AV → Bool
  | .np => true
  | .ptr i 0 => i == id
  | _ => false
theorem okp_eq {id : Nat} {p : AV} (h : okp id p = true) : p = .np ∨ p = .ptr id 0 := by
  unfold okp at h
  split at h
  · exact .inl rfl
  · simp at h; exact .inr (by rw [h])
  · cases h
def gWrite (xs : List AV) (s : St) : Option (AV × St × List Nat) :=
  match xs with
  | [.ptr id 0, .str x] => if id < s.nx then (match s.get id with
    | some (.var 58 [p, b]) => if okp id p then (match b with
      | .nsl => if x.length ≤ 140737488355328 then some (.tup [.int .i64 x.length, .nif], (s.push (.row 1 (true, 5) (byteRow x))).put id (.var 58 [.ptr id 0, .ls s.nx 0 x.length]), [id]) else none
      | .ls rd 0 n => if rd < s.nx then (match s.get rd with
        | some (.row 1 (true, 5) es) => match unrow es with
          | some y => if n = y.length ∧ y.length + x.length ≤ 140737488355328 then
              some (.tup [.int .i64 x.length, .nif], ((s.drop rd).push (.row 1 (true, 5) (byteRow (y ++ x)))).put id (.var 58 [.ptr id 0, .ls s.nx 0 (y.length + x.length)]), [id, rd]) else none
          | none => none
        | _ => none) else none
      | _ => none) else none
    | _ => none) else none
  | _ => none
theorem gWrite_ok {xs : List AV} {r : AV} {s' : St} {l : List Nat} (h : gWrite xs s = some (r, s', l)) : FT (env K gw) (fun id => id ∈ l) 36 xs s r s' := by
  unfold gWrite at h
  split at h
  · split at h
    · rename_i hid
      split at h
      · rename_i hs
        split at h
        · rename_i hp
          split at h
          · split at h
            · rename_i hx
              cases h
              exact ft30a hid hs (okp_eq hp) hx
            · cases h
          · split at h
            · rename_i hrd
              split at h
              · rename_i hr
                split at h
                · rename_i y hy
                  split at h
                  · rename_i hc
                    cases h
                    obtain ⟨rfl, hc⟩ := hc
                    rw [unrow_eq hy] at hr
                    exact ft30b hid hrd hs hr (okp_eq hp) hc
                  · cases h
                · cases h
              · cases h
            · cases h
          · cases h
        · cases h
      · cases h
    · cases h
  · cases h
def BF7 : Fns := BF6.add 36 gWrite
theorem F7_ok : FOk (env K gw) BF7 := F6_ok.add fun xs s r s' l h => gWrite_ok h

theorem ft32a {id : Nat} {p : AV} (hs : s.get id = some (.var 58 [p, .nsl])) : FT (env K gw) NoW 37 [.ptr id 0] s (.str []) s := by
  refine FT.pure (fn := Tryd.f37) F7_ok mixed Tryd.func37 rfl (by rfl) rfl rfl (by simp) rfl fun μ w => ?_
  repeat' (first
    | refine WP.t ?_ | refine WP.k ?_ | refine WP.e ?_ | refine Qn ?_ | refine Qr ?_ | refine Qe ?_ | refine Bn ?_ | refine Br ?_ | refine Be ?_ | refine Bx (by decide) ?_
    | (refine RS.nl ?_; refine hk _ _ ?_; clear hk k)
    | (refine RS.st fun A B hA hB => ?_; simp [hs, anilCheck, ausd, aus, onW_t, onW_f, onV_s]; first | (refine hA _ _ _ ?_ ?_; (focus (first | (simp [hs, anilCheck, ausd, aus]; done) | (simp [hs, anilCheck, ausd, aus]; omega))); clear hA hB A B) | (refine hB ?_; clear hA hB A B) | (refine onV_if ?_ ?_; (focus (first | omega | (refine ⟨?_, ?_⟩ <;> omega))); simp only [onV_s]; refine hA _ _ _ ?_ ?_; (focus (first | (simp [hs, anilCheck, ausd, aus]; done) | (simp [hs, anilCheck, ausd, aus]; omega))); clear hA hB A B))
    | (refine RQ.nl ?_; refine hk _ _ ?_; clear hk k)
    | (refine RQ.st fun A B hA hB => ?_; simp [hs, anilCheck, ausd, aus, onW_t, onW_f, onV_s]; first | (refine hA _ _ _ ?_ (by first | exact .inl rfl | exact .inr (by decide)) ?_; (focus (first | (simp [hs, anilCheck, ausd, aus]; done) | (simp [hs, anilCheck, ausd, aus]; omega))); clear hA hB A B) | (refine hB ?_; clear hA hB A B) | (refine onV_if ?_ ?_; (focus (first | omega | (refine ⟨?_, ?_⟩ <;> omega))); simp only [onV_s]; refine hA _ _ _ ?_ (by first | exact .inl rfl | exact .inr (by decide)) ?_; (focus (first | (simp [hs, anilCheck, ausd, aus]; done) | (simp [hs, anilCheck, ausd, aus]; omega))); clear hA hB A B))
    | refine WP.sr fun k hk => ?_ | refine WP.r fun k hk => ?_
    | refine WP.sd _ rfl fun k hk => ?_ | refine WP.d _ rfl fun k hk => ?_
    | (refine WP.cc fun A B hA hB => ?_; simp [hs, anilCheck, ausd, aus, onB_t, onB_f]; first | (refine hA ?_; clear hA hB A B) | (refine hB ?_; clear hA hB A B) | (refine onB_if (fun h => hA ?_) (fun h => hB ?_) <;> clear hA hB A B))
    | refine WP.q ?_ | refine WP.b ?_)
  simp
theorem ft32b {id rd : Nat} {p : AV} {y : List UInt8} (hid : id < s.nx) (hrd : rd < s.nx) (hs : s.get id = some (.var 58 [p, .ls rd 0 y.length])) (hr : s.get rd = some (.row 1 (true, 5) (byteRow y))) (h0 : 0 < y.length) (hb : y.length ≤ 140737488355328) :
    FT (env K gw) (fun i => i ∈ [rd]) 37 [.ptr id 0] s (.str y) (s.put rd (.row 1 (false, 5) (byteRow y))) := by
  refine FT.own (fn := Tryd.f37) F7_ok mixed Tryd.func37 rfl (by rfl) rfl rfl (by simp) rfl fun μ w => ?_
  have hm := byteRow_bytes y
  have h1 : ((y.length : Int) ≤ 9223372036854775807) := by omega
  have hl := byteRow_length y
  have ht : List.take y.length (byteRow y) = byteRow y := by rw [← hl, List.take_length]
  repeat' (first
    | refine WP.t ?_ | refine WP.k ?_ | refine WP.e ?_ | refine Qn ?_ | refine Qr ?_ | refine Qe ?_ | refine Bn ?_ | refine Br ?_ | refine Be ?_ | refine Bx (by decide) ?_
    | (refine RS.nl ?_; refine hk _ _ ?_; clear hk k)
    | (refine RS.st fun A B hA hB => ?_; simp [hs, hr, h0, h1, hm, hl, ht, anilCheck, ausd, aus, isPtrTo, onW_t, onW_f, onV_s]; first | (refine hA _ _ _ ?_ ?_; (focus (first | (simp [hs, hr, h0, h1, hm, hl, ht, anilCheck, ausd, aus, isPtrTo]; done) | (simp [hs, hr, h0, h1, hm, hl, ht, anilCheck, ausd, aus, isPtrTo]; omega))); clear hA hB A B) | (refine hB ?_; clear hA hB A B) | (refine onV_if ?_ ?_; (focus (first | omega | (refine ⟨?_, ?_⟩ <;> omega))); simp only [onV_s]; refine hA _ _ _ ?_ ?_; (focus (first | (simp [hs, hr, h0, h1, hm, hl, ht, anilCheck, ausd, aus, isPtrTo]; done) | (simp [hs, hr, h0, h1, hm, hl, ht, anilCheck, ausd, aus, isPtrTo]; omega))); clear hA hB A B))
    | (refine RQ.nl ?_; refine hk _ _ ?_; clear hk k)
    | (refine RQ.st fun A B hA hB => ?_; simp [hs, hr, h0, h1, hm, hl, ht, anilCheck, ausd, aus, isPtrTo, onW_t, onW_f, onV_s]; first | (refine hA _ _ _ ?_ (by first | exact .inl rfl | exact .inr (by decide)) ?_; (focus (first | (simp [hs, hr, h0, h1, hm, hl, ht, anilCheck, ausd, aus, isPtrTo]; done) | (simp [hs, hr, h0, h1, hm, hl, ht, anilCheck, ausd, aus, isPtrTo]; omega))); clear hA hB A B) | (refine hB ?_; clear hA hB A B) | (refine onV_if ?_ ?_; (focus (first | omega | (refine ⟨?_, ?_⟩ <;> omega))); simp only [onV_s]; refine hA _ _ _ ?_ (by first | exact .inl rfl | exact .inr (by decide)) ?_; (focus (first | (simp [hs, hr, h0, h1, hm, hl, ht, anilCheck, ausd, aus, isPtrTo]; done) | (simp [hs, hr, h0, h1, hm, hl, ht, anilCheck, ausd, aus, isPtrTo]; omega))); clear hA hB A B))
    | refine WP.sr fun k hk => ?_ | refine WP.r fun k hk => ?_
    | refine WP.sd _ rfl fun k hk => ?_ | refine WP.d _ rfl fun k hk => ?_
    | (refine WP.cc fun A B hA hB => ?_; simp [hs, hr, h0, h1, hm, hl, ht, anilCheck, ausd, aus, isPtrTo, onB_t, onB_f]; first | (refine hA ?_; clear hA hB A B) | (refine hB ?_; clear hA hB A B) | (refine onB_if (fun h => hA ?_) (fun h => hB ?_) <;> clear hA hB A B))
    | refine WP.q ?_ | refine WP.b ?_)
  refine ⟨.inr rfl, by simp, by simp, by simp, by simp, fun _ => ⟨fun j hj => rfl, fun j hj hw o ho => ?_⟩⟩
  by_cases e : j = rd
  · simp [e] at ho; subst ho; simp [byteRow]
  · simp [e] at hw hj; omega
def gString (xs : List AV) (s : St) : Option (AV × St × List Nat) :=
  match xs with
  | [.ptr id 0] => if id < s.nx then (match s.get id with
    | some (.var 58 [_, b]) => (match b with
      | .nsl => some (.str [], s, [])
      | .ls rd 0 n => if rd < s.nx then (match s.get rd with
        | some (.row 1 (true, 5) es) => match unrow es with
          | some y => if n = y.length ∧ 0 < y.length ∧ y.length ≤ 140737488355328 then some (.str y, s.put rd (.row 1 (false, 5) (byteRow y)), [rd]) else none
          | none => none
        | _ => none) else none
      | _ => none)
    | _ => none) else none
  | _ => none
theorem gString_ok {xs : List AV} {r : AV} {s' : St} {l : List Nat} (h : gString xs s = some (r, s', l)) : FT (env K gw) (fun id => id ∈ l) 37 xs s r s' := by
  unfold gString at h
  split at h
  · split at h
    · rename_i hid
      split at h
      · rename_i hs
        split at h
        · cases h
          have : (fun id => id ∈ ([] : List Nat)) = NoW := by funext id; simp
          rw [this]
          exact ft32a hs
        · split at h
          · rename_i hrd
            split at h
            · rename_i hr
              split at h
              · rename_i y hy
                split at h
                · rename_i hc
                  cases h
                  obtain ⟨rfl, hc0, hc⟩ := hc
                  rw [unrow_eq hy] at hr
                  exact ft32b hid hrd hs hr hc0 hc
                · cases h
              · cases h
            · cases h
          · cases h
        · cases h
      · cases h
    · cases h
  · cases h
def BF8 : Fns := BF7.add 37 gString
theorem F8_ok : FOk (env K gw) BF8 := F7_ok.add fun xs s r s' l h => gString_ok h
end
end Go.Am
namespace Go.Am
open Go.Proofs
section
variable {K : Nat} {gw : World} {s : St}
attribute [local simp] awanted xop zOf zrow aop ev T0 Slots.put Slots.set Slots.get awr WOk AV.may ofConst abinop aint isConst St.get_push St.get_put St.live AV.fit AV.cells AV.one fieldOf afieldAddr aload ofCells astore splice May eqres env_ti FinP FinZ FinW ares aresL ares1 Fns.addP Fns.add Fns.a0 Fns.a1 Fns.a2 Fns.a3 Fns.a4 abuiltin alenOk alen aindex elemOfT elemId abuildSlice afill chunks ard aappend isSS AV.isStr aminmax placesOf abuild afield aidx isStrD isStrDesc astrop aslice asliceOk abound arange anext aextract aunop aeq AV.ck avseq aveq aconv aconvert onB_t onB_f List.range_succ ti0 ti1 ti2 ti3 ti4 ti5 ti6 ti7 ti8 ti9 ti10 ti11 ti12 ti13 ti14 ti15 ti16 ti17 ti18 ti19 ti20 ti21 ti22 ti23 ti24 ti25 ti26 ti27 ti28 ti29 ti30 ti31 ti32 ti33 ti34 ti35 ti36 ti37 ti38 ti39 ti40 ti41 ti42 ti43 ti44 ti45 ti46 ti47 ti48 ti49 ti50 ti51 ti52 ti53 ti54 ti55 ti56 ti57 ti58 ti59 ti60 ti61 ti62 ti63 ti64 ti65 ti66 ti67 ti68 ti69 ti70 ti71 ti72 ti73 ti74 ti75 ti76 ti77 ti78 ti79 ti80 ti81 ti82 ti83 ti84 ti85 ti86 ti87 ti88 ti89 ti90 ti91 ti92 ti93 ti94 ti95 ti96 ti97 ti98 ti99 ti100 ti101
def FC : Fns := FB.a1 38 vStr fun x => if x.length < LIM then some (.bool (plain x)) else none
theorem FC_ok : FOk (env K gw) FC := FB_ok.a1 fun a s r h => by split at h <;> cases h; exact ft_Plain a ‹_›
/-- The words that are no names. -/
abbrev kSource : Str := [115, 111, 117, 114, 99, 101]
abbrev kClean : Str := [99, 108, 101, 97, 110]
abbrev kSink : Str := [115, 105, 110, 107]
abbrev kBranch : Str := [98, 114, 97, 110, 99, 104]
abbrev kJump : Str := [106, 117, 109, 112]
abbrev kReturn : Str := [114, 101, 116, 117, 114, 110]
def keyB (x : Str) : Bool := x == kSource || x == kClean || x == kSink || x == kBranch || x == kJump || x == kReturn
def nameB (x : Str) : Bool := !keyB x && plain x && decide (x.length ≤ 32)
theorem ft_Name (x : Str) (hl : x.length < LIM) : FT (env K gw) NoW 20 [.str x] s (.bool (nameB x)) s := by
  refine FT.pure (fn := Tryd.f20) FC_ok mixed Tryd.func20 (by kernel_rfl) (by rfl) rfl rfl (by simp) rfl fun μ w => ?_
  by_cases h1 : x = kSource
  · subst h1
    repeat' (first
      | refine WP.t ?_ | refine WP.k ?_ | refine WP.e ?_ | refine Qn ?_ | refine Qr ?_ | refine Qe ?_ | refine Bn ?_ | refine Br ?_ | refine Be ?_ | refine Bx (by decide) ?_
      | (refine RS.nl ?_; refine hk _ _ ?_; clear hk k)
      | (refine RS.st fun A B hA hB => ?_; simp [FC, onW_t, onW_f, onV_s]; first | (refine hA _ _ _ ?_ ?_; (focus (first | (simp [FC]; done) | (simp [FC]; omega))); clear hA hB A B) | (refine hB ?_; clear hA hB A B) | (refine onV_if ?_ ?_; (focus (first | omega | (refine ⟨?_, ?_⟩ <;> omega))); simp only [onV_s]; refine hA _ _ _ ?_ ?_; (focus (first | (simp [FC]; done) | (simp [FC]; omega))); clear hA hB A B))
      | (refine RQ.nl ?_; refine hk _ _ ?_; clear hk k)
      | (refine RQ.st fun A B hA hB => ?_; simp [FC, onW_t, onW_f, onV_s]; first | (refine hA _ _ _ ?_ (by first | exact .inl rfl | exact .inr (by decide)) ?_; (focus (first | (simp [FC]; done) | (simp [FC]; omega))); clear hA hB A B) | (refine hB ?_; clear hA hB A B) | (refine onV_if ?_ ?_; (focus (first | omega | (refine ⟨?_, ?_⟩ <;> omega))); simp only [onV_s]; refine hA _ _ _ ?_ (by first | exact .inl rfl | exact .inr (by decide)) ?_; (focus (first | (simp [FC]; done) | (simp [FC]; omega))); clear hA hB A B))
      | refine WP.sr fun k hk => ?_ | refine WP.r fun k hk => ?_
      | refine WP.sd _ rfl fun k hk => ?_ | refine WP.d _ rfl fun k hk => ?_
      | (refine WP.cc fun A B hA hB => ?_; simp [FC, onB_t, onB_f]; first | (refine hA ?_; clear hA hB A B) | (refine hB ?_; clear hA hB A B) | (refine onB_if (fun h => hA ?_) (fun h => hB ?_) <;> clear hA hB A B))
      | refine WP.q ?_ | refine WP.b ?_)
    simp [nameB, keyB]
  by_cases h2 : x = kClean
  · subst h2
    repeat' (first
      | refine WP.t ?_ | refine WP.k ?_ | refine WP.e ?_ | refine Qn ?_ | refine Qr ?_ | refine Qe ?_ | refine Bn ?_ | refine Br ?_ | refine Be ?_ | refine Bx (by decide) ?_
      | (refine RS.nl ?_; refine hk _ _ ?_; clear hk k)
      | (refine RS.st fun A B hA hB => ?_; simp [FC, onW_t, onW_f, onV_s]; first | (refine hA _ _ _ ?_ ?_; (focus (first | (simp [FC]; done) | (simp [FC]; omega))); clear hA hB A B) | (refine hB ?_; clear hA hB A B) | (refine onV_if ?_ ?_; (focus (first | omega | (refine ⟨?_, ?_⟩ <;> omega))); simp only [onV_s]; refine hA _ _ _ ?_ ?_; (focus (first | (simp [FC]; done) | (simp [FC]; omega))); clear hA hB A B))
      | (refine RQ.nl ?_; refine hk _ _ ?_; clear hk k)
      | (refine RQ.st fun A B hA hB => ?_; simp [FC, onW_t, onW_f, onV_s]; first | (refine hA _ _ _ ?_ (by first | exact .inl rfl | exact .inr (by decide)) ?_; (focus (first | (simp [FC]; done) | (simp [FC]; omega))); clear hA hB A B) | (refine hB ?_; clear hA hB A B) | (refine onV_if ?_ ?_; (focus (first | omega | (refine ⟨?_, ?_⟩ <;> omega))); simp only [onV_s]; refine hA _ _ _ ?_ (by first | exact .inl rfl | exact .inr (by decide)) ?_; (focus (first | (simp [FC]; done) | (simp [FC]; omega))); clear hA hB A B))
      | refine WP.sr fun k hk => ?_ | refine WP.r fun k hk => ?_
      | refine WP.sd _ rfl fun k hk => ?_ | refine WP.d _ rfl fun k hk => ?_
      | (refine WP.cc fun A B hA hB => ?_; simp [FC, onB_t, onB_f]; first | (refine hA ?_; clear hA hB A B) | (refine hB ?_; clear hA hB A B) | (refine onB_if (fun h => hA ?_) (fun h => hB ?_) <;> clear hA hB A B))
      | refine WP.q ?_ | refine WP.b ?_)
    simp [nameB, keyB]
  by_cases h3 : x = kSink
  · subst h3
    repeat' (first
      | refine WP.t ?_ | refine WP.k ?_ | refine WP.e ?_ | refine Qn ?_ | refine Qr ?_ | refine Qe ?_ | refine Bn ?_ | refine Br ?_ | refine Be ?_ | refine Bx (by decide) ?_
      | (refine RS.nl ?_; refine hk _ _ ?_; clear hk k)
      | (refine RS.st fun A B hA hB => ?_; simp [FC, onW_t, onW_f, onV_s]; first | (refine hA _ _ _ ?_ ?_; (focus (first | (simp [FC]; done) | (simp [FC]; omega))); clear hA hB A B) | (refine hB ?_; clear hA hB A B) | (refine onV_if ?_ ?_; (focus (first | omega | (refine ⟨?_, ?_⟩ <;> omega))); simp only [onV_s]; refine hA _ _ _ ?_ ?_; (focus (first | (simp [FC]; done) | (simp [FC]; omega))); clear hA hB A B))
      | (refine RQ.nl ?_; refine hk _ _ ?_; clear hk k)
      | (refine RQ.st fun A B hA hB => ?_; simp [FC, onW_t, onW_f, onV_s]; first | (refine hA _ _ _ ?_ (by first | exact .inl rfl | exact .inr (by decide)) ?_; (focus (first | (simp [FC]; done) | (simp [FC]; omega))); clear hA hB A B) | (refine hB ?_; clear hA hB A B) | (refine onV_if ?_ ?_; (focus (first | omega | (refine ⟨?_, ?_⟩ <;> omega))); simp only [onV_s]; refine hA _ _ _ ?_ (by first | exact .inl rfl | exact .inr (by decide)) ?_; (focus (first | (simp [FC]; done) | (simp [FC]; omega))); clear hA hB A B))
      | refine WP.sr fun k hk => ?_ | refine WP.r fun k hk => ?_
      | refine WP.sd _ rfl fun k hk => ?_ | refine WP.d _ rfl fun k hk => ?_
      | (refine WP.cc fun A B hA hB => ?_; simp [FC, onB_t, onB_f]; first | (refine hA ?_; clear hA hB A B) | (refine hB ?_; clear hA hB A B) | (refine onB_if (fun h => hA ?_) (fun h => hB ?_) <;> clear hA hB A B))
      | refine WP.q ?_ | refine WP.b ?_)
    simp [nameB, keyB]
  by_cases h4 : x = kBranch
  · subst h4
    repeat' (first
      | refine WP.t ?_ | refine WP.k ?_ | refine WP.e ?_ | refine Qn ?_ | refine Qr ?_ | refine Qe ?_ | refine Bn ?_ | refine Br ?_ | refine Be ?_ | refine Bx (by decide) ?_
      | (refine RS.nl ?_; refine hk _ _ ?_; clear hk k)
      | (refine RS.st fun A B hA hB => ?_; simp [FC, onW_t, onW_f, onV_s]; first | (refine hA _ _ _ ?_ ?_; (focus (first | (simp [FC]; done) | (simp [FC]; omega))); clear hA hB A B) | (refine hB ?_; clear hA hB A B) | (refine onV_if ?_ ?_; (focus (first | omega | (refine ⟨?_, ?_⟩ <;> omega))); simp only [onV_s]; refine hA _ _ _ ?_ ?_; (focus (first | (simp [FC]; done) | (simp [FC]; omega))); clear hA hB A B))
      | (refine RQ.nl ?_; refine hk _ _ ?_; clear hk k)
      | (refine RQ.st fun A B hA hB => ?_; simp [FC, onW_t, onW_f, onV_s]; first | (refine hA _ _ _ ?_ (by first | exact .inl rfl | exact .inr (by decide)) ?_; (focus (first | (simp [FC]; done) | (simp [FC]; omega))); clear hA hB A B) | (refine hB ?_; clear hA hB A B) | (refine onV_if ?_ ?_; (focus (first | omega | (refine ⟨?_, ?_⟩ <;> omega))); simp only [onV_s]; refine hA _ _ _ ?_ (by first | exact .inl rfl | exact .inr (by decide)) ?_; (focus (first | (simp [FC]; done) | (simp [FC]; omega))); clear hA hB A B))
      | refine WP.sr fun k hk => ?_ | refine WP.r fun k hk => ?_
      | refine WP.sd _ rfl fun k hk => ?_ | refine WP.d _ rfl fun k hk => ?_
      | (refine WP.cc fun A B hA hB => ?_; simp [FC, onB_t, onB_f]; first | (refine hA ?_; clear hA hB A B) | (refine hB ?_; clear hA hB A B) | (refine onB_if (fun h => hA ?_) (fun h => hB ?_) <;> clear hA hB A B))
      | refine WP.q ?_ | refine WP.b ?_)
    simp [nameB, keyB]
  by_cases h5 : x = kJump
  · subst h5
    repeat' (first
      | refine WP.t ?_ | refine WP.k ?_ | refine WP.e ?_ | refine Qn ?_ | refine Qr ?_ | refine Qe ?_ | refine Bn ?_ | refine Br ?_ | refine Be ?_ | refine Bx (by decide) ?_
      | (refine RS.nl ?_; refine hk _ _ ?_; clear hk k)
      | (refine RS.st fun A B hA hB => ?_; simp [FC, onW_t, onW_f, onV_s]; first | (refine hA _ _ _ ?_ ?_; (focus (first | (simp [FC]; done) | (simp [FC]; omega))); clear hA hB A B) | (refine hB ?_; clear hA hB A B) | (refine onV_if ?_ ?_; (focus (first | omega | (refine ⟨?_, ?_⟩ <;> omega))); simp only [onV_s]; refine hA _ _ _ ?_ ?_; (focus (first | (simp [FC]; done) | (simp [FC]; omega))); clear hA hB A B))
      | (refine RQ.nl ?_; refine hk _ _ ?_; clear hk k)
      | (refine RQ.st fun A B hA hB => ?_; simp [FC, onW_t, onW_f, onV_s]; first | (refine hA _ _ _ ?_ (by first | exact .inl rfl | exact .inr (by decide)) ?_; (focus (first | (simp [FC]; done) | (simp [FC]; omega))); clear hA hB A B) | (refine hB ?_; clear hA hB A B) | (refine onV_if ?_ ?_; (focus (first | omega | (refine ⟨?_, ?_⟩ <;> omega))); simp only [onV_s]; refine hA _ _ _ ?_ (by first | exact .inl rfl | exact .inr (by decide)) ?_; (focus (first | (simp [FC]; done) | (simp [FC]; omega))); clear hA hB A B))
      | refine WP.sr fun k hk => ?_ | refine WP.r fun k hk => ?_
      | refine WP.sd _ rfl fun k hk => ?_ | refine WP.d _ rfl fun k hk => ?_
      | (refine WP.cc fun A B hA hB => ?_; simp [FC, onB_t, onB_f]; first | (refine hA ?_; clear hA hB A B) | (refine hB ?_; clear hA hB A B) | (refine onB_if (fun h => hA ?_) (fun h => hB ?_) <;> clear hA hB A B))
      | refine WP.q ?_ | refine WP.b ?_)
    simp [nameB, keyB]
  by_cases h6 : x = kReturn
  · subst h6
    repeat' (first
      | refine WP.t ?_ | refine WP.k ?_ | refine WP.e ?_ | refine Qn ?_ | refine Qr ?_ | refine Qe ?_ | refine Bn ?_ | refine Br ?_ | refine Be ?_ | refine Bx (by decide) ?_
      | (refine RS.nl ?_; refine hk _ _ ?_; clear hk k)
      | (refine RS.st fun A B hA hB => ?_; simp [FC, onW_t, onW_f, onV_s]; first | (refine hA _ _ _ ?_ ?_; (focus (first | (simp [FC]; done) | (simp [FC]; omega))); clear hA hB A B) | (refine hB ?_; clear hA hB A B) | (refine onV_if ?_ ?_; (focus (first | omega | (refine ⟨?_, ?_⟩ <;> omega))); simp only [onV_s]; refine hA _ _ _ ?_ ?_; (focus (first | (simp [FC]; done) | (simp [FC]; omega))); clear hA hB A B))
      | (refine RQ.nl ?_; refine hk _ _ ?_; clear hk k)
      | (refine RQ.st fun A B hA hB => ?_; simp [FC, onW_t, onW_f, onV_s]; first | (refine hA _ _ _ ?_ (by first | exact .inl rfl | exact .inr (by decide)) ?_; (focus (first | (simp [FC]; done) | (simp [FC]; omega))); clear hA hB A B) | (refine hB ?_; clear hA hB A B) | (refine onV_if ?_ ?_; (focus (first | omega | (refine ⟨?_, ?_⟩ <;> omega))); simp only [onV_s]; refine hA _ _ _ ?_ (by first | exact .inl rfl | exact .inr (by decide)) ?_; (focus (first | (simp [FC]; done) | (simp [FC]; omega))); clear hA hB A B))
      | refine WP.sr fun k hk => ?_ | refine WP.r fun k hk => ?_
      | refine WP.sd _ rfl fun k hk => ?_ | refine WP.d _ rfl fun k hk => ?_
      | (refine WP.cc fun A B hA hB => ?_; simp [FC, onB_t, onB_f]; first | (refine hA ?_; clear hA hB A B) | (refine hB ?_; clear hA hB A B) | (refine onB_if (fun h => hA ?_) (fun h => hB ?_) <;> clear hA hB A B))
      | refine WP.q ?_ | refine WP.b ?_)
    simp [nameB, keyB]
  have hk : keyB x = false := by simp [keyB, h1, h2, h3, h4, h5, h6]
  replace h1 : (x == kSource) = false := by simpa using h1
  replace h2 : (x == kClean) = false := by simpa using h2
  replace h3 : (x == kSink) = false := by simpa using h3
  replace h4 : (x == kBranch) = false := by simpa using h4
  replace h5 : (x == kJump) = false := by simpa using h5
  replace h6 : (x == kReturn) = false := by simpa using h6
  have hl' := hl
  cases hp : plain x
  · skip
    repeat' (first
      | refine WP.t ?_ | refine WP.k ?_ | refine WP.e ?_ | refine Qn ?_ | refine Qr ?_ | refine Qe ?_ | refine Bn ?_ | refine Br ?_ | refine Be ?_ | refine Bx (by decide) ?_
      | (refine RS.nl ?_; refine hk _ _ ?_; clear hk k)
      | (refine RS.st fun A B hA hB => ?_; simp [FC, h1, h2, h3, h4, h5, h6, hl', hp, onW_t, onW_f, onV_s]; first | (refine hA _ _ _ ?_ ?_; (focus (first | (simp [FC, h1, h2, h3, h4, h5, h6, hl', hp]; done) | (simp [FC, h1, h2, h3, h4, h5, h6, hl', hp]; omega))); clear hA hB A B) | (refine hB ?_; clear hA hB A B) | (refine onV_if ?_ ?_; (focus (first | omega | (refine ⟨?_, ?_⟩ <;> omega))); simp only [onV_s]; refine hA _ _ _ ?_ ?_; (focus (first | (simp [FC, h1, h2, h3, h4, h5, h6, hl', hp]; done) | (simp [FC, h1, h2, h3, h4, h5, h6, hl', hp]; omega))); clear hA hB A B))
      | (refine RQ.nl ?_; refine hk _ _ ?_; clear hk k)
      | (refine RQ.st fun A B hA hB => ?_; simp [FC, h1, h2, h3, h4, h5, h6, hl', hp, onW_t, onW_f, onV_s]; first | (refine hA _ _ _ ?_ (by first | exact .inl rfl | exact .inr (by decide)) ?_; (focus (first | (simp [FC, h1, h2, h3, h4, h5, h6, hl', hp]; done) | (simp [FC, h1, h2, h3, h4, h5, h6, hl', hp]; omega))); clear hA hB A B) | (refine hB ?_; clear hA hB A B) | (refine onV_if ?_ ?_; (focus (first | omega | (refine ⟨?_, ?_⟩ <;> omega))); simp only [onV_s]; refine hA _ _ _ ?_ (by first | exact .inl rfl | exact .inr (by decide)) ?_; (focus (first | (simp [FC, h1, h2, h3, h4, h5, h6, hl', hp]; done) | (simp [FC, h1, h2, h3, h4, h5, h6, hl', hp]; omega))); clear hA hB A B))
      | refine WP.sr fun k hk => ?_ | refine WP.r fun k hk => ?_
      | refine WP.sd _ rfl fun k hk => ?_ | refine WP.d _ rfl fun k hk => ?_
      | (refine WP.cc fun A B hA hB => ?_; simp [FC, h1, h2, h3, h4, h5, h6, hl', hp, onB_t, onB_f]; first | (refine hA ?_; clear hA hB A B) | (refine hB ?_; clear hA hB A B) | (refine onB_if (fun h => hA ?_) (fun h => hB ?_) <;> clear hA hB A B))
      | refine WP.q ?_ | refine WP.b ?_)
    simp [nameB, hk, hp]
  · skip
    repeat' (first
      | refine WP.t ?_ | refine WP.k ?_ | refine WP.e ?_ | refine Qn ?_ | refine Qr ?_ | refine Qe ?_ | refine Bn ?_ | refine Br ?_ | refine Be ?_ | refine Bx (by decide) ?_
      | (refine RS.nl ?_; refine hk _ _ ?_; clear hk k)
      | (refine RS.st fun A B hA hB => ?_; simp [FC, h1, h2, h3, h4, h5, h6, hl', hp, onW_t, onW_f, onV_s]; first | (refine hA _ _ _ ?_ ?_; (focus (first | (simp [FC, h1, h2, h3, h4, h5, h6, hl', hp]; done) | (simp [FC, h1, h2, h3, h4, h5, h6, hl', hp]; omega))); clear hA hB A B) | (refine hB ?_; clear hA hB A B) | (refine onV_if ?_ ?_; (focus (first | omega | (refine ⟨?_, ?_⟩ <;> omega))); simp only [onV_s]; refine hA _ _ _ ?_ ?_; (focus (first | (simp [FC, h1, h2, h3, h4, h5, h6, hl', hp]; done) | (simp [FC, h1, h2, h3, h4, h5, h6, hl', hp]; omega))); clear hA hB A B))
      | (refine RQ.nl ?_; refine hk _ _ ?_; clear hk k)
      | (refine RQ.st fun A B hA hB => ?_; simp [FC, h1, h2, h3, h4, h5, h6, hl', hp, onW_t, onW_f, onV_s]; first | (refine hA _ _ _ ?_ (by first | exact .inl rfl | exact .inr (by decide)) ?_; (focus (first | (simp [FC, h1, h2, h3, h4, h5, h6, hl', hp]; done) | (simp [FC, h1, h2, h3, h4, h5, h6, hl', hp]; omega))); clear hA hB A B) | (refine hB ?_; clear hA hB A B) | (refine onV_if ?_ ?_; (focus (first | omega | (refine ⟨?_, ?_⟩ <;> omega))); simp only [onV_s]; refine hA _ _ _ ?_ (by first | exact .inl rfl | exact .inr (by decide)) ?_; (focus (first | (simp [FC, h1, h2, h3, h4, h5, h6, hl', hp]; done) | (simp [FC, h1, h2, h3, h4, h5, h6, hl', hp]; omega))); clear hA hB A B))
      | refine WP.sr fun k hk => ?_ | refine WP.r fun k hk => ?_
      | refine WP.sd _ rfl fun k hk => ?_ | refine WP.d _ rfl fun k hk => ?_
      | (refine WP.cc fun A B hA hB => ?_; simp [FC, h1, h2, h3, h4, h5, h6, hl', hp, onB_t, onB_f]; first | (refine hA ?_; clear hA hB A B) | (refine hB ?_; clear hA hB A B) | (refine onB_if (fun h => hA ?_) (fun h => hB ?_) <;> clear hA hB A B))
      | refine WP.q ?_ | refine WP.b ?_)
    simp [nameB, hk, hp]
    omega
def FD : Fns := FC.a1 20 vStr fun x => if x.length < LIM then some (.bool (nameB x)) else none
theorem FD_ok : FOk (env K gw) FD := FC_ok.a1 fun a s r h => by split at h <;> cases h; exact ft_Name a ‹_›
theorem wrap_succ {i n : Nat} (h : i < n) (hn : n < LIM) : IntKind.i64.wrap ((i : Int) + 1) = (i : Int) + 1 := wrap64 (by omega) (by simp only [LIM] at hn; omega)
theorem ft_names (l : List Str) (hl : l.length < LIM) (hs : ∀ x ∈ l, x.length < LIM) : FT (env K gw) NoW 30 [.sl (l.map sc)] s (.bool (l.all nameB)) s := by
  refine FT.pure (fn := Tryd.f30) FD_ok mixed Tryd.func30 (by kernel_rfl) (by rfl) rfl rfl (by simp) rfl fun μ w => ?_
  repeat' (first
    | refine WP.t ?_ | refine WP.k ?_ | refine WP.e ?_ | refine Qn ?_ | refine Qr ?_ | refine Qe ?_ | refine Bn ?_ | refine Br ?_ | refine Be ?_ | refine Bx (by decide) ?_
    | (refine RS.nl ?_; refine hk _ _ ?_; clear hk k)
    | (refine RS.st fun A B hA hB => ?_; simp [onW_t, onW_t, onW_f, onV_s]; first | (refine hA _ _ _ ?_ ?_; (focus (first | (simp [onW_t]; done) | (simp [onW_t]; omega))); clear hA hB A B) | (refine hB ?_; clear hA hB A B) | (refine onV_if ?_ ?_; (focus (first | omega | (refine ⟨?_, ?_⟩ <;> omega))); simp only [onV_s]; refine hA _ _ _ ?_ ?_; (focus (first | (simp [onW_t]; done) | (simp [onW_t]; omega))); clear hA hB A B))
    | (refine RQ.nl ?_; refine hk _ _ ?_; clear hk k)
    | (refine RQ.st fun A B hA hB => ?_; simp [onW_t, onW_t, onW_f, onV_s]; first | (refine hA _ _ _ ?_ (by first | exact .inl rfl | exact .inr (by decide)) ?_; (focus (first | (simp [onW_t]; done) | (simp [onW_t]; omega))); clear hA hB A B) | (refine hB ?_; clear hA hB A B) | (refine onV_if ?_ ?_; (focus (first | omega | (refine ⟨?_, ?_⟩ <;> omega))); simp only [onV_s]; refine hA _ _ _ ?_ (by first | exact .inl rfl | exact .inr (by decide)) ?_; (focus (first | (simp [onW_t]; done) | (simp [onW_t]; omega))); clear hA hB A B))
    | refine WP.sr fun k hk => ?_ | refine WP.r fun k hk => ?_
    | refine WP.sd _ rfl fun k hk => ?_ | refine WP.d _ rfl fun k hk => ?_
    | (refine WP.cc fun A B hA hB => ?_; simp [onW_t, onB_t, onB_f]; first | (refine hA ?_; clear hA hB A B) | (refine hB ?_; clear hA hB A B) | (refine onB_if (fun h => hA ?_) (fun h => hB ?_) <;> clear hA hB A B))
    | refine WP.q ?_ | refine WP.b ?_)
  refine WP_loopS (fun i : Nat => [(5, .sl (l.map sc)), (6, .int .i64 l.length), (7, .int .i64 i)]) (fun i s' => i ≤ l.length ∧ s' = s ∧ (l.take i).all nameB = true) (fun i => l.length - i) 0 (by simp) ⟨by omega, rfl, by simp⟩ ?_
  rintro i _ ⟨hi, rfl, ht⟩
  by_cases hi2 : i < l.length
  · have hx : l[i]? = some l[i] := List.getElem?_eq_getElem hi2
    have hlx := hs l[i] (List.getElem_mem hi2)
    have htk : l.take (i + 1) = l.take i ++ [l[i]] := List.take_succ_eq_append_getElem hi2
    have hlt : (i : Int) < (l.length : Int) := by omega
    have hw := wrap_succ hi2 hl
    have hm : l[i] ∈ l := List.getElem_mem hi2
    generalize hv : l[i] = x at *
    cases hn : nameB x
    · skip
      repeat' (first
        | refine WP.t ?_ | refine WP.k ?_ | refine WP.e ?_ | refine Qn ?_ | refine Qr ?_ | refine Qe ?_ | refine Bn ?_ | refine Br ?_ | refine Be ?_ | refine Bx (by decide) ?_
        | (refine RS.nl ?_; refine hk _ _ ?_; clear hk k)
        | (refine RS.st fun A B hA hB => ?_; simp [FD, hi2, hx, hv, hlx, hn, hlt, sc, onW_t, onW_f, onV_s]; first | (refine hA _ _ _ ?_ ?_; (focus (first | (simp [FD, hi2, hx, hv, hlx, hn, hlt, sc]; done) | (simp [FD, hi2, hx, hv, hlx, hn, hlt, sc]; omega))); clear hA hB A B) | (refine hB ?_; clear hA hB A B) | (refine onV_if ?_ ?_; (focus (first | omega | (refine ⟨?_, ?_⟩ <;> omega))); simp only [onV_s]; refine hA _ _ _ ?_ ?_; (focus (first | (simp [FD, hi2, hx, hv, hlx, hn, hlt, sc]; done) | (simp [FD, hi2, hx, hv, hlx, hn, hlt, sc]; omega))); clear hA hB A B))
        | (refine RQ.nl ?_; refine hk _ _ ?_; clear hk k)
        | (refine RQ.st fun A B hA hB => ?_; simp [FD, hi2, hx, hv, hlx, hn, hlt, sc, onW_t, onW_f, onV_s]; first | (refine hA _ _ _ ?_ (by first | exact .inl rfl | exact .inr (by decide)) ?_; (focus (first | (simp [FD, hi2, hx, hv, hlx, hn, hlt, sc]; done) | (simp [FD, hi2, hx, hv, hlx, hn, hlt, sc]; omega))); clear hA hB A B) | (refine hB ?_; clear hA hB A B) | (refine onV_if ?_ ?_; (focus (first | omega | (refine ⟨?_, ?_⟩ <;> omega))); simp only [onV_s]; refine hA _ _ _ ?_ (by first | exact .inl rfl | exact .inr (by decide)) ?_; (focus (first | (simp [FD, hi2, hx, hv, hlx, hn, hlt, sc]; done) | (simp [FD, hi2, hx, hv, hlx, hn, hlt, sc]; omega))); clear hA hB A B))
        | refine WP.sr fun k hk => ?_ | refine WP.r fun k hk => ?_
        | refine WP.sd _ rfl fun k hk => ?_ | refine WP.d _ rfl fun k hk => ?_
        | (refine WP.cc fun A B hA hB => ?_; simp [FD, hi2, hx, hv, hlx, hn, hlt, sc, onB_t, onB_f]; first | (refine hA ?_; clear hA hB A B) | (refine hB ?_; clear hA hB A B) | (refine onB_if (fun h => hA ?_) (fun h => hB ?_) <;> clear hA hB A B))
        | refine WP.q ?_ | refine WP.b ?_)
      have : l.all nameB = false := List.all_eq_false.2 ⟨x, hm, by simp [hn]⟩
      simp [this]
    · skip
      repeat' (first
        | refine WP.t ?_ | refine WP.k ?_ | refine WP.e ?_ | refine Qn ?_ | refine Qr ?_ | refine Qe ?_ | refine Bn ?_ | refine Br ?_ | refine Be ?_ | refine Bx (by decide) ?_
        | (refine RS.nl ?_; refine hk _ _ ?_; clear hk k)
        | (refine RS.st fun A B hA hB => ?_; simp [FD, hi2, hx, hv, hlx, hn, hlt, sc, hw, onW_t, onW_f, onV_s]; first | (refine hA _ _ _ ?_ ?_; (focus (first | (simp [FD, hi2, hx, hv, hlx, hn, hlt, sc, hw]; done) | (simp [FD, hi2, hx, hv, hlx, hn, hlt, sc, hw]; omega))); clear hA hB A B) | (refine hB ?_; clear hA hB A B) | (refine onV_if ?_ ?_; (focus (first | omega | (refine ⟨?_, ?_⟩ <;> omega))); simp only [onV_s]; refine hA _ _ _ ?_ ?_; (focus (first | (simp [FD, hi2, hx, hv, hlx, hn, hlt, sc, hw]; done) | (simp [FD, hi2, hx, hv, hlx, hn, hlt, sc, hw]; omega))); clear hA hB A B))
        | (refine RQ.nl ?_; refine hk _ _ ?_; clear hk k)
        | (refine RQ.st fun A B hA hB => ?_; simp [FD, hi2, hx, hv, hlx, hn, hlt, sc, hw, onW_t, onW_f, onV_s]; first | (refine hA _ _ _ ?_ (by first | exact .inl rfl | exact .inr (by decide)) ?_; (focus (first | (simp [FD, hi2, hx, hv, hlx, hn, hlt, sc, hw]; done) | (simp [FD, hi2, hx, hv, hlx, hn, hlt, sc, hw]; omega))); clear hA hB A B) | (refine hB ?_; clear hA hB A B) | (refine onV_if ?_ ?_; (focus (first | omega | (refine ⟨?_, ?_⟩ <;> omega))); simp only [onV_s]; refine hA _ _ _ ?_ (by first | exact .inl rfl | exact .inr (by decide)) ?_; (focus (first | (simp [FD, hi2, hx, hv, hlx, hn, hlt, sc, hw]; done) | (simp [FD, hi2, hx, hv, hlx, hn, hlt, sc, hw]; omega))); clear hA hB A B))
        | refine WP.sr fun k hk => ?_ | refine WP.r fun k hk => ?_
        | refine WP.sd _ rfl fun k hk => ?_ | refine WP.d _ rfl fun k hk => ?_
        | (refine WP.cc fun A B hA hB => ?_; simp [FD, hi2, hx, hv, hlx, hn, hlt, sc, hw, onB_t, onB_f]; first | (refine hA ?_; clear hA hB A B) | (refine hB ?_; clear hA hB A B) | (refine onB_if (fun h => hA ?_) (fun h => hB ?_) <;> clear hA hB A B))
        | refine WP.q ?_ | refine WP.b ?_)
      exact ⟨i + 1, by omega, by simp, by omega, rfl, by rw [htk, List.all_append, ht]; simp [hn]⟩
  · have hlt : ¬ (i : Int) < (l.length : Int) := by omega
    have he : l.take i = l := List.take_of_length_le (by omega)
    rw [he] at ht
    repeat' (first
      | refine WP.t ?_ | refine WP.k ?_ | refine WP.e ?_ | refine Qn ?_ | refine Qr ?_ | refine Qe ?_ | refine Bn ?_ | refine Br ?_ | refine Be ?_ | refine Bx (by decide) ?_
      | (refine RS.nl ?_; refine hk _ _ ?_; clear hk k)
      | (refine RS.st fun A B hA hB => ?_; simp [hlt, onW_t, onW_f, onV_s]; first | (refine hA _ _ _ ?_ ?_; (focus (first | (simp [hlt]; done) | (simp [hlt]; omega))); clear hA hB A B) | (refine hB ?_; clear hA hB A B) | (refine onV_if ?_ ?_; (focus (first | omega | (refine ⟨?_, ?_⟩ <;> omega))); simp only [onV_s]; refine hA _ _ _ ?_ ?_; (focus (first | (simp [hlt]; done) | (simp [hlt]; omega))); clear hA hB A B))
      | (refine RQ.nl ?_; refine hk _ _ ?_; clear hk k)
      | (refine RQ.st fun A B hA hB => ?_; simp [hlt, onW_t, onW_f, onV_s]; first | (refine hA _ _ _ ?_ (by first | exact .inl rfl | exact .inr (by decide)) ?_; (focus (first | (simp [hlt]; done) | (simp [hlt]; omega))); clear hA hB A B) | (refine hB ?_; clear hA hB A B) | (refine onV_if ?_ ?_; (focus (first | omega | (refine ⟨?_, ?_⟩ <;> omega))); simp only [onV_s]; refine hA _ _ _ ?_ (by first | exact .inl rfl | exact .inr (by decide)) ?_; (focus (first | (simp [hlt]; done) | (simp [hlt]; omega))); clear hA hB A B))
      | refine WP.sr fun k hk => ?_ | refine WP.r fun k hk => ?_
      | refine WP.sd _ rfl fun k hk => ?_ | refine WP.d _ rfl fun k hk => ?_
      | (refine WP.cc fun A B hA hB => ?_; simp [hlt, onB_t, onB_f]; first | (refine hA ?_; clear hA hB A B) | (refine hB ?_; clear hA hB A B) | (refine onB_if (fun h => hA ?_) (fun h => hB ?_) <;> clear hA hB A B))
      | refine WP.q ?_ | refine WP.b ?_)
    simp [ht]
def nodeB (n : Int) : Bool := decide (0 ≤ n) && decide (n < 200)
theorem ft_node (n : Int) : FT (env K gw) NoW 32 [.int .i64 n] s (.bool (nodeB n)) s := by
  refine FT.pure (fn := Tryd.f32) F0_ok mixed Tryd.func32 (by kernel_rfl) (by rfl) rfl rfl (by simp) rfl fun μ w => ?_
  by_cases h1 : 0 ≤ n
  · skip
    repeat' (first
      | refine WP.t ?_ | refine WP.k ?_ | refine WP.e ?_ | refine Qn ?_ | refine Qr ?_ | refine Qe ?_ | refine Bn ?_ | refine Br ?_ | refine Be ?_ | refine Bx (by decide) ?_
      | (refine RS.nl ?_; refine hk _ _ ?_; clear hk k)
      | (refine RS.st fun A B hA hB => ?_; simp [h1, onW_t, onW_f, onV_s]; first | (refine hA _ _ _ ?_ ?_; (focus (first | (simp [h1]; done) | (simp [h1]; omega))); clear hA hB A B) | (refine hB ?_; clear hA hB A B) | (refine onV_if ?_ ?_; (focus (first | omega | (refine ⟨?_, ?_⟩ <;> omega))); simp only [onV_s]; refine hA _ _ _ ?_ ?_; (focus (first | (simp [h1]; done) | (simp [h1]; omega))); clear hA hB A B))
      | (refine RQ.nl ?_; refine hk _ _ ?_; clear hk k)
      | (refine RQ.st fun A B hA hB => ?_; simp [h1, onW_t, onW_f, onV_s]; first | (refine hA _ _ _ ?_ (by first | exact .inl rfl | exact .inr (by decide)) ?_; (focus (first | (simp [h1]; done) | (simp [h1]; omega))); clear hA hB A B) | (refine hB ?_; clear hA hB A B) | (refine onV_if ?_ ?_; (focus (first | omega | (refine ⟨?_, ?_⟩ <;> omega))); simp only [onV_s]; refine hA _ _ _ ?_ (by first | exact .inl rfl | exact .inr (by decide)) ?_; (focus (first | (simp [h1]; done) | (simp [h1]; omega))); clear hA hB A B))
      | refine WP.sr fun k hk => ?_ | refine WP.r fun k hk => ?_
      | refine WP.sd _ rfl fun k hk => ?_ | refine WP.d _ rfl fun k hk => ?_
      | (refine WP.cc fun A B hA hB => ?_; simp [h1, onB_t, onB_f]; first | (refine hA ?_; clear hA hB A B) | (refine hB ?_; clear hA hB A B) | (refine onB_if (fun h => hA ?_) (fun h => hB ?_) <;> clear hA hB A B))
      | refine WP.q ?_ | refine WP.b ?_)
    simp [nodeB, h1]
  · skip
    repeat' (first
      | refine WP.t ?_ | refine WP.k ?_ | refine WP.e ?_ | refine Qn ?_ | refine Qr ?_ | refine Qe ?_ | refine Bn ?_ | refine Br ?_ | refine Be ?_ | refine Bx (by decide) ?_
      | (refine RS.nl ?_; refine hk _ _ ?_; clear hk k)
      | (refine RS.st fun A B hA hB => ?_; simp [h1, onW_t, onW_f, onV_s]; first | (refine hA _ _ _ ?_ ?_; (focus (first | (simp [h1]; done) | (simp [h1]; omega))); clear hA hB A B) | (refine hB ?_; clear hA hB A B) | (refine onV_if ?_ ?_; (focus (first | omega | (refine ⟨?_, ?_⟩ <;> omega))); simp only [onV_s]; refine hA _ _ _ ?_ ?_; (focus (first | (simp [h1]; done) | (simp [h1]; omega))); clear hA hB A B))
      | (refine RQ.nl ?_; refine hk _ _ ?_; clear hk k)
      | (refine RQ.st fun A B hA hB => ?_; simp [h1, onW_t, onW_f, onV_s]; first | (refine hA _ _ _ ?_ (by first | exact .inl rfl | exact .inr (by decide)) ?_; (focus (first | (simp [h1]; done) | (simp [h1]; omega))); clear hA hB A B) | (refine hB ?_; clear hA hB A B) | (refine onV_if ?_ ?_; (focus (first | omega | (refine ⟨?_, ?_⟩ <;> omega))); simp only [onV_s]; refine hA _ _ _ ?_ (by first | exact .inl rfl | exact .inr (by decide)) ?_; (focus (first | (simp [h1]; done) | (simp [h1]; omega))); clear hA hB A B))
      | refine WP.sr fun k hk => ?_ | refine WP.r fun k hk => ?_
      | refine WP.sd _ rfl fun k hk => ?_ | refine WP.d _ rfl fun k hk => ?_
      | (refine WP.cc fun A B hA hB => ?_; simp [h1, onB_t, onB_f]; first | (refine hA ?_; clear hA hB A B) | (refine hB ?_; clear hA hB A B) | (refine onB_if (fun h => hA ?_) (fun h => hB ?_) <;> clear hA hB A B))
      | refine WP.q ?_ | refine WP.b ?_)
    simp [nodeB, h1]
end
end Go.Am
