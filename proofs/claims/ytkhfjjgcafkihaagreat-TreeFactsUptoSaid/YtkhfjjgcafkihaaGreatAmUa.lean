/- Part of the proof: abstract values over the given model of Go (Ti, U1, U2, U3, U4). Conditions: none of its own; see the statement in the seat's Rows text. -/
import Derived.Test.YtkhfjjgcafkihaaGreatAmFour
import Derived.Test.YtkhfjjgcafkihaaGreatRows
import Derived.Test.YtkhfjjgcafkihaaGreatAmSix
set_option linter.unusedSimpArgs false
set_option linter.unusedVariables false
set_option linter.unusedSectionVars false
namespace Go.Am
open Go.Proofs
@[simp] theorem ti0 : tiOf Tryz.prog 0 = some ({ size := 1, bytes := 0, agg := false, zero := [.tuple #[]], desc := .tuple #[], held := false, guarded := false } : TI) := by kernel_rfl
@[simp] theorem ti1 : tiOf Tryz.prog 1 = some ({ size := 1, bytes := 8, agg := false, zero := [.nilFunc], desc := .func #[] #[] false, held := false, guarded := false } : TI) := by kernel_rfl
@[simp] theorem ti2 : tiOf Tryz.prog 2 = some ({ size := 1, bytes := 8, agg := false, zero := [.int .i64 0], desc := .int .i64, held := false, guarded := false } : TI) := by kernel_rfl
@[simp] theorem ti3 : tiOf Tryz.prog 3 = some ({ size := 1, bytes := 8, agg := false, zero := [.int .i64 0], desc := .int .i64, held := false, guarded := false } : TI) := by kernel_rfl
@[simp] theorem ti4 : tiOf Tryz.prog 4 = some ({ size := 1, bytes := 1, agg := false, zero := [.bool false], desc := .bool, held := false, guarded := false } : TI) := by kernel_rfl
@[simp] theorem ti5 : tiOf Tryz.prog 5 = some ({ size := 1, bytes := 1, agg := false, zero := [.int .u8 0], desc := .int .u8, held := false, guarded := false } : TI) := by kernel_rfl
@[simp] theorem ti6 : tiOf Tryz.prog 6 = some ({ size := 1, bytes := 1, agg := false, zero := [.int .u8 0], desc := .int .u8, held := false, guarded := false } : TI) := by kernel_rfl
@[simp] theorem ti7 : tiOf Tryz.prog 7 = some ({ size := 4, bytes := 24, agg := true, zero := [.int .i64 0, .int .i64 0, .bool false, .int .u8 0], desc := .struct #[{ name := "x", type := 2, offset := 0, embedded := false, tag := "", pkgPath := "runtime", byteOffset := 0 }, { name := "y", type := 3, offset := 1, embedded := false, tag := "", pkgPath := "runtime", byteOffset := 8 }, { name := "signed", type := 4, offset := 2, embedded := false, tag := "", pkgPath := "runtime", byteOffset := 16 }, { name := "code", type := 6, offset := 3, embedded := false, tag := "", pkgPath := "runtime", byteOffset := 17 }], held := false, guarded := false } : TI) := by kernel_rfl
@[simp] theorem ti8 : tiOf Tryz.prog 8 = some ({ size := 4, bytes := 24, agg := true, zero := [.int .i64 0, .int .i64 0, .bool false, .int .u8 0], desc := .struct #[{ name := "x", type := 2, offset := 0, embedded := false, tag := "", pkgPath := "runtime", byteOffset := 0 }, { name := "y", type := 3, offset := 1, embedded := false, tag := "", pkgPath := "runtime", byteOffset := 8 }, { name := "signed", type := 4, offset := 2, embedded := false, tag := "", pkgPath := "runtime", byteOffset := 16 }, { name := "code", type := 6, offset := 3, embedded := false, tag := "", pkgPath := "runtime", byteOffset := 17 }], held := false, guarded := false } : TI) := by kernel_rfl
@[simp] theorem ti9 : tiOf Tryz.prog 9 = some ({ size := 1, bytes := 16, agg := false, zero := [.string { data := #[] }], desc := .string, held := false, guarded := false } : TI) := by kernel_rfl
@[simp] theorem ti10 : tiOf Tryz.prog 10 = some ({ size := 1, bytes := 16, agg := false, zero := [.string { data := #[] }], desc := .string, held := false, guarded := false } : TI) := by kernel_rfl
@[simp] theorem ti11 : tiOf Tryz.prog 11 = some ({ size := 1, bytes := 16, agg := false, zero := [.string { data := #[] }], desc := .string, held := false, guarded := false } : TI) := by kernel_rfl
@[simp] theorem ti12 : tiOf Tryz.prog 12 = some ({ size := 1, bytes := 8, agg := false, zero := [.int .u64 0], desc := .int .u64, held := false, guarded := false } : TI) := by kernel_rfl
@[simp] theorem ti13 : tiOf Tryz.prog 13 = some ({ size := 2, bytes := 24, agg := true, zero := [.string { data := #[] }, .int .u64 0], desc := .struct #[{ name := "msg", type := 9, offset := 0, embedded := false, tag := "", pkgPath := "runtime", byteOffset := 0 }, { name := "addr", type := 12, offset := 1, embedded := false, tag := "", pkgPath := "runtime", byteOffset := 16 }], held := true, guarded := false } : TI) := by kernel_rfl
@[simp] theorem ti14 : tiOf Tryz.prog 14 = some ({ size := 2, bytes := 24, agg := true, zero := [.string { data := #[] }, .int .u64 0], desc := .struct #[{ name := "msg", type := 9, offset := 0, embedded := false, tag := "", pkgPath := "runtime", byteOffset := 0 }, { name := "addr", type := 12, offset := 1, embedded := false, tag := "", pkgPath := "runtime", byteOffset := 16 }], held := true, guarded := false } : TI) := by kernel_rfl
@[simp] theorem ti15 : tiOf Tryz.prog 15 = some ({ size := 1, bytes := 8, agg := false, zero := [.pointer none], desc := .pointer 179, held := false, guarded := false } : TI) := by kernel_rfl
@[simp] theorem ti16 : tiOf Tryz.prog 16 = some ({ size := 1, bytes := 8, agg := false, zero := [.pointer none], desc := .pointer 182, held := false, guarded := false } : TI) := by kernel_rfl
@[simp] theorem ti17 : tiOf Tryz.prog 17 = some ({ size := 1, bytes := 8, agg := false, zero := [.pointer none], desc := .pointer 192, held := false, guarded := false } : TI) := by kernel_rfl
@[simp] theorem ti18 : tiOf Tryz.prog 18 = some ({ size := 1, bytes := 8, agg := true, zero := [.pointer none], desc := .struct #[{ name := "typ", type := 17, offset := 0, embedded := false, tag := "", pkgPath := "internal/runtime/maps", byteOffset := 0 }], held := true, guarded := false } : TI) := by kernel_rfl
@[simp] theorem ti19 : tiOf Tryz.prog 19 = some ({ size := 1, bytes := 8, agg := true, zero := [.pointer none], desc := .struct #[{ name := "typ", type := 17, offset := 0, embedded := false, tag := "", pkgPath := "internal/runtime/maps", byteOffset := 0 }], held := true, guarded := false } : TI) := by kernel_rfl
@[simp] theorem ti20 : tiOf Tryz.prog 20 = some ({ size := 1, bytes := 16, agg := false, zero := [.nilIface], desc := .interface #[], held := false, guarded := false } : TI) := by kernel_rfl
@[simp] theorem ti21 : tiOf Tryz.prog 21 = some ({ size := 1, bytes := 4, agg := false, zero := [.int .i32 0], desc := .int .i32, held := false, guarded := false } : TI) := by kernel_rfl
@[simp] theorem ti22 : tiOf Tryz.prog 22 = some ({ size := 1, bytes := 24, agg := false, zero := [.slice none 0 0], desc := .slice 89, held := false, guarded := false } : TI) := by kernel_rfl
@[simp] theorem ti23 : tiOf Tryz.prog 23 = some ({ size := 1, bytes := 24, agg := false, zero := [.slice none 0 0], desc := .slice 40, held := false, guarded := false } : TI) := by kernel_rfl
@[simp] theorem ti24 : tiOf Tryz.prog 24 = some ({ size := 2, bytes := 48, agg := true, zero := [.slice none 0 0, .slice none 0 0], desc := .struct #[{ name := "Decls", type := 22, offset := 0, embedded := false, tag := "", pkgPath := "", byteOffset := 0 }, { name := "Rules", type := 23, offset := 1, embedded := false, tag := "", pkgPath := "", byteOffset := 24 }], held := false, guarded := false } : TI) := by kernel_rfl
@[simp] theorem ti25 : tiOf Tryz.prog 25 = some ({ size := 2, bytes := 48, agg := true, zero := [.slice none 0 0, .slice none 0 0], desc := .struct #[{ name := "Decls", type := 22, offset := 0, embedded := false, tag := "", pkgPath := "", byteOffset := 0 }, { name := "Rules", type := 23, offset := 1, embedded := false, tag := "", pkgPath := "", byteOffset := 24 }], held := false, guarded := false } : TI) := by kernel_rfl
@[simp] theorem ti26 : tiOf Tryz.prog 26 = some ({ size := 1, bytes := 24, agg := false, zero := [.slice none 0 0], desc := .slice 29, held := false, guarded := false } : TI) := by kernel_rfl
@[simp] theorem ti27 : tiOf Tryz.prog 27 = some ({ size := 1, bytes := 24, agg := false, zero := [.slice none 0 0], desc := .slice 42, held := false, guarded := false } : TI) := by kernel_rfl
@[simp] theorem ti28 : tiOf Tryz.prog 28 = some ({ size := 2, bytes := 40, agg := true, zero := [.string { data := #[] }, .slice none 0 0], desc := .struct #[{ name := "Pred", type := 9, offset := 0, embedded := false, tag := "", pkgPath := "", byteOffset := 0 }, { name := "Args", type := 27, offset := 1, embedded := false, tag := "", pkgPath := "", byteOffset := 16 }], held := false, guarded := false } : TI) := by kernel_rfl
@[simp] theorem ti29 : tiOf Tryz.prog 29 = some ({ size := 2, bytes := 40, agg := true, zero := [.string { data := #[] }, .slice none 0 0], desc := .struct #[{ name := "Pred", type := 9, offset := 0, embedded := false, tag := "", pkgPath := "", byteOffset := 0 }, { name := "Args", type := 27, offset := 1, embedded := false, tag := "", pkgPath := "", byteOffset := 16 }], held := false, guarded := false } : TI) := by kernel_rfl
@[simp] theorem ti30 : tiOf Tryz.prog 30 = some ({ size := 1, bytes := 8, agg := false, zero := [.nilFunc], desc := .func #[] #[4] false, held := false, guarded := false } : TI) := by kernel_rfl
@[simp] theorem ti31 : tiOf Tryz.prog 31 = some ({ size := 1, bytes := 8, agg := false, zero := [.nilFunc], desc := .func #[25, 26, 34] #[4] false, held := false, guarded := false } : TI) := by kernel_rfl
@[simp] theorem ti32 : tiOf Tryz.prog 32 = some ({ size := 1, bytes := 24, agg := false, zero := [.slice none 0 0], desc := .slice 34, held := false, guarded := false } : TI) := by kernel_rfl
@[simp] theorem ti33 : tiOf Tryz.prog 33 = some ({ size := 4, bytes := 72, agg := true, zero := [.string { data := #[] }, .slice none 0 0, .int .i64 0, .slice none 0 0], desc := .struct #[{ name := "Fact", type := 29, offset := 0, embedded := false, tag := "", pkgPath := "", byteOffset := 0 }, { name := "Rule", type := 3, offset := 2, embedded := false, tag := "", pkgPath := "", byteOffset := 40 }, { name := "Kids", type := 32, offset := 3, embedded := false, tag := "", pkgPath := "", byteOffset := 48 }], held := false, guarded := false } : TI) := by kernel_rfl
@[simp] theorem ti34 : tiOf Tryz.prog 34 = some ({ size := 4, bytes := 72, agg := true, zero := [.string { data := #[] }, .slice none 0 0, .int .i64 0, .slice none 0 0], desc := .struct #[{ name := "Fact", type := 29, offset := 0, embedded := false, tag := "", pkgPath := "", byteOffset := 0 }, { name := "Rule", type := 3, offset := 2, embedded := false, tag := "", pkgPath := "", byteOffset := 40 }, { name := "Kids", type := 32, offset := 3, embedded := false, tag := "", pkgPath := "", byteOffset := 48 }], held := false, guarded := false } : TI) := by kernel_rfl
@[simp] theorem ti35 : tiOf Tryz.prog 35 = some ({ size := 1, bytes := 24, agg := false, zero := [.slice none 0 0], desc := .slice 44, held := false, guarded := false } : TI) := by kernel_rfl
@[simp] theorem ti36 : tiOf Tryz.prog 36 = some ({ size := 2, bytes := 40, agg := true, zero := [.string { data := #[] }, .slice none 0 0], desc := .struct #[{ name := "Pred", type := 9, offset := 0, embedded := false, tag := "", pkgPath := "", byteOffset := 0 }, { name := "Args", type := 35, offset := 1, embedded := false, tag := "", pkgPath := "", byteOffset := 16 }], held := false, guarded := false } : TI) := by kernel_rfl
@[simp] theorem ti37 : tiOf Tryz.prog 37 = some ({ size := 2, bytes := 40, agg := true, zero := [.string { data := #[] }, .slice none 0 0], desc := .struct #[{ name := "Pred", type := 9, offset := 0, embedded := false, tag := "", pkgPath := "", byteOffset := 0 }, { name := "Args", type := 35, offset := 1, embedded := false, tag := "", pkgPath := "", byteOffset := 16 }], held := false, guarded := false } : TI) := by kernel_rfl
@[simp] theorem ti38 : tiOf Tryz.prog 38 = some ({ size := 1, bytes := 24, agg := false, zero := [.slice none 0 0], desc := .slice 46, held := false, guarded := false } : TI) := by kernel_rfl
@[simp] theorem ti39 : tiOf Tryz.prog 39 = some ({ size := 3, bytes := 64, agg := true, zero := [.string { data := #[] }, .slice none 0 0, .slice none 0 0], desc := .struct #[{ name := "Head", type := 37, offset := 0, embedded := false, tag := "", pkgPath := "", byteOffset := 0 }, { name := "Body", type := 38, offset := 2, embedded := false, tag := "", pkgPath := "", byteOffset := 40 }], held := false, guarded := false } : TI) := by kernel_rfl
@[simp] theorem ti40 : tiOf Tryz.prog 40 = some ({ size := 3, bytes := 64, agg := true, zero := [.string { data := #[] }, .slice none 0 0, .slice none 0 0], desc := .struct #[{ name := "Head", type := 37, offset := 0, embedded := false, tag := "", pkgPath := "", byteOffset := 0 }, { name := "Body", type := 38, offset := 2, embedded := false, tag := "", pkgPath := "", byteOffset := 40 }], held := false, guarded := false } : TI) := by kernel_rfl
@[simp] theorem ti41 : tiOf Tryz.prog 41 = some ({ size := 3, bytes := 32, agg := true, zero := [.bool false, .string { data := #[] }, .int .i64 0], desc := .struct #[{ name := "IsSym", type := 4, offset := 0, embedded := false, tag := "", pkgPath := "", byteOffset := 0 }, { name := "Sym", type := 9, offset := 1, embedded := false, tag := "", pkgPath := "", byteOffset := 8 }, { name := "N", type := 2, offset := 2, embedded := false, tag := "", pkgPath := "", byteOffset := 24 }], held := false, guarded := false } : TI) := by kernel_rfl
@[simp] theorem ti42 : tiOf Tryz.prog 42 = some ({ size := 3, bytes := 32, agg := true, zero := [.bool false, .string { data := #[] }, .int .i64 0], desc := .struct #[{ name := "IsSym", type := 4, offset := 0, embedded := false, tag := "", pkgPath := "", byteOffset := 0 }, { name := "Sym", type := 9, offset := 1, embedded := false, tag := "", pkgPath := "", byteOffset := 8 }, { name := "N", type := 2, offset := 2, embedded := false, tag := "", pkgPath := "", byteOffset := 24 }], held := false, guarded := false } : TI) := by kernel_rfl
@[simp] theorem ti43 : tiOf Tryz.prog 43 = some ({ size := 5, bytes := 56, agg := true, zero := [.bool false, .string { data := #[] }, .bool false, .string { data := #[] }, .int .i64 0], desc := .struct #[{ name := "IsVar", type := 4, offset := 0, embedded := false, tag := "", pkgPath := "", byteOffset := 0 }, { name := "Name", type := 9, offset := 1, embedded := false, tag := "", pkgPath := "", byteOffset := 8 }, { name := "Val", type := 42, offset := 2, embedded := false, tag := "", pkgPath := "", byteOffset := 24 }], held := false, guarded := false } : TI) := by kernel_rfl
@[simp] theorem ti44 : tiOf Tryz.prog 44 = some ({ size := 5, bytes := 56, agg := true, zero := [.bool false, .string { data := #[] }, .bool false, .string { data := #[] }, .int .i64 0], desc := .struct #[{ name := "IsVar", type := 4, offset := 0, embedded := false, tag := "", pkgPath := "", byteOffset := 0 }, { name := "Name", type := 9, offset := 1, embedded := false, tag := "", pkgPath := "", byteOffset := 8 }, { name := "Val", type := 42, offset := 2, embedded := false, tag := "", pkgPath := "", byteOffset := 24 }], held := false, guarded := false } : TI) := by kernel_rfl
@[simp] theorem ti45 : tiOf Tryz.prog 45 = some ({ size := 14, bytes := 176, agg := true, zero := [.int .i64 0, .string { data := #[] }, .slice none 0 0, .string { data := #[] }, .bool false, .string { data := #[] }, .bool false, .string { data := #[] }, .int .i64 0, .bool false, .string { data := #[] }, .bool false, .string { data := #[] }, .int .i64 0], desc := .struct #[{ name := "Kind", type := 3, offset := 0, embedded := false, tag := "", pkgPath := "", byteOffset := 0 }, { name := "Atom", type := 37, offset := 1, embedded := false, tag := "", pkgPath := "", byteOffset := 8 }, { name := "Op", type := 9, offset := 3, embedded := false, tag := "", pkgPath := "", byteOffset := 48 }, { name := "L", type := 44, offset := 4, embedded := false, tag := "", pkgPath := "", byteOffset := 64 }, { name := "R", type := 44, offset := 9, embedded := false, tag := "", pkgPath := "", byteOffset := 120 }], held := false, guarded := false } : TI) := by kernel_rfl
@[simp] theorem ti46 : tiOf Tryz.prog 46 = some ({ size := 14, bytes := 176, agg := true, zero := [.int .i64 0, .string { data := #[] }, .slice none 0 0, .string { data := #[] }, .bool false, .string { data := #[] }, .bool false, .string { data := #[] }, .int .i64 0, .bool false, .string { data := #[] }, .bool false, .string { data := #[] }, .int .i64 0], desc := .struct #[{ name := "Kind", type := 3, offset := 0, embedded := false, tag := "", pkgPath := "", byteOffset := 0 }, { name := "Atom", type := 37, offset := 1, embedded := false, tag := "", pkgPath := "", byteOffset := 8 }, { name := "Op", type := 9, offset := 3, embedded := false, tag := "", pkgPath := "", byteOffset := 48 }, { name := "L", type := 44, offset := 4, embedded := false, tag := "", pkgPath := "", byteOffset := 64 }, { name := "R", type := 44, offset := 9, embedded := false, tag := "", pkgPath := "", byteOffset := 120 }], held := false, guarded := false } : TI) := by kernel_rfl
@[simp] theorem ti47 : tiOf Tryz.prog 47 = some ({ size := 1, bytes := 8, agg := false, zero := [.int .i64 0], desc := .int .i64, held := false, guarded := false } : TI) := by kernel_rfl
@[simp] theorem ti48 : tiOf Tryz.prog 48 = some ({ size := 1, bytes := 8, agg := false, zero := [.nilFunc], desc := .func #[25, 26, 34] #[47] false, held := false, guarded := false } : TI) := by kernel_rfl
@[simp] theorem ti49 : tiOf Tryz.prog 49 = some ({ size := 1, bytes := 24, agg := false, zero := [.slice none 0 0], desc := .slice 27, held := false, guarded := false } : TI) := by kernel_rfl
@[simp] theorem ti50 : tiOf Tryz.prog 50 = some ({ size := 1, bytes := 0, agg := false, zero := [.tuple #[.slice none 0 0, .int .i64 0]], desc := .tuple #[49, 3], held := false, guarded := false } : TI) := by kernel_rfl
@[simp] theorem ti51 : tiOf Tryz.prog 51 = some ({ size := 1, bytes := 8, agg := false, zero := [.nilFunc], desc := .func #[40, 26, 26, 3] #[49, 3] false, held := false, guarded := false } : TI) := by kernel_rfl
@[simp] theorem ti52 : tiOf Tryz.prog 52 = some ({ size := 1, bytes := 8, agg := false, zero := [.nilFunc], desc := .func #[27, 27] #[3] false, held := false, guarded := false } : TI) := by kernel_rfl
@[simp] theorem ti53 : tiOf Tryz.prog 53 = some ({ size := 1, bytes := 8, agg := false, zero := [.nilFunc], desc := .func #[25, 26, 29, 5] #[4] false, held := false, guarded := false } : TI) := by kernel_rfl
@[simp] theorem ti54 : tiOf Tryz.prog 54 = some ({ size := 1, bytes := 8, agg := false, zero := [.nilFunc], desc := .func #[25, 26, 34] #[3] false, held := false, guarded := false } : TI) := by kernel_rfl
@[simp] theorem ti55 : tiOf Tryz.prog 55 = some ({ size := 1, bytes := 8, agg := false, zero := [.nilFunc], desc := .func #[34] #[3] false, held := false, guarded := false } : TI) := by kernel_rfl
@[simp] theorem ti56 : tiOf Tryz.prog 56 = some ({ size := 1, bytes := 8, agg := false, zero := [.nilFunc], desc := .func #[26, 26] #[4] false, held := false, guarded := false } : TI) := by kernel_rfl
@[simp] theorem ti57 : tiOf Tryz.prog 57 = some ({ size := 1, bytes := 8, agg := false, zero := [.nilFunc], desc := .func #[34] #[26] false, held := false, guarded := false } : TI) := by kernel_rfl
@[simp] theorem ti58 : tiOf Tryz.prog 58 = some ({ size := 1, bytes := 0, agg := false, zero := [.tuple { toList := [.agg #[.slice none 0 0, .slice none 0 0], .int .i64 0, .int .i64 0] }], desc := .tuple #[25, 3, 3], held := false, guarded := false } : TI) := by kernel_rfl
@[simp] theorem ti59 : tiOf Tryz.prog 59 = some ({ size := 1, bytes := 8, agg := false, zero := [.nilFunc], desc := .func #[9] #[25, 3, 3] false, held := false, guarded := false } : TI) := by kernel_rfl
@[simp] theorem ti60 : tiOf Tryz.prog 60 = some ({ size := 1, bytes := 8, agg := false, zero := [.nilFunc], desc := .func #[25, 26, 34, 26] #[4] false, held := false, guarded := false } : TI) := by kernel_rfl
@[simp] theorem ti61 : tiOf Tryz.prog 61 = some ({ size := 1, bytes := 24, agg := false, zero := [.slice none 0 0], desc := .slice 69, held := false, guarded := false } : TI) := by kernel_rfl
@[simp] theorem ti62 : tiOf Tryz.prog 62 = some ({ size := 1, bytes := 0, agg := false, zero := [.tuple #[.slice none 0 0, .int .i64 0]], desc := .tuple #[61, 3], held := false, guarded := false } : TI) := by kernel_rfl
@[simp] theorem ti63 : tiOf Tryz.prog 63 = some ({ size := 1, bytes := 8, agg := false, zero := [.nilFunc], desc := .func #[40, 26, 26, 3] #[61, 3] false, held := false, guarded := false } : TI) := by kernel_rfl
@[simp] theorem ti64 : tiOf Tryz.prog 64 = some ({ size := 1, bytes := 8, agg := false, zero := [.nilFunc], desc := .func #[35, 65] #[4] false, held := false, guarded := false } : TI) := by kernel_rfl
@[simp] theorem ti65 : tiOf Tryz.prog 65 = some ({ size := 1, bytes := 24, agg := false, zero := [.slice none 0 0], desc := .slice 9, held := false, guarded := false } : TI) := by kernel_rfl
@[simp] theorem ti66 : tiOf Tryz.prog 66 = some ({ size := 1, bytes := 8, agg := false, zero := [.nilFunc], desc := .func #[40] #[65] false, held := false, guarded := false } : TI) := by kernel_rfl
@[simp] theorem ti67 : tiOf Tryz.prog 67 = some ({ size := 1, bytes := 0, agg := false, zero := [.tuple #[.slice none 0 0, .bool false]], desc := .tuple #[27, 4], held := false, guarded := false } : TI) := by kernel_rfl
@[simp] theorem ti68 : tiOf Tryz.prog 68 = some ({ size := 1, bytes := 8, agg := false, zero := [.nilFunc], desc := .func #[37, 69] #[27, 4] false, held := false, guarded := false } : TI) := by kernel_rfl
@[simp] theorem ti69 : tiOf Tryz.prog 69 = some ({ size := 1, bytes := 24, agg := false, zero := [.slice none 0 0], desc := .slice 155, held := false, guarded := false } : TI) := by kernel_rfl
@[simp] theorem ti70 : tiOf Tryz.prog 70 = some ({ size := 1, bytes := 8, agg := false, zero := [.nilFunc], desc := .func #[49] #[49] false, held := false, guarded := false } : TI) := by kernel_rfl
@[simp] theorem ti71 : tiOf Tryz.prog 71 = some ({ size := 1, bytes := 8, agg := false, zero := [.nilFunc], desc := .func #[42, 42] #[4] false, held := false, guarded := false } : TI) := by kernel_rfl
@[simp] theorem ti72 : tiOf Tryz.prog 72 = some ({ size := 1, bytes := 8, agg := false, zero := [.nilFunc], desc := .func #[42, 42] #[3] false, held := false, guarded := false } : TI) := by kernel_rfl
@[simp] theorem ti73 : tiOf Tryz.prog 73 = some ({ size := 1, bytes := 8, agg := false, zero := [.nilFunc], desc := .func #[98] #[] false, held := false, guarded := false } : TI) := by kernel_rfl
@[simp] theorem ti74 : tiOf Tryz.prog 74 = some ({ size := 1, bytes := 8, agg := false, zero := [.nilFunc], desc := .func #[98] #[] false, held := false, guarded := false } : TI) := by kernel_rfl
@[simp] theorem ti75 : tiOf Tryz.prog 75 = some ({ size := 1, bytes := 8, agg := false, zero := [.nilFunc], desc := .func #[34] #[74] false, held := false, guarded := false } : TI) := by kernel_rfl
@[simp] theorem ti76 : tiOf Tryz.prog 76 = some ({ size := 1, bytes := 8, agg := false, zero := [.nilFunc], desc := .func #[27, 27] #[4] false, held := false, guarded := false } : TI) := by kernel_rfl
@[simp] theorem ti77 : tiOf Tryz.prog 77 = some ({ size := 1, bytes := 24, agg := false, zero := [.slice none 0 0], desc := .slice 84, held := false, guarded := false } : TI) := by kernel_rfl
@[simp] theorem ti78 : tiOf Tryz.prog 78 = some ({ size := 1, bytes := 0, agg := false, zero := [.tuple #[.slice none 0 0, .int .i64 0, .int .i64 0]], desc := .tuple #[77, 3, 3], held := false, guarded := false } : TI) := by kernel_rfl
@[simp] theorem ti79 : tiOf Tryz.prog 79 = some ({ size := 1, bytes := 8, agg := false, zero := [.nilFunc], desc := .func #[9] #[77, 3, 3] false, held := false, guarded := false } : TI) := by kernel_rfl
@[simp] theorem ti80 : tiOf Tryz.prog 80 = some ({ size := 2, bytes := 32, agg := true, zero := [.slice none 0 0, .int .i64 0], desc := .struct #[{ name := "L", type := 77, offset := 0, embedded := false, tag := "", pkgPath := "", byteOffset := 0 }, { name := "Size", type := 3, offset := 1, embedded := false, tag := "", pkgPath := "", byteOffset := 24 }], held := false, guarded := false } : TI) := by kernel_rfl
@[simp] theorem ti81 : tiOf Tryz.prog 81 = some ({ size := 2, bytes := 32, agg := true, zero := [.slice none 0 0, .int .i64 0], desc := .struct #[{ name := "L", type := 77, offset := 0, embedded := false, tag := "", pkgPath := "", byteOffset := 0 }, { name := "Size", type := 3, offset := 1, embedded := false, tag := "", pkgPath := "", byteOffset := 24 }], held := false, guarded := false } : TI) := by kernel_rfl
@[simp] theorem ti82 : tiOf Tryz.prog 82 = some ({ size := 1, bytes := 8, agg := false, zero := [.nilFunc], desc := .func #[84, 9] #[4] false, held := false, guarded := false } : TI) := by kernel_rfl
@[simp] theorem ti83 : tiOf Tryz.prog 83 = some ({ size := 5, bytes := 48, agg := true, zero := [.int .i64 0, .string { data := #[] }, .int .i64 0, .bool false, .int .i64 0], desc := .struct #[{ name := "Kind", type := 3, offset := 0, embedded := false, tag := "", pkgPath := "", byteOffset := 0 }, { name := "S", type := 9, offset := 1, embedded := false, tag := "", pkgPath := "", byteOffset := 8 }, { name := "N", type := 2, offset := 2, embedded := false, tag := "", pkgPath := "", byteOffset := 24 }, { name := "Quoted", type := 4, offset := 3, embedded := false, tag := "", pkgPath := "", byteOffset := 32 }, { name := "At", type := 3, offset := 4, embedded := false, tag := "", pkgPath := "", byteOffset := 40 }], held := false, guarded := false } : TI) := by kernel_rfl
@[simp] theorem ti84 : tiOf Tryz.prog 84 = some ({ size := 5, bytes := 48, agg := true, zero := [.int .i64 0, .string { data := #[] }, .int .i64 0, .bool false, .int .i64 0], desc := .struct #[{ name := "Kind", type := 3, offset := 0, embedded := false, tag := "", pkgPath := "", byteOffset := 0 }, { name := "S", type := 9, offset := 1, embedded := false, tag := "", pkgPath := "", byteOffset := 8 }, { name := "N", type := 2, offset := 2, embedded := false, tag := "", pkgPath := "", byteOffset := 24 }, { name := "Quoted", type := 4, offset := 3, embedded := false, tag := "", pkgPath := "", byteOffset := 32 }, { name := "At", type := 3, offset := 4, embedded := false, tag := "", pkgPath := "", byteOffset := 40 }], held := false, guarded := false } : TI) := by kernel_rfl
@[simp] theorem ti85 : tiOf Tryz.prog 85 = some ({ size := 1, bytes := 8, agg := false, zero := [.nilFunc], desc := .func #[77, 3, 3] #[84] false, held := false, guarded := false } : TI) := by kernel_rfl
@[simp] theorem ti86 : tiOf Tryz.prog 86 = some ({ size := 3, bytes := 24, agg := true, zero := [.int .i64 0, .int .i64 0, .int .i64 0], desc := .struct #[{ name := "I", type := 3, offset := 0, embedded := false, tag := "", pkgPath := "", byteOffset := 0 }, { name := "Bad", type := 3, offset := 1, embedded := false, tag := "", pkgPath := "", byteOffset := 8 }, { name := "At", type := 3, offset := 2, embedded := false, tag := "", pkgPath := "", byteOffset := 16 }], held := false, guarded := false } : TI) := by kernel_rfl
@[simp] theorem ti87 : tiOf Tryz.prog 87 = some ({ size := 3, bytes := 24, agg := true, zero := [.int .i64 0, .int .i64 0, .int .i64 0], desc := .struct #[{ name := "I", type := 3, offset := 0, embedded := false, tag := "", pkgPath := "", byteOffset := 0 }, { name := "Bad", type := 3, offset := 1, embedded := false, tag := "", pkgPath := "", byteOffset := 8 }, { name := "At", type := 3, offset := 2, embedded := false, tag := "", pkgPath := "", byteOffset := 16 }], held := false, guarded := false } : TI) := by kernel_rfl
@[simp] theorem ti88 : tiOf Tryz.prog 88 = some ({ size := 2, bytes := 24, agg := true, zero := [.string { data := #[] }, .int .i64 0], desc := .struct #[{ name := "Pred", type := 9, offset := 0, embedded := false, tag := "", pkgPath := "", byteOffset := 0 }, { name := "Arity", type := 3, offset := 1, embedded := false, tag := "", pkgPath := "", byteOffset := 16 }], held := false, guarded := false } : TI) := by kernel_rfl
@[simp] theorem ti89 : tiOf Tryz.prog 89 = some ({ size := 2, bytes := 24, agg := true, zero := [.string { data := #[] }, .int .i64 0], desc := .struct #[{ name := "Pred", type := 9, offset := 0, embedded := false, tag := "", pkgPath := "", byteOffset := 0 }, { name := "Arity", type := 3, offset := 1, embedded := false, tag := "", pkgPath := "", byteOffset := 16 }], held := false, guarded := false } : TI) := by kernel_rfl
@[simp] theorem ti90 : tiOf Tryz.prog 90 = some ({ size := 1, bytes := 0, agg := false, zero := [.tuple { toList := [.agg { toList := [.string { data := #[] }, .int .i64 0] }, .agg #[.int .i64 0, .int .i64 0, .int .i64 0]] }], desc := .tuple #[89, 87], held := false, guarded := false } : TI) := by kernel_rfl
@[simp] theorem ti91 : tiOf Tryz.prog 91 = some ({ size := 1, bytes := 8, agg := false, zero := [.nilFunc], desc := .func #[81, 3] #[89, 87] false, held := false, guarded := false } : TI) := by kernel_rfl
@[simp] theorem ti92 : tiOf Tryz.prog 92 = some ({ size := 1, bytes := 0, agg := false, zero := [.tuple { toList := [.agg { toList := [.string { data := #[] }, .slice none 0 0, .slice none 0 0] }, .agg #[.int .i64 0, .int .i64 0, .int .i64 0]] }], desc := .tuple #[40, 87], held := false, guarded := false } : TI) := by kernel_rfl
@[simp] theorem ti93 : tiOf Tryz.prog 93 = some ({ size := 1, bytes := 8, agg := false, zero := [.nilFunc], desc := .func #[81, 3] #[40, 87] false, held := false, guarded := false } : TI) := by kernel_rfl
@[simp] theorem ti94 : tiOf Tryz.prog 94 = some ({ size := 1, bytes := 8, agg := false, zero := [.nilFunc], desc := .func #[26, 96] #[4] false, held := false, guarded := false } : TI) := by kernel_rfl
@[simp] theorem ti95 : tiOf Tryz.prog 95 = some ({ size := 1, bytes := 8, agg := false, zero := [.nilFunc], desc := .func #[29, 29] #[3] false, held := false, guarded := false } : TI) := by kernel_rfl
@[simp] theorem ti96 : tiOf Tryz.prog 96 = some ({ size := 1, bytes := 8, agg := false, zero := [.nilFunc], desc := .func #[29] #[4] false, held := false, guarded := false } : TI) := by kernel_rfl
@[simp] theorem ti97 : tiOf Tryz.prog 97 = some ({ size := 1, bytes := 8, agg := false, zero := [.nilFunc], desc := .func #[32, 98] #[4] false, held := false, guarded := false } : TI) := by kernel_rfl
@[simp] theorem ti98 : tiOf Tryz.prog 98 = some ({ size := 1, bytes := 8, agg := false, zero := [.nilFunc], desc := .func #[34] #[4] false, held := false, guarded := false } : TI) := by kernel_rfl
@[simp] theorem ti99 : tiOf Tryz.prog 99 = some ({ size := 1, bytes := 24, agg := false, zero := [.slice none 0 0], desc := .slice 3, held := false, guarded := false } : TI) := by kernel_rfl
@[simp] theorem ti100 : tiOf Tryz.prog 100 = some ({ size := 1, bytes := 0, agg := false, zero := [.tuple #[.slice none 0 0, .int .i64 0]], desc := .tuple #[99, 3], held := false, guarded := false } : TI) := by kernel_rfl
@[simp] theorem ti101 : tiOf Tryz.prog 101 = some ({ size := 1, bytes := 8, agg := false, zero := [.nilFunc], desc := .func #[40, 3] #[99, 3] false, held := false, guarded := false } : TI) := by kernel_rfl
@[simp] theorem ti102 : tiOf Tryz.prog 102 = some ({ size := 1, bytes := 0, agg := false, zero := [.tuple #[.slice none 0 0, .bool false]], desc := .tuple #[69, 4], held := false, guarded := false } : TI) := by kernel_rfl
@[simp] theorem ti103 : tiOf Tryz.prog 103 = some ({ size := 1, bytes := 8, agg := false, zero := [.nilFunc], desc := .func #[37, 27, 69] #[69, 4] false, held := false, guarded := false } : TI) := by kernel_rfl
@[simp] theorem ti104 : tiOf Tryz.prog 104 = some ({ size := 1, bytes := 8, agg := false, zero := [.nilFunc], desc := .func #[61, 69] #[61] false, held := false, guarded := false } : TI) := by kernel_rfl
@[simp] theorem ti105 : tiOf Tryz.prog 105 = some ({ size := 1, bytes := 8, agg := false, zero := [.nilFunc], desc := .func #[40, 26, 69] #[4] false, held := false, guarded := false } : TI) := by kernel_rfl
@[simp] theorem ti106 : tiOf Tryz.prog 106 = some ({ size := 1, bytes := 8, agg := false, zero := [.nilFunc], desc := .func #[65, 9] #[4] false, held := false, guarded := false } : TI) := by kernel_rfl
@[simp] theorem ti107 : tiOf Tryz.prog 107 = some ({ size := 1, bytes := 8, agg := false, zero := [.nilFunc], desc := .func #[37] #[65] false, held := false, guarded := false } : TI) := by kernel_rfl
@[simp] theorem ti108 : tiOf Tryz.prog 108 = some ({ size := 1, bytes := 8, agg := false, zero := [.nilFunc], desc := .func #[65] #[65] false, held := false, guarded := false } : TI) := by kernel_rfl
@[simp] theorem ti109 : tiOf Tryz.prog 109 = some ({ size := 1, bytes := 0, agg := false, zero := [.tuple { toList := [.agg { toList := [.bool false, .string { data := #[] }, .int .i64 0] }, .bool false] }], desc := .tuple #[42, 4], held := false, guarded := false } : TI) := by kernel_rfl
@[simp] theorem ti110 : tiOf Tryz.prog 110 = some ({ size := 1, bytes := 8, agg := false, zero := [.nilFunc], desc := .func #[44, 69] #[42, 4] false, held := false, guarded := false } : TI) := by kernel_rfl
@[simp] theorem ti111 : tiOf Tryz.prog 111 = some ({ size := 1, bytes := 8, agg := false, zero := [.nilFunc], desc := .func #[9, 9] #[3] false, held := false, guarded := false } : TI) := by kernel_rfl
@[simp] theorem ti112 : tiOf Tryz.prog 112 = some ({ size := 1, bytes := 8, agg := false, zero := [.nilFunc], desc := .func #[9, 3] #[3] false, held := false, guarded := false } : TI) := by kernel_rfl
@[simp] theorem ti113 : tiOf Tryz.prog 113 = some ({ size := 7, bytes := 64, agg := true, zero := [.int .i64 0, .string { data := #[] }, .int .i64 0, .bool false, .int .i64 0, .int .i64 0, .int .i64 0], desc := .struct #[{ name := "T", type := 84, offset := 0, embedded := false, tag := "", pkgPath := "", byteOffset := 0 }, { name := "To", type := 3, offset := 5, embedded := false, tag := "", pkgPath := "", byteOffset := 48 }, { name := "Bad", type := 3, offset := 6, embedded := false, tag := "", pkgPath := "", byteOffset := 56 }], held := false, guarded := false } : TI) := by kernel_rfl
@[simp] theorem ti114 : tiOf Tryz.prog 114 = some ({ size := 7, bytes := 64, agg := true, zero := [.int .i64 0, .string { data := #[] }, .int .i64 0, .bool false, .int .i64 0, .int .i64 0, .int .i64 0], desc := .struct #[{ name := "T", type := 84, offset := 0, embedded := false, tag := "", pkgPath := "", byteOffset := 0 }, { name := "To", type := 3, offset := 5, embedded := false, tag := "", pkgPath := "", byteOffset := 48 }, { name := "Bad", type := 3, offset := 6, embedded := false, tag := "", pkgPath := "", byteOffset := 56 }], held := false, guarded := false } : TI) := by kernel_rfl
@[simp] theorem ti115 : tiOf Tryz.prog 115 = some ({ size := 1, bytes := 8, agg := false, zero := [.nilFunc], desc := .func #[9, 3] #[114] false, held := false, guarded := false } : TI) := by kernel_rfl
@[simp] theorem ti116 : tiOf Tryz.prog 116 = some ({ size := 1, bytes := 0, agg := false, zero := [.tuple { toList := [.string { data := #[] }, .agg #[.int .i64 0, .int .i64 0, .int .i64 0]] }], desc := .tuple #[9, 87], held := false, guarded := false } : TI) := by kernel_rfl
@[simp] theorem ti117 : tiOf Tryz.prog 117 = some ({ size := 1, bytes := 8, agg := false, zero := [.nilFunc], desc := .func #[81, 3] #[9, 87] false, held := false, guarded := false } : TI) := by kernel_rfl
@[simp] theorem ti118 : tiOf Tryz.prog 118 = some ({ size := 1, bytes := 8, agg := false, zero := [.nilFunc], desc := .func #[84, 3] #[87] false, held := false, guarded := false } : TI) := by kernel_rfl
@[simp] theorem ti119 : tiOf Tryz.prog 119 = some ({ size := 1, bytes := 0, agg := false, zero := [.tuple { toList := [.agg { toList := [.string { data := #[] }, .slice none 0 0] }, .agg #[.int .i64 0, .int .i64 0, .int .i64 0]] }], desc := .tuple #[37, 87], held := false, guarded := false } : TI) := by kernel_rfl
@[simp] theorem ti120 : tiOf Tryz.prog 120 = some ({ size := 1, bytes := 8, agg := false, zero := [.nilFunc], desc := .func #[81, 3] #[37, 87] false, held := false, guarded := false } : TI) := by kernel_rfl
@[simp] theorem ti121 : tiOf Tryz.prog 121 = some ({ size := 1, bytes := 0, agg := false, zero := [.tuple { toList := [.agg { toList := [.int .i64 0, .string { data := #[] }, .slice none 0 0, .string { data := #[] }, .bool false, .string { data := #[] }, .bool false, .string { data := #[] }, .int .i64 0, .bool false, .string { data := #[] }, .bool false, .string { data := #[] }, .int .i64 0] }, .agg #[.int .i64 0, .int .i64 0, .int .i64 0]] }], desc := .tuple #[46, 87], held := false, guarded := false } : TI) := by kernel_rfl
@[simp] theorem ti122 : tiOf Tryz.prog 122 = some ({ size := 1, bytes := 8, agg := false, zero := [.nilFunc], desc := .func #[81, 3] #[46, 87] false, held := false, guarded := false } : TI) := by kernel_rfl
@[simp] theorem ti123 : tiOf Tryz.prog 123 = some ({ size := 1, bytes := 8, agg := false, zero := [.nilFunc], desc := .func #[26, 96] #[3] false, held := false, guarded := false } : TI) := by kernel_rfl
@[simp] theorem ti124 : tiOf Tryz.prog 124 = some ({ size := 1, bytes := 8, agg := false, zero := [.nilFunc], desc := .func #[99] #[3] true, held := false, guarded := false } : TI) := by kernel_rfl
@[simp] theorem ti125 : tiOf Tryz.prog 125 = some ({ size := 1, bytes := 24, agg := false, zero := [.slice none 0 0], desc := .slice 165, held := false, guarded := false } : TI) := by kernel_rfl
@[simp] theorem ti126 : tiOf Tryz.prog 126 = some ({ size := 1, bytes := 24, agg := false, zero := [.slice none 0 0], desc := .slice 165, held := false, guarded := false } : TI) := by kernel_rfl
@[simp] theorem ti127 : tiOf Tryz.prog 127 = some ({ size := 1, bytes := 0, agg := false, zero := [.tuple #[.slice none 0 0, .bool false]], desc := .tuple #[126, 4], held := false, guarded := false } : TI) := by kernel_rfl
@[simp] theorem ti128 : tiOf Tryz.prog 128 = some ({ size := 1, bytes := 8, agg := false, zero := [.nilFunc], desc := .func #[40, 34] #[126, 4] false, held := false, guarded := false } : TI) := by kernel_rfl
@[simp] theorem ti129 : tiOf Tryz.prog 129 = some ({ size := 1, bytes := 8, agg := false, zero := [.nilFunc], desc := .func #[38, 131] #[4] false, held := false, guarded := false } : TI) := by kernel_rfl
@[simp] theorem ti130 : tiOf Tryz.prog 130 = some ({ size := 1, bytes := 8, agg := false, zero := [.nilFunc], desc := .func #[46, 26, 126] #[4] false, held := false, guarded := false } : TI) := by kernel_rfl
@[simp] theorem ti131 : tiOf Tryz.prog 131 = some ({ size := 1, bytes := 8, agg := false, zero := [.nilFunc], desc := .func #[46] #[4] false, held := false, guarded := false } : TI) := by kernel_rfl
@[simp] theorem ti132 : tiOf Tryz.prog 132 = some ({ size := 1, bytes := 8, agg := false, zero := [.nilFunc], desc := .func #[32, 98] #[3] false, held := false, guarded := false } : TI) := by kernel_rfl
@[simp] theorem ti133 : tiOf Tryz.prog 133 = some ({ size := 1, bytes := 24, agg := false, zero := [.slice none 0 0], desc := .slice 4, held := false, guarded := false } : TI) := by kernel_rfl
@[simp] theorem ti134 : tiOf Tryz.prog 134 = some ({ size := 1, bytes := 8, agg := false, zero := [.nilFunc], desc := .func #[40, 133, 65] #[3] false, held := false, guarded := false } : TI) := by kernel_rfl
@[simp] theorem ti135 : tiOf Tryz.prog 135 = some ({ size := 1, bytes := 8, agg := false, zero := [.nilFunc], desc := .func #[69, 9, 42] #[69] false, held := false, guarded := false } : TI) := by kernel_rfl
@[simp] theorem ti136 : tiOf Tryz.prog 136 = some ({ size := 1, bytes := 8, agg := false, zero := [.nilFunc], desc := .func #[69] #[27] false, held := false, guarded := false } : TI) := by kernel_rfl
@[simp] theorem ti137 : tiOf Tryz.prog 137 = some ({ size := 1, bytes := 8, agg := false, zero := [.nilFunc], desc := .func #[26, 9, 27] #[4] false, held := false, guarded := false } : TI) := by kernel_rfl
@[simp] theorem ti138 : tiOf Tryz.prog 138 = some ({ size := 1, bytes := 0, agg := false, zero := [.tuple #[.bool false, .bool false]], desc := .tuple #[4, 4], held := false, guarded := false } : TI) := by kernel_rfl
@[simp] theorem ti139 : tiOf Tryz.prog 139 = some ({ size := 1, bytes := 8, agg := false, zero := [.nilFunc], desc := .func #[46, 69] #[4, 4] false, held := false, guarded := false } : TI) := by kernel_rfl
@[simp] theorem ti140 : tiOf Tryz.prog 140 = some ({ size := 1, bytes := 8, agg := false, zero := [.nilFunc], desc := .func #[42] #[42] false, held := false, guarded := false } : TI) := by kernel_rfl
@[simp] theorem ti141 : tiOf Tryz.prog 141 = some ({ size := 1, bytes := 8, agg := false, zero := [.nilFunc], desc := .func #[69, 9] #[42, 4] false, held := false, guarded := false } : TI) := by kernel_rfl
@[simp] theorem ti142 : tiOf Tryz.prog 142 = some ({ size := 1, bytes := 8, agg := false, zero := [.nilFunc], desc := .func #[5] #[4] false, held := false, guarded := false } : TI) := by kernel_rfl
@[simp] theorem ti143 : tiOf Tryz.prog 143 = some ({ size := 1, bytes := 8, agg := false, zero := [.nilFunc], desc := .func #[9] #[4] false, held := false, guarded := false } : TI) := by kernel_rfl
@[simp] theorem ti144 : tiOf Tryz.prog 144 = some ({ size := 1, bytes := 0, agg := false, zero := [.tuple { toList := [.agg { toList := [.bool false, .string { data := #[] }, .bool false, .string { data := #[] }, .int .i64 0] }, .agg #[.int .i64 0, .int .i64 0, .int .i64 0]] }], desc := .tuple #[44, 87], held := false, guarded := false } : TI) := by kernel_rfl
@[simp] theorem ti145 : tiOf Tryz.prog 145 = some ({ size := 1, bytes := 8, agg := false, zero := [.nilFunc], desc := .func #[81, 3] #[44, 87] false, held := false, guarded := false } : TI) := by kernel_rfl
@[simp] theorem ti146 : tiOf Tryz.prog 146 = some ({ size := 1, bytes := 8, agg := false, zero := [.nilFunc], desc := .func #[84] #[4] false, held := false, guarded := false } : TI) := by kernel_rfl
@[simp] theorem ti147 : tiOf Tryz.prog 147 = some ({ size := 1, bytes := 8, agg := false, zero := [.nilFunc], desc := .func #[3, 3] #[3] false, held := false, guarded := false } : TI) := by kernel_rfl
@[simp] theorem ti148 : tiOf Tryz.prog 148 = some ({ size := 1, bytes := 8, agg := false, zero := [.nilFunc], desc := .func #[37, 27, 126] #[126, 4] false, held := false, guarded := false } : TI) := by kernel_rfl
@[simp] theorem ti149 : tiOf Tryz.prog 149 = some ({ size := 1, bytes := 8, agg := false, zero := [.nilFunc], desc := .func #[38, 131] #[3] false, held := false, guarded := false } : TI) := by kernel_rfl
@[simp] theorem ti150 : tiOf Tryz.prog 150 = some ({ size := 1, bytes := 8, agg := false, zero := [.nilFunc], desc := .func #[37, 126] #[27, 4] false, held := false, guarded := false } : TI) := by kernel_rfl
@[simp] theorem ti151 : tiOf Tryz.prog 151 = some ({ size := 1, bytes := 8, agg := false, zero := [.nilFunc], desc := .func #[46, 126] #[4, 4] false, held := false, guarded := false } : TI) := by kernel_rfl
@[simp] theorem ti152 : tiOf Tryz.prog 152 = some ({ size := 1, bytes := 8, agg := false, zero := [.nilFunc], desc := .func #[46] #[35] false, held := false, guarded := false } : TI) := by kernel_rfl
@[simp] theorem ti153 : tiOf Tryz.prog 153 = some ({ size := 1, bytes := 8, agg := false, zero := [.nilFunc], desc := .func #[37, 65] #[99] false, held := false, guarded := false } : TI) := by kernel_rfl
@[simp] theorem ti154 : tiOf Tryz.prog 154 = some ({ size := 4, bytes := 48, agg := true, zero := [.string { data := #[] }, .bool false, .string { data := #[] }, .int .i64 0], desc := .struct #[{ name := "Name", type := 9, offset := 0, embedded := false, tag := "", pkgPath := "", byteOffset := 0 }, { name := "Val", type := 42, offset := 1, embedded := false, tag := "", pkgPath := "", byteOffset := 16 }], held := false, guarded := false } : TI) := by kernel_rfl
@[simp] theorem ti155 : tiOf Tryz.prog 155 = some ({ size := 4, bytes := 48, agg := true, zero := [.string { data := #[] }, .bool false, .string { data := #[] }, .int .i64 0], desc := .struct #[{ name := "Name", type := 9, offset := 0, embedded := false, tag := "", pkgPath := "", byteOffset := 0 }, { name := "Val", type := 42, offset := 1, embedded := false, tag := "", pkgPath := "", byteOffset := 16 }], held := false, guarded := false } : TI) := by kernel_rfl
@[simp] theorem ti156 : tiOf Tryz.prog 156 = some ({ size := 1, bytes := 8, agg := false, zero := [.nilFunc], desc := .func #[9, 42, 42] #[4, 4] false, held := false, guarded := false } : TI) := by kernel_rfl
@[simp] theorem ti157 : tiOf Tryz.prog 157 = some ({ size := 1, bytes := 24, agg := false, zero := [.slice none 0 0], desc := .slice 5, held := false, guarded := false } : TI) := by kernel_rfl
@[simp] theorem ti158 : tiOf Tryz.prog 158 = some ({ size := 1, bytes := 8, agg := false, zero := [.nilFunc], desc := .func #[2, 2] #[3] false, held := false, guarded := false } : TI) := by kernel_rfl
@[simp] theorem ti159 : tiOf Tryz.prog 159 = some ({ size := 1, bytes := 8, agg := false, zero := [.nilFunc], desc := .func #[3] #[4] false, held := false, guarded := false } : TI) := by kernel_rfl
@[simp] theorem ti160 : tiOf Tryz.prog 160 = some ({ size := 1, bytes := 8, agg := false, zero := [.nilFunc], desc := .func #[44, 126] #[42, 4] false, held := false, guarded := false } : TI) := by kernel_rfl
@[simp] theorem ti161 : tiOf Tryz.prog 161 = some ({ size := 1, bytes := 8, agg := false, zero := [.nilFunc], desc := .func #[9, 42] #[126] false, held := false, guarded := false } : TI) := by kernel_rfl
@[simp] theorem ti162 : tiOf Tryz.prog 162 = some ({ size := 1, bytes := 8, agg := false, zero := [.nilFunc], desc := .func #[2] #[4] false, held := false, guarded := false } : TI) := by kernel_rfl
@[simp] theorem ti163 : tiOf Tryz.prog 163 = some ({ size := 1, bytes := 8, agg := false, zero := [.nilFunc], desc := .func #[9] #[42, 4] false, held := false, guarded := false } : TI) := by kernel_rfl
@[simp] theorem ti164 : tiOf Tryz.prog 164 = some ({ size := 1, bytes := 8, agg := false, zero := [.nilFunc], desc := .func #[126, 167] #[126] false, held := false, guarded := false } : TI) := by kernel_rfl
@[simp] theorem ti165 : tiOf Tryz.prog 165 = some ({ size := 4, bytes := 48, agg := true, zero := [.string { data := #[] }, .bool false, .string { data := #[] }, .int .i64 0], desc := .struct #[{ name := "Name", type := 9, offset := 0, embedded := false, tag := "", pkgPath := "", byteOffset := 0 }, { name := "Val", type := 42, offset := 1, embedded := false, tag := "", pkgPath := "", byteOffset := 16 }], held := false, guarded := false } : TI) := by kernel_rfl
@[simp] theorem ti166 : tiOf Tryz.prog 166 = some ({ size := 1, bytes := 8, agg := false, zero := [.nilFunc], desc := .func #[126] #[126] false, held := false, guarded := false } : TI) := by kernel_rfl
@[simp] theorem ti167 : tiOf Tryz.prog 167 = some ({ size := 1, bytes := 8, agg := false, zero := [.nilFunc], desc := .func #[165] #[4] false, held := false, guarded := false } : TI) := by kernel_rfl
@[simp] theorem ti168 : tiOf Tryz.prog 168 = some ({ size := 1, bytes := 8, agg := false, zero := [.nilFunc], desc := .func #[126, 167] #[3] false, held := false, guarded := false } : TI) := by kernel_rfl
@[simp] theorem ti169 : tiOf Tryz.prog 169 = some ({ size := 1, bytes := 8, agg := false, zero := [.nilFunc], desc := .func #[126, 3, 125] #[126] true, held := false, guarded := false } : TI) := by kernel_rfl
@[simp] theorem ti170 : tiOf Tryz.prog 170 = some ({ size := 2, bytes := 24, agg := true, zero := [.string { data := #[] }, .nilFunc], desc := .struct #[{ name := "name", type := 9, offset := 0, embedded := false, tag := "", pkgPath := "lambrequin/value", byteOffset := 0 }, { name := "holds", type := 159, offset := 1, embedded := false, tag := "", pkgPath := "lambrequin/value", byteOffset := 16 }], held := false, guarded := false } : TI) := by kernel_rfl
@[simp] theorem ti171 : tiOf Tryz.prog 171 = some ({ size := 1, bytes := 24, agg := false, zero := [.slice none 0 0], desc := .slice 170, held := false, guarded := false } : TI) := by kernel_rfl
@[simp] theorem ti172 : tiOf Tryz.prog 172 = some ({ size := 1, bytes := 8, agg := false, zero := [.nilFunc], desc := .func #[9] #[42] false, held := false, guarded := false } : TI) := by kernel_rfl
@[simp] theorem ti173 : tiOf Tryz.prog 173 = some ({ size := 1, bytes := 8, agg := false, zero := [.nilFunc], desc := .func #[2] #[42] false, held := false, guarded := false } : TI) := by kernel_rfl
@[simp] theorem ti174 : tiOf Tryz.prog 174 = some ({ size := 1, bytes := 8, agg := false, zero := [.nilFunc], desc := .func #[125, 125] #[4] false, held := false, guarded := false } : TI) := by kernel_rfl
@[simp] theorem ti175 : tiOf Tryz.prog 175 = some ({ size := 1, bytes := 8, agg := false, zero := [.nilFunc], desc := .func #[125, 3] #[] false, held := false, guarded := false } : TI) := by kernel_rfl
@[simp] theorem ti176 : tiOf Tryz.prog 176 = some ({ size := 1, bytes := 8, agg := false, zero := [.nilFunc], desc := .func #[125] #[] false, held := false, guarded := false } : TI) := by kernel_rfl
@[simp] theorem ti177 : tiOf Tryz.prog 177 = some ({ size := 1, bytes := 8, agg := false, zero := [.nilFunc], desc := .func #[] #[9] false, held := false, guarded := false } : TI) := by kernel_rfl
@[simp] theorem ti178 : tiOf Tryz.prog 178 = some ({ size := 4, bytes := 40, agg := true, zero := [.pointer none, .pointer none, .pointer none, .string { data := #[] }], desc := .struct #[{ name := "_interface", type := 17, offset := 0, embedded := false, tag := "", pkgPath := "runtime", byteOffset := 0 }, { name := "concrete", type := 17, offset := 1, embedded := false, tag := "", pkgPath := "runtime", byteOffset := 8 }, { name := "asserted", type := 17, offset := 2, embedded := false, tag := "", pkgPath := "runtime", byteOffset := 16 }, { name := "missingMethod", type := 9, offset := 3, embedded := false, tag := "", pkgPath := "runtime", byteOffset := 24 }], held := true, guarded := false } : TI) := by kernel_rfl
@[simp] theorem ti179 : tiOf Tryz.prog 179 = some ({ size := 4, bytes := 40, agg := true, zero := [.pointer none, .pointer none, .pointer none, .string { data := #[] }], desc := .struct #[{ name := "_interface", type := 17, offset := 0, embedded := false, tag := "", pkgPath := "runtime", byteOffset := 0 }, { name := "concrete", type := 17, offset := 1, embedded := false, tag := "", pkgPath := "runtime", byteOffset := 8 }, { name := "asserted", type := 17, offset := 2, embedded := false, tag := "", pkgPath := "runtime", byteOffset := 16 }, { name := "missingMethod", type := 9, offset := 3, embedded := false, tag := "", pkgPath := "runtime", byteOffset := 24 }], held := true, guarded := false } : TI) := by kernel_rfl
@[simp] theorem ti180 : tiOf Tryz.prog 180 = some ({ size := 0, bytes := 0, agg := true, zero := [], desc := .array 0 16, held := false, guarded := false } : TI) := by kernel_rfl
@[simp] theorem ti181 : tiOf Tryz.prog 181 = some ({ size := 0, bytes := 0, agg := true, zero := [], desc := .struct #[{ name := "_", type := 180, offset := 0, embedded := false, tag := "", pkgPath := "runtime", byteOffset := 0 }], held := true, guarded := false } : TI) := by kernel_rfl
@[simp] theorem ti182 : tiOf Tryz.prog 182 = some ({ size := 0, bytes := 0, agg := true, zero := [], desc := .struct #[{ name := "_", type := 180, offset := 0, embedded := false, tag := "", pkgPath := "runtime", byteOffset := 0 }], held := true, guarded := false } : TI) := by kernel_rfl
@[simp] theorem ti183 : tiOf Tryz.prog 183 = some ({ size := 1, bytes := 8, agg := false, zero := [.nilFunc], desc := .func #[] #[3] false, held := false, guarded := false } : TI) := by kernel_rfl
@[simp] theorem ti184 : tiOf Tryz.prog 184 = some ({ size := 1, bytes := 4, agg := false, zero := [.int .u32 0], desc := .int .u32, held := false, guarded := false } : TI) := by kernel_rfl
@[simp] theorem ti185 : tiOf Tryz.prog 185 = some ({ size := 1, bytes := 1, agg := false, zero := [.int .u8 0], desc := .int .u8, held := false, guarded := false } : TI) := by kernel_rfl
@[simp] theorem ti186 : tiOf Tryz.prog 186 = some ({ size := 1, bytes := 1, agg := false, zero := [.int .u8 0], desc := .int .u8, held := false, guarded := false } : TI) := by kernel_rfl
@[simp] theorem ti187 : tiOf Tryz.prog 187 = some ({ size := 1, bytes := 8, agg := false, zero := [.nilFunc], desc := .func #[193, 193] #[4] false, held := false, guarded := false } : TI) := by kernel_rfl
@[simp] theorem ti188 : tiOf Tryz.prog 188 = some ({ size := 1, bytes := 8, agg := false, zero := [.pointer none], desc := .pointer 5, held := false, guarded := false } : TI) := by kernel_rfl
@[simp] theorem ti189 : tiOf Tryz.prog 189 = some ({ size := 1, bytes := 4, agg := false, zero := [.int .i32 0], desc := .int .i32, held := false, guarded := false } : TI) := by kernel_rfl
@[simp] theorem ti190 : tiOf Tryz.prog 190 = some ({ size := 1, bytes := 4, agg := false, zero := [.int .i32 0], desc := .int .i32, held := false, guarded := false } : TI) := by kernel_rfl
@[simp] theorem ti191 : tiOf Tryz.prog 191 = some ({ size := 11, bytes := 48, agg := true, zero := [.int .u64 0, .int .u64 0, .int .u32 0, .int .u8 0, .int .u8 0, .int .u8 0, .int .u8 0, .nilFunc, .pointer none, .int .i32 0, .int .i32 0], desc := .struct #[{ name := "Size_", type := 12, offset := 0, embedded := false, tag := "", pkgPath := "", byteOffset := 0 }, { name := "PtrBytes", type := 12, offset := 1, embedded := false, tag := "", pkgPath := "", byteOffset := 8 }, { name := "Hash", type := 184, offset := 2, embedded := false, tag := "", pkgPath := "", byteOffset := 16 }, { name := "TFlag", type := 185, offset := 3, embedded := false, tag := "", pkgPath := "", byteOffset := 20 }, { name := "Align_", type := 5, offset := 4, embedded := false, tag := "", pkgPath := "", byteOffset := 21 }, { name := "FieldAlign_", type := 5, offset := 5, embedded := false, tag := "", pkgPath := "", byteOffset := 22 }, { name := "Kind_", type := 186, offset := 6, embedded := false, tag := "", pkgPath := "", byteOffset := 23 }, { name := "Equal", type := 187, offset := 7, embedded := false, tag := "", pkgPath := "", byteOffset := 24 }, { name := "GCData", type := 188, offset := 8, embedded := false, tag := "", pkgPath := "", byteOffset := 32 }, { name := "Str", type := 189, offset := 9, embedded := false, tag := "", pkgPath := "", byteOffset := 40 }, { name := "PtrToThis", type := 190, offset := 10, embedded := false, tag := "", pkgPath := "", byteOffset := 44 }], held := true, guarded := false } : TI) := by kernel_rfl
@[simp] theorem ti192 : tiOf Tryz.prog 192 = some ({ size := 11, bytes := 48, agg := true, zero := [.int .u64 0, .int .u64 0, .int .u32 0, .int .u8 0, .int .u8 0, .int .u8 0, .int .u8 0, .nilFunc, .pointer none, .int .i32 0, .int .i32 0], desc := .struct #[{ name := "Size_", type := 12, offset := 0, embedded := false, tag := "", pkgPath := "", byteOffset := 0 }, { name := "PtrBytes", type := 12, offset := 1, embedded := false, tag := "", pkgPath := "", byteOffset := 8 }, { name := "Hash", type := 184, offset := 2, embedded := false, tag := "", pkgPath := "", byteOffset := 16 }, { name := "TFlag", type := 185, offset := 3, embedded := false, tag := "", pkgPath := "", byteOffset := 20 }, { name := "Align_", type := 5, offset := 4, embedded := false, tag := "", pkgPath := "", byteOffset := 21 }, { name := "FieldAlign_", type := 5, offset := 5, embedded := false, tag := "", pkgPath := "", byteOffset := 22 }, { name := "Kind_", type := 186, offset := 6, embedded := false, tag := "", pkgPath := "", byteOffset := 23 }, { name := "Equal", type := 187, offset := 7, embedded := false, tag := "", pkgPath := "", byteOffset := 24 }, { name := "GCData", type := 188, offset := 8, embedded := false, tag := "", pkgPath := "", byteOffset := 32 }, { name := "Str", type := 189, offset := 9, embedded := false, tag := "", pkgPath := "", byteOffset := 40 }, { name := "PtrToThis", type := 190, offset := 10, embedded := false, tag := "", pkgPath := "", byteOffset := 44 }], held := true, guarded := false } : TI) := by kernel_rfl
end Go.Am
namespace Go.Am
open Go.Proofs
noncomputable def env (K : Nat) (gw : World) : Env := { P := Tryz.prog, K := K, gw := gw, ti := tiOf Tryz.prog, tok := fun _ _ h => h, glob := fun _ => [], gok := fun g j x h => by simp at h }
section
variable {K : Nat} {gw : World} {s : St}
theorem mixed0 : Tryz.prog.follows .mixedOrders = true := by kernel_rfl
theorem env_P : (env K gw).P = Tryz.prog := rfl
theorem mixed : (env K gw).P.follows .mixedOrders = true := @mixed_of (env K gw) Tryz.prog env_P mixed0
theorem env_ti' : (env K gw).ti = tiOf Tryz.prog := by simp only [env]
theorem env_ti (t : TypeId) : (env K gw).ti t = tiOf Tryz.prog t := congrFun env_ti' t
theorem fnOk {E : Env} {P : Program} {f : FuncId} {fn : Func} (hP : E.P = P) (h : P.funcs[f]? = some fn) (h1 : (fn.name == "runtime.NumGoroutine") = false) (h2 : fn.body.isNone = false) : FnOk E.P f := ⟨fn, by rw [hP]; exact h, h1, h2⟩
attribute [local simp] awanted xop zOf cz zrow aop ev T0 Slots.put Slots.set Slots.get awr WOk AV.may ofConst abinop aint isConst St.get_push St.get_put St.live AV.fit AV.cells AV.one fieldOf afieldAddr aload ofCells astore splice May eqres env_ti FinP FinZ FinW ares aresL ares1 Fns.addP Fns.add Fns.a0 Fns.a1 Fns.a2 Fns.a3 Fns.a4 abuiltin alenOk alen aindex elemOfT elemId abuildSlice afill chunks ard aappend isSS AV.isStr aminmax placesOf abuild afield aidx isStrD isStrDesc astrop aslice asliceOk abound arange anext aextract aunop aeq AV.ck avseq aveq aconv aconvert onB_t onB_f List.range_succ
abbrev Str := List UInt8
def cmpI (m n : Int) : Int := if m < n then -1 else if n < m then 1 else 0
def cmpS (a b : List UInt8) : Int := if Op.bytesLess a b then -1 else if a == b then 0 else 1

def pNaNi : List AV → Option AV
  | [.int .i64 _] => some (.bool false)
  | _ => none
def pNaNs : List AV → Option AV
  | [.str _] => some (.bool false)
  | _ => none
def pCmpI : List AV → Option AV
  | [.int .i64 m, .int .i64 n] => some (.int .i64 (cmpI m n))
  | _ => none
def pCmpS : List AV → Option AV
  | [.str m, .str n] => some (.int .i64 (cmpS m n))
  | _ => none

theorem ft45 (n : Int) : FT (env K gw) NoW 97 [.int .i64 n] s (.bool false) s := by
  refine FT.pure (fn := Tryz.f97) F0_ok mixed Tryz.func97 rfl (by rfl) rfl rfl (by simp) rfl fun μ w => ?_
  repeat' (first
    | refine WP.t ?_ | refine WP.k ?_ | refine WP.e ?_ | refine Qn ?_ | refine Qr ?_ | refine Qe ?_ | refine Bn ?_ | refine Br ?_ | refine Be ?_ | refine Bx (by decide) ?_
    | (refine RS.nl ?_; refine hk _ _ ?_; clear hk k)
    | ((first | refine RS.st fun A B hA hB => ?_ | refine RQ.st fun A B hA hB => ?_); simp [awanted, onW_t, onW_f, onV_s]; first | ((first | refine hA _ _ _ ?_ ?_ | refine hA _ _ _ ?_ (by first | exact .inl rfl | exact .inr (by decide)) ?_); (focus (simp [awanted] <;> omega)); clear hA hB A B) | (refine hB ?_; clear hA hB A B) | (refine onV_if ?_ ?_; (focus (first | omega | (refine ⟨?_, ?_⟩ <;> omega))); simp only [onV_s]; (first | refine hA _ _ _ ?_ ?_ | refine hA _ _ _ ?_ (by first | exact .inl rfl | exact .inr (by decide)) ?_); (focus (simp [awanted] <;> omega)); clear hA hB A B))
    | (refine RQ.nl ?_; refine hk _ _ ?_; clear hk k)
    | refine WP.sr fun k hk => ?_ | refine WP.r fun k hk => ?_
    | refine WP.sd _ rfl fun k hk => ?_ | refine WP.d _ rfl fun k hk => ?_
    | (refine WP.cc fun A B hA hB => ?_; simp [awanted, onB_t, onB_f]; first | (refine hA ?_; clear hA hB A B) | (refine hB ?_; clear hA hB A B) | (refine onB_if (fun h => hA ?_) (fun h => hB ?_) <;> clear hA hB A B))
    | refine WP.q ?_ | refine WP.b ?_)
  simp
theorem ft56 (n : List UInt8) : FT (env K gw) NoW 85 [.str n] s (.bool false) s := by
  refine FT.pure (fn := Tryz.f85) F0_ok mixed Tryz.func85 rfl (by rfl) rfl rfl (by simp) rfl fun μ w => ?_
  repeat' (first
    | refine WP.t ?_ | refine WP.k ?_ | refine WP.e ?_ | refine Qn ?_ | refine Qr ?_ | refine Qe ?_ | refine Bn ?_ | refine Br ?_ | refine Be ?_ | refine Bx (by decide) ?_
    | (refine RS.nl ?_; refine hk _ _ ?_; clear hk k)
    | ((first | refine RS.st fun A B hA hB => ?_ | refine RQ.st fun A B hA hB => ?_); simp [astrop, onW_t, onW_f, onV_s]; first | ((first | refine hA _ _ _ ?_ ?_ | refine hA _ _ _ ?_ (by first | exact .inl rfl | exact .inr (by decide)) ?_); (focus (simp [astrop] <;> omega)); clear hA hB A B) | (refine hB ?_; clear hA hB A B) | (refine onV_if ?_ ?_; (focus (first | omega | (refine ⟨?_, ?_⟩ <;> omega))); simp only [onV_s]; (first | refine hA _ _ _ ?_ ?_ | refine hA _ _ _ ?_ (by first | exact .inl rfl | exact .inr (by decide)) ?_); (focus (simp [astrop] <;> omega)); clear hA hB A B))
    | (refine RQ.nl ?_; refine hk _ _ ?_; clear hk k)
    | refine WP.sr fun k hk => ?_ | refine WP.r fun k hk => ?_
    | refine WP.sd _ rfl fun k hk => ?_ | refine WP.d _ rfl fun k hk => ?_
    | (refine WP.cc fun A B hA hB => ?_; simp [astrop, onB_t, onB_f]; first | (refine hA ?_; clear hA hB A B) | (refine hB ?_; clear hA hB A B) | (refine onB_if (fun h => hA ?_) (fun h => hB ?_) <;> clear hA hB A B))
    | refine WP.q ?_ | refine WP.b ?_)
  simp
theorem ft57 (n : Int) : FT (env K gw) NoW 102 [.int .i64 n] s (.bool false) s := by
  refine FT.pure (fn := Tryz.f102) F0_ok mixed Tryz.func102 rfl (by rfl) rfl rfl (by simp) rfl fun μ w => ?_
  repeat' (first
    | refine WP.t ?_ | refine WP.k ?_ | refine WP.e ?_ | refine Qn ?_ | refine Qr ?_ | refine Qe ?_ | refine Bn ?_ | refine Br ?_ | refine Be ?_ | refine Bx (by decide) ?_
    | (refine RS.nl ?_; refine hk _ _ ?_; clear hk k)
    | ((first | refine RS.st fun A B hA hB => ?_ | refine RQ.st fun A B hA hB => ?_); simp [awanted, onW_t, onW_f, onV_s]; first | ((first | refine hA _ _ _ ?_ ?_ | refine hA _ _ _ ?_ (by first | exact .inl rfl | exact .inr (by decide)) ?_); (focus (simp [awanted] <;> omega)); clear hA hB A B) | (refine hB ?_; clear hA hB A B) | (refine onV_if ?_ ?_; (focus (first | omega | (refine ⟨?_, ?_⟩ <;> omega))); simp only [onV_s]; (first | refine hA _ _ _ ?_ ?_ | refine hA _ _ _ ?_ (by first | exact .inl rfl | exact .inr (by decide)) ?_); (focus (simp [awanted] <;> omega)); clear hA hB A B))
    | (refine RQ.nl ?_; refine hk _ _ ?_; clear hk k)
    | refine WP.sr fun k hk => ?_ | refine WP.r fun k hk => ?_
    | refine WP.sd _ rfl fun k hk => ?_ | refine WP.d _ rfl fun k hk => ?_
    | (refine WP.cc fun A B hA hB => ?_; simp [awanted, onB_t, onB_f]; first | (refine hA ?_; clear hA hB A B) | (refine hB ?_; clear hA hB A B) | (refine onB_if (fun h => hA ?_) (fun h => hB ?_) <;> clear hA hB A B))
    | refine WP.q ?_ | refine WP.b ?_)
  simp
def F1 : Fns := ((F0.addP 97 pNaNi).addP 85 pNaNs).addP 102 pNaNi
theorem F1_ok : FOk (env K gw) F1 := by
  refine ((F0_ok.addP ?_).addP ?_).addP ?_
  · intro xs s r h; unfold pNaNi at h; split at h <;> cases h; exact ft45 _
  · intro xs s r h; unfold pNaNs at h; split at h <;> cases h; exact ft56 _
  · intro xs s r h; unfold pNaNi at h; split at h <;> cases h; exact ft57 _
theorem ft28 (m n : Int) : FT (env K gw) NoW 87 [.int .i64 m, .int .i64 n] s (.int .i64 (cmpI m n)) s := by
  refine FT.pure (fn := Tryz.f87) F1_ok mixed Tryz.func87 rfl (by rfl) rfl rfl (by simp) rfl fun μ w => ?_
  repeat' (first
    | refine WP.t ?_ | refine WP.k ?_ | refine WP.e ?_ | refine Qn ?_ | refine Qr ?_ | refine Qe ?_ | refine Bn ?_ | refine Br ?_ | refine Be ?_ | refine Bx (by decide) ?_
    | (refine RS.nl ?_; refine hk _ _ ?_; clear hk k)
    | ((first | refine RS.st fun A B hA hB => ?_ | refine RQ.st fun A B hA hB => ?_); simp [F1, Fns.addP, pNaNi, onW_t, onW_f, onV_s]; first | ((first | refine hA _ _ _ ?_ ?_ | refine hA _ _ _ ?_ (by first | exact .inl rfl | exact .inr (by decide)) ?_); (focus (simp [F1, Fns.addP, pNaNi] <;> omega)); clear hA hB A B) | (refine hB ?_; clear hA hB A B) | (refine onV_if ?_ ?_; (focus (first | omega | (refine ⟨?_, ?_⟩ <;> omega))); simp only [onV_s]; (first | refine hA _ _ _ ?_ ?_ | refine hA _ _ _ ?_ (by first | exact .inl rfl | exact .inr (by decide)) ?_); (focus (simp [F1, Fns.addP, pNaNi] <;> omega)); clear hA hB A B))
    | (refine RQ.nl ?_; refine hk _ _ ?_; clear hk k)
    | refine WP.sr fun k hk => ?_ | refine WP.r fun k hk => ?_
    | refine WP.sd _ rfl fun k hk => ?_ | refine WP.d _ rfl fun k hk => ?_
    | (refine WP.cc fun A B hA hB => ?_; simp [F1, Fns.addP, pNaNi, onB_t, onB_f]; first | (refine hA ?_; clear hA hB A B) | (refine hB ?_; clear hA hB A B) | (refine onB_if (fun h => hA ?_) (fun h => hB ?_) <;> clear hA hB A B))
    | refine WP.q ?_ | refine WP.b ?_)
  all_goals (simp at *; simp [cmpI, cmpS, *]; try omega)
theorem ft44 (m n : Int) : FT (env K gw) NoW 96 [.int .i64 m, .int .i64 n] s (.int .i64 (cmpI m n)) s := by
  refine FT.pure (fn := Tryz.f96) F1_ok mixed Tryz.func96 rfl (by rfl) rfl rfl (by simp) rfl fun μ w => ?_
  repeat' (first
    | refine WP.t ?_ | refine WP.k ?_ | refine WP.e ?_ | refine Qn ?_ | refine Qr ?_ | refine Qe ?_ | refine Bn ?_ | refine Br ?_ | refine Be ?_ | refine Bx (by decide) ?_
    | (refine RS.nl ?_; refine hk _ _ ?_; clear hk k)
    | ((first | refine RS.st fun A B hA hB => ?_ | refine RQ.st fun A B hA hB => ?_); simp [F1, Fns.addP, pNaNi, onW_t, onW_f, onV_s]; first | ((first | refine hA _ _ _ ?_ ?_ | refine hA _ _ _ ?_ (by first | exact .inl rfl | exact .inr (by decide)) ?_); (focus (simp [F1, Fns.addP, pNaNi] <;> omega)); clear hA hB A B) | (refine hB ?_; clear hA hB A B) | (refine onV_if ?_ ?_; (focus (first | omega | (refine ⟨?_, ?_⟩ <;> omega))); simp only [onV_s]; (first | refine hA _ _ _ ?_ ?_ | refine hA _ _ _ ?_ (by first | exact .inl rfl | exact .inr (by decide)) ?_); (focus (simp [F1, Fns.addP, pNaNi] <;> omega)); clear hA hB A B))
    | (refine RQ.nl ?_; refine hk _ _ ?_; clear hk k)
    | refine WP.sr fun k hk => ?_ | refine WP.r fun k hk => ?_
    | refine WP.sd _ rfl fun k hk => ?_ | refine WP.d _ rfl fun k hk => ?_
    | (refine WP.cc fun A B hA hB => ?_; simp [F1, Fns.addP, pNaNi, onB_t, onB_f]; first | (refine hA ?_; clear hA hB A B) | (refine hB ?_; clear hA hB A B) | (refine onB_if (fun h => hA ?_) (fun h => hB ?_) <;> clear hA hB A B))
    | refine WP.q ?_ | refine WP.b ?_)
  all_goals (simp at *; simp [cmpI, cmpS, *]; try omega)
theorem ft43 (m n : List UInt8) : FT (env K gw) NoW 61 [.str m, .str n] s (.int .i64 (cmpS m n)) s := by
  refine FT.pure (fn := Tryz.f61) F1_ok mixed Tryz.func61 rfl (by rfl) rfl rfl (by simp) rfl fun μ w => ?_
  repeat' (first
    | refine WP.t ?_ | refine WP.k ?_ | refine WP.e ?_ | refine Qn ?_ | refine Qr ?_ | refine Qe ?_ | refine Bn ?_ | refine Br ?_ | refine Be ?_ | refine Bx (by decide) ?_
    | (refine RS.nl ?_; refine hk _ _ ?_; clear hk k)
    | ((first | refine RS.st fun A B hA hB => ?_ | refine RQ.st fun A B hA hB => ?_); simp [F1, Fns.addP, pNaNs, astrop, onW_t, onW_f, onV_s]; first | ((first | refine hA _ _ _ ?_ ?_ | refine hA _ _ _ ?_ (by first | exact .inl rfl | exact .inr (by decide)) ?_); (focus (simp [F1, Fns.addP, pNaNs, astrop] <;> omega)); clear hA hB A B) | (refine hB ?_; clear hA hB A B) | (refine onV_if ?_ ?_; (focus (first | omega | (refine ⟨?_, ?_⟩ <;> omega))); simp only [onV_s]; (first | refine hA _ _ _ ?_ ?_ | refine hA _ _ _ ?_ (by first | exact .inl rfl | exact .inr (by decide)) ?_); (focus (simp [F1, Fns.addP, pNaNs, astrop] <;> omega)); clear hA hB A B))
    | (refine RQ.nl ?_; refine hk _ _ ?_; clear hk k)
    | refine WP.sr fun k hk => ?_ | refine WP.r fun k hk => ?_
    | refine WP.sd _ rfl fun k hk => ?_ | refine WP.d _ rfl fun k hk => ?_
    | (refine WP.cc fun A B hA hB => ?_; simp [F1, Fns.addP, pNaNs, astrop, onB_t, onB_f]; first | (refine hA ?_; clear hA hB A B) | (refine hB ?_; clear hA hB A B) | (refine onB_if (fun h => hA ?_) (fun h => hB ?_) <;> clear hA hB A B))
    | refine WP.q ?_ | refine WP.b ?_)
  all_goals (simp at *; simp_all [cmpS])
def F2 : Fns := ((F1.addP 87 pCmpI).addP 96 pCmpI).addP 61 pCmpS
theorem F2_ok : FOk (env K gw) F2 := by
  refine ((F1_ok.addP ?_).addP ?_).addP ?_
  · intro xs s r h; unfold pCmpI at h; split at h <;> cases h; exact ft28 _ _
  · intro xs s r h; unfold pCmpI at h; split at h <;> cases h; exact ft44 _ _
  · intro xs s r h; unfold pCmpS at h; split at h <;> cases h; exact ft43 _ _

/-- A value of the rules. -/
structure V where
  b : Bool
  s : List UInt8
  n : Int
def V.cs (v : V) : List AV := [.bool v.b, .str v.s, .int .i64 v.n]
def cmpV (x y : V) : Int := if x.b && y.b then cmpS x.s y.s else if x.b then 1 else if y.b then -1 else cmpI x.n y.n
def pCmpV : List AV → Option AV
  | [.agg [.bool b, .str s, .int .i64 n], .agg [.bool b', .str s', .int .i64 n']] => some (.int .i64 (cmpV ⟨b, s, n⟩ ⟨b', s', n'⟩))
  | _ => none
theorem ft27 (x y : V) : FT (env K gw) NoW 86 [.agg x.cs, .agg y.cs] s (.int .i64 (cmpV x y)) s := by
  obtain ⟨b, u, n⟩ := x
  obtain ⟨b', u', n'⟩ := y
  refine FT.pure (fn := Tryz.f86) F2_ok mixed Tryz.func86 rfl (by rfl) rfl rfl (by simp) rfl fun μ w => ?_
  cases b <;> cases b'
  all_goals
    repeat' (first
      | refine WP.t ?_ | refine WP.k ?_ | refine WP.e ?_ | refine Qn ?_ | refine Qr ?_ | refine Qe ?_ | refine Bn ?_ | refine Br ?_ | refine Be ?_ | refine Bx (by decide) ?_
      | (refine RS.nl ?_; refine hk _ _ ?_; clear hk k)
      | ((first | refine RS.st fun A B hA hB => ?_ | refine RQ.st fun A B hA hB => ?_); simp [F2, Fns.addP, pCmpI, pCmpS, V.cs, ti42, ti9, ti4, ti2, onW_t, onW_f, onV_s]; first | ((first | refine hA _ _ _ ?_ ?_ | refine hA _ _ _ ?_ (by first | exact .inl rfl | exact .inr (by decide)) ?_); (focus (simp [F2, Fns.addP, pCmpI, pCmpS, V.cs, ti42, ti9, ti4, ti2] <;> omega)); clear hA hB A B) | (refine hB ?_; clear hA hB A B) | (refine onV_if ?_ ?_; (focus (first | omega | (refine ⟨?_, ?_⟩ <;> omega))); simp only [onV_s]; (first | refine hA _ _ _ ?_ ?_ | refine hA _ _ _ ?_ (by first | exact .inl rfl | exact .inr (by decide)) ?_); (focus (simp [F2, Fns.addP, pCmpI, pCmpS, V.cs, ti42, ti9, ti4, ti2] <;> omega)); clear hA hB A B))
      | (refine RQ.nl ?_; refine hk _ _ ?_; clear hk k)
      | refine WP.sr fun k hk => ?_ | refine WP.r fun k hk => ?_
      | refine WP.sd _ rfl fun k hk => ?_ | refine WP.d _ rfl fun k hk => ?_
      | (refine WP.cc fun A B hA hB => ?_; simp [F2, Fns.addP, pCmpI, pCmpS, V.cs, ti42, ti9, ti4, ti2, onB_t, onB_f]; first | (refine hA ?_; clear hA hB A B) | (refine hB ?_; clear hA hB A B) | (refine onB_if (fun h => hA ?_) (fun h => hB ?_) <;> clear hA hB A B))
      | refine WP.q ?_ | refine WP.b ?_)
  
  all_goals simp [cmpV]
end
end Go.Am
namespace Go.Am
open Go.Proofs
section
variable {K : Nat} {gw : World} {s : St}
attribute [local simp] awanted xop zOf cz zrow aop ev T0 Slots.put Slots.set Slots.get awr WOk AV.may ofConst abinop aint isConst St.get_push St.get_put St.live AV.fit AV.cells AV.one fieldOf afieldAddr aload ofCells astore splice May eqres env_ti FinP FinZ FinW ares aresL ares1 Fns.addP Fns.add Fns.a0 Fns.a1 Fns.a2 Fns.a3 Fns.a4 abuiltin alenOk alen aindex elemOfT elemId abuildSlice afill chunks ard aappend isSS AV.isStr aminmax placesOf abuild afield aidx isStrD isStrDesc astrop aslice asliceOk abound arange anext aextract aunop aeq AV.ck avseq aveq aconv aconvert onB_t onB_f List.range_succ
def F3 : Fns := F2.addP 86 pCmpV
theorem F3_ok : FOk (env K gw) F3 := by
  refine F2_ok.addP ?_
  intro xs s r h; unfold pCmpV at h; split at h <;> cases h; exact ft27 ⟨_, _, _⟩ ⟨_, _, _⟩

def decV : List AV → Option V
  | [.bool b, .str s, .int .i64 n] => some ⟨b, s, n⟩
  | _ => none
def decL : List (List AV) → Option (List V)
  | [] => some []
  | c :: l => match decV c, decL l with
    | some v, some vs => some (v :: vs)
    | _, _ => none
@[simp] theorem decV_cs (v : V) : decV v.cs = some v := rfl
@[simp] theorem decL_map (l : List V) : decL (l.map V.cs) = some l := by
  induction l with
  | nil => rfl
  | cons v l ih => simp [decL, ih]
theorem decV_eq {c : List AV} {v : V} (h : decV c = some v) : c = v.cs := by
  unfold decV at h
  split at h <;> cases h
  rfl
theorem decL_eq {c : List (List AV)} {v : List V} (h : decL c = some v) : c = v.map V.cs := by
  induction c generalizing v with
  | nil => cases h; rfl
  | cons x c ih =>
    simp only [decL] at h
    split at h
    · rename_i a b ha hb
      cases h
      simp [decV_eq ha, ih hb]
    · cases h

abbrev LIM : Nat := 4611686018427387904
def cmpT : List V → List V → Int
  | [], [] => 0
  | [], _ :: _ => -1
  | _ :: _, [] => 1
  | a :: x, b :: y => if cmpV a b = 0 then cmpT x y else cmpV a b
def pCmpT : List AV → Option AV
  | [.sl a, .sl b] => match decL a, decL b with
    | some x, some y => if x.length < LIM ∧ y.length < LIM then some (.int .i64 (cmpT x y)) else none
    | _, _ => none
  | _ => none

theorem cmpT_drop {x y : List V} {i : Nat} (hx : i < x.length) (hy : i < y.length) :
    cmpT (x.drop i) (y.drop i) = if cmpV x[i] y[i] = 0 then cmpT (x.drop (i + 1)) (y.drop (i + 1)) else cmpV x[i] y[i] := by
  rw [List.drop_eq_getElem_cons hx, List.drop_eq_getElem_cons hy]; rfl
theorem cmpT_end {x y : List V} {i : Nat} (h : i = min x.length y.length) : cmpT (x.drop i) (y.drop i) = cmpI x.length y.length := by
  unfold cmpI
  by_cases h1 : x.length < y.length
  · obtain rfl : i = x.length := by omega
    rw [List.drop_length, if_pos (by omega), List.drop_eq_getElem_cons h1]; rfl
  · by_cases h2 : y.length < x.length
    · obtain rfl : i = y.length := by omega
      rw [List.drop_length, if_neg (by omega), if_pos (by omega), List.drop_eq_getElem_cons h2]; rfl
    · obtain rfl : i = x.length := by omega
      rw [if_neg (by omega), if_neg (by omega)]
      have : x.length = y.length := by omega
      rw [List.drop_length, this, List.drop_length]; rfl

theorem ft11 (x y : List V) (hx : x.length < LIM) (hy : y.length < LIM) : FT (env K gw) NoW 62 [.sl (x.map V.cs), .sl (y.map V.cs)] s (.int .i64 (cmpT x y)) s := by
  refine FT.pure (fn := Tryz.f62) F3_ok mixed Tryz.func62 rfl (by rfl) rfl rfl (by simp) rfl fun μ w => ?_
  repeat' (first
    | refine WP.t ?_ | refine WP.k ?_ | refine WP.e ?_ | refine Qn ?_ | refine Qr ?_ | refine Qe ?_ | refine Bn ?_ | refine Br ?_ | refine Be ?_ | refine Bx (by decide) ?_
    | (refine RS.nl ?_; refine hk _ _ ?_; clear hk k)
    | ((first | refine RS.st fun A B hA hB => ?_ | refine RQ.st fun A B hA hB => ?_); simp [F3, abuiltin, alenOk, alen, ti27, aminmax, onW_t, onW_f, onV_s]; first | ((first | refine hA _ _ _ ?_ ?_ | refine hA _ _ _ ?_ (by first | exact .inl rfl | exact .inr (by decide)) ?_); (focus (simp [F3, abuiltin, alenOk, alen, ti27, aminmax] <;> omega)); clear hA hB A B) | (refine hB ?_; clear hA hB A B) | (refine onV_if ?_ ?_; (focus (first | omega | (refine ⟨?_, ?_⟩ <;> omega))); simp only [onV_s]; (first | refine hA _ _ _ ?_ ?_ | refine hA _ _ _ ?_ (by first | exact .inl rfl | exact .inr (by decide)) ?_); (focus (simp [F3, abuiltin, alenOk, alen, ti27, aminmax] <;> omega)); clear hA hB A B))
    | (refine RQ.nl ?_; refine hk _ _ ?_; clear hk k)
    | refine WP.sr fun k hk => ?_ | refine WP.r fun k hk => ?_
    | refine WP.sd _ rfl fun k hk => ?_ | refine WP.d _ rfl fun k hk => ?_
    | (refine WP.cc fun A B hA hB => ?_; simp [F3, abuiltin, alenOk, alen, ti27, aminmax, onB_t, onB_f]; first | (refine hA ?_; clear hA hB A B) | (refine hB ?_; clear hA hB A B) | (refine onB_if (fun h => hA ?_) (fun h => hB ?_) <;> clear hA hB A B))
    | refine WP.q ?_ | refine WP.b ?_)
  refine WP_loop (fun n T s' => ∃ i : Nat, n + i = min x.length y.length ∧ s' = s ∧ T.get 0 = .sl (x.map V.cs) ∧ T.get 1 = .sl (y.map V.cs) ∧ T.get 11 = .int .i64 (min x.length y.length : Nat) ∧ T.get 12 = .int .i64 i ∧ cmpT x y = cmpT (x.drop i) (y.drop i)) (min x.length y.length) ⟨0, by simp, rfl, by simp, by simp, by simp; omega, by simp, by simp⟩ ?_
  rintro n T s' ⟨i, hn, rfl, h0, h1, h11, h12, hc⟩
  by_cases hi : i < min x.length y.length
  · have hx' : i < x.length := by omega
    have hy' : i < y.length := by omega
    have hw : IntKind.i64.wrap ((i : Int) + 1) = (i : Int) + 1 := wrap64 (by omega) (by simp only [LIM] at hx; omega)
    have ha : x[i]? = some x[i] := List.getElem?_eq_getElem hx'
    have hb : y[i]? = some y[i] := List.getElem?_eq_getElem hy'
    have hlt : ((i : Int) < ((min x.length y.length : Nat) : Int)) := by omega
    repeat' (first
      | refine WP.t ?_ | refine WP.k ?_ | refine WP.e ?_ | refine Qn ?_ | refine Qr ?_ | refine Qe ?_ | refine Bn ?_ | refine Br ?_ | refine Be ?_ | refine Bx (by decide) ?_
      | (refine RS.nl ?_; refine hk _ _ ?_; clear hk k)
      | ((first | refine RS.st fun A B hA hB => ?_ | refine RQ.st fun A B hA hB => ?_); simp [F3, pCmpV, h0, h1, h11, h12, hlt, hx', hy', ha, hb, hw, aindex, elemOfT, ti27, ti42, V.cs, onW_t, onW_f, onV_s]; first | ((first | refine hA _ _ _ ?_ ?_ | refine hA _ _ _ ?_ (by first | exact .inl rfl | exact .inr (by decide)) ?_); (focus (simp [F3, pCmpV, h0, h1, h11, h12, hlt, hx', hy', ha, hb, hw, aindex, elemOfT, ti27, ti42, V.cs] <;> omega)); clear hA hB A B) | (refine hB ?_; clear hA hB A B) | (refine onV_if ?_ ?_; (focus (first | omega | (refine ⟨?_, ?_⟩ <;> omega))); simp only [onV_s]; (first | refine hA _ _ _ ?_ ?_ | refine hA _ _ _ ?_ (by first | exact .inl rfl | exact .inr (by decide)) ?_); (focus (simp [F3, pCmpV, h0, h1, h11, h12, hlt, hx', hy', ha, hb, hw, aindex, elemOfT, ti27, ti42, V.cs] <;> omega)); clear hA hB A B))
      | (refine RQ.nl ?_; refine hk _ _ ?_; clear hk k)
      | refine WP.sr fun k hk => ?_ | refine WP.r fun k hk => ?_
      | refine WP.sd _ rfl fun k hk => ?_ | refine WP.d _ rfl fun k hk => ?_
      | (refine WP.cc fun A B hA hB => ?_; simp [F3, pCmpV, h0, h1, h11, h12, hlt, hx', hy', ha, hb, hw, aindex, elemOfT, ti27, ti42, V.cs, onB_t, onB_f]; first | (refine hA ?_; clear hA hB A B) | (refine hB ?_; clear hA hB A B) | (refine onB_if (fun h => hA ?_) (fun h => hB ?_) <;> clear hA hB A B))
      | refine WP.q ?_ | refine WP.b ?_)
    · simp at h
      simp
      rw [hc, cmpT_drop hx' hy', if_neg h]
    · simp at h
      refine ⟨n - 1, by omega, i + 1, by omega, rfl, by simp [h0], by simp [h1], by simp [h11], by simp, ?_⟩
      rw [hc, cmpT_drop hx' hy', if_pos h]
  · have hlt : ¬ ((i : Int) < ((min x.length y.length : Nat) : Int)) := by omega
    have he : i = min x.length y.length := by omega
    repeat' (first
      | refine WP.t ?_ | refine WP.k ?_ | refine WP.e ?_ | refine Qn ?_ | refine Qr ?_ | refine Qe ?_ | refine Bn ?_ | refine Br ?_ | refine Be ?_ | refine Bx (by decide) ?_
      | (refine RS.nl ?_; refine hk _ _ ?_; clear hk k)
      | ((first | refine RS.st fun A B hA hB => ?_ | refine RQ.st fun A B hA hB => ?_); simp [F3, F2, pCmpI, h0, h1, h11, h12, hlt, abuiltin, alenOk, alen, ti27, onW_t, onW_f, onV_s]; first | ((first | refine hA _ _ _ ?_ ?_ | refine hA _ _ _ ?_ (by first | exact .inl rfl | exact .inr (by decide)) ?_); (focus (simp [F3, F2, pCmpI, h0, h1, h11, h12, hlt, abuiltin, alenOk, alen, ti27] <;> omega)); clear hA hB A B) | (refine hB ?_; clear hA hB A B) | (refine onV_if ?_ ?_; (focus (first | omega | (refine ⟨?_, ?_⟩ <;> omega))); simp only [onV_s]; (first | refine hA _ _ _ ?_ ?_ | refine hA _ _ _ ?_ (by first | exact .inl rfl | exact .inr (by decide)) ?_); (focus (simp [F3, F2, pCmpI, h0, h1, h11, h12, hlt, abuiltin, alenOk, alen, ti27] <;> omega)); clear hA hB A B))
      | (refine RQ.nl ?_; refine hk _ _ ?_; clear hk k)
      | refine WP.sr fun k hk => ?_ | refine WP.r fun k hk => ?_
      | refine WP.sd _ rfl fun k hk => ?_ | refine WP.d _ rfl fun k hk => ?_
      | (refine WP.cc fun A B hA hB => ?_; simp [F3, F2, pCmpI, h0, h1, h11, h12, hlt, abuiltin, alenOk, alen, ti27, onB_t, onB_f]; first | (refine hA ?_; clear hA hB A B) | (refine hB ?_; clear hA hB A B) | (refine onB_if (fun h => hA ?_) (fun h => hB ?_) <;> clear hA hB A B))
      | refine WP.q ?_ | refine WP.b ?_)
    rw [cmpT_end he] at hc
    simp [hc]
def F4 : Fns := F3.addP 62 pCmpT
theorem F4_ok : FOk (env K gw) F4 := by
  refine F3_ok.addP ?_
  intro xs s r h
  unfold pCmpT at h
  split at h
  · split at h
    · rename_i hx hy
      split at h
      · rename_i hl
        cases h
        rw [decL_eq hx, decL_eq hy]
        exact ft11 _ _ hl.1 hl.2
      · cases h
    · cases h
  · cases h
end
end Go.Am
namespace Go.Am
open Go.Proofs
def bareV (v : V) : V := if v.b then ⟨true, v.s, 0⟩ else ⟨false, [], v.n⟩
/-- What an operator says of an order. -/
def opH (op : Str) (c : Int) : Bool × Bool :=
  if op = [61] then (c == 0, true) else if op = [33, 61] then (c != 0, true) else if op = [60] then (decide (c < 0), true) else if op = [60, 61] then (decide (c ≤ 0), true) else
  if op = [62] then (decide (0 < c), true) else if op = [62, 61] then (decide (0 ≤ c), true) else (false, false)
def cV : Cel V where
  cs := V.cs
  un := decV
  sz := 3
  un_cs := decV_cs
  cs_un _ _ h := decV_eq h
  len _ := rfl
  bl v n x hx := by
    simp [V.cs] at hx
    rcases hx with rfl | rfl | rfl <;> simp
theorem unL_V (l : List V) : unL cV (l.map V.cs) = some l := unL_map cV l
section
variable {K : Nat} {gw : World} {s : St}
attribute [local simp] awanted xop zOf cz zrow aop ev T0 Slots.put Slots.set Slots.get awr WOk AV.may ofConst abinop aint isConst St.get_push St.get_put St.live AV.fit AV.cells AV.one fieldOf afieldAddr aload ofCells astore splice May eqres env_ti FinP FinZ FinW ares aresL ares1 Fns.addP Fns.add Fns.a0 Fns.a1 Fns.a2 Fns.a3 Fns.a4 abuiltin alenOk alen aindex elemOfT elemId abuildSlice afill chunks ard aappend isSS AV.isStr aminmax placesOf abuild afield aidx isStrD isStrDesc astrop aslice asliceOk abound arange anext aextract aunop aeq AV.ck avseq aveq aconv aconvert onB_t onB_f List.range_succ
theorem ft_Sym (x : Str) : FT (env K gw) NoW 118 [.str x] s (.agg (V.mk true x 0).cs) s := by
  refine FT.pure (fn := Tryz.f118) F0_ok mixed Tryz.func118 (by kernel_rfl) (by rfl) rfl rfl (by simp) rfl fun μ w => ?_
  repeat' (first
    | refine WP.t ?_ | refine WP.k ?_ | refine WP.e ?_ | refine Qn ?_ | refine Qr ?_ | refine Qe ?_ | refine Bn ?_ | refine Br ?_ | refine Be ?_ | refine Bx (by decide) ?_
    | (refine RS.nl ?_; refine hk _ _ ?_; clear hk k)
    | ((first | refine RS.st fun A B hA hB => ?_ | refine RQ.st fun A B hA hB => ?_); simp [onW_t, onW_t, onW_f, onV_s]; first | ((first | refine hA _ _ _ ?_ ?_ | refine hA _ _ _ ?_ (by first | exact .inl rfl | exact .inr (by decide)) ?_); (focus (simp [onW_t] <;> omega)); clear hA hB A B) | (refine hB ?_; clear hA hB A B) | (refine onV_if ?_ ?_; (focus (first | omega | (refine ⟨?_, ?_⟩ <;> omega))); simp only [onV_s]; (first | refine hA _ _ _ ?_ ?_ | refine hA _ _ _ ?_ (by first | exact .inl rfl | exact .inr (by decide)) ?_); (focus (simp [onW_t] <;> omega)); clear hA hB A B))
    | (refine RQ.nl ?_; refine hk _ _ ?_; clear hk k)
    | refine WP.sr fun k hk => ?_ | refine WP.r fun k hk => ?_
    | refine WP.sd _ rfl fun k hk => ?_ | refine WP.d _ rfl fun k hk => ?_
    | (refine WP.cc fun A B hA hB => ?_; simp [onW_t, onB_t, onB_f]; first | (refine hA ?_; clear hA hB A B) | (refine hB ?_; clear hA hB A B) | (refine onB_if (fun h => hA ?_) (fun h => hB ?_) <;> clear hA hB A B))
    | refine WP.q ?_ | refine WP.b ?_)
  simp [V.cs]
theorem ft_Int (n : Int) : FT (env K gw) NoW 119 [.int .i64 n] s (.agg (V.mk false [] n).cs) s := by
  refine FT.pure (fn := Tryz.f119) F0_ok mixed Tryz.func119 (by kernel_rfl) (by rfl) rfl rfl (by simp) rfl fun μ w => ?_
  repeat' (first
    | refine WP.t ?_ | refine WP.k ?_ | refine WP.e ?_ | refine Qn ?_ | refine Qr ?_ | refine Qe ?_ | refine Bn ?_ | refine Br ?_ | refine Be ?_ | refine Bx (by decide) ?_
    | (refine RS.nl ?_; refine hk _ _ ?_; clear hk k)
    | ((first | refine RS.st fun A B hA hB => ?_ | refine RQ.st fun A B hA hB => ?_); simp [onW_t, onW_t, onW_f, onV_s]; first | ((first | refine hA _ _ _ ?_ ?_ | refine hA _ _ _ ?_ (by first | exact .inl rfl | exact .inr (by decide)) ?_); (focus (simp [onW_t] <;> omega)); clear hA hB A B) | (refine hB ?_; clear hA hB A B) | (refine onV_if ?_ ?_; (focus (first | omega | (refine ⟨?_, ?_⟩ <;> omega))); simp only [onV_s]; (first | refine hA _ _ _ ?_ ?_ | refine hA _ _ _ ?_ (by first | exact .inl rfl | exact .inr (by decide)) ?_); (focus (simp [onW_t] <;> omega)); clear hA hB A B))
    | (refine RQ.nl ?_; refine hk _ _ ?_; clear hk k)
    | refine WP.sr fun k hk => ?_ | refine WP.r fun k hk => ?_
    | refine WP.sd _ rfl fun k hk => ?_ | refine WP.d _ rfl fun k hk => ?_
    | (refine WP.cc fun A B hA hB => ?_; simp [onW_t, onB_t, onB_f]; first | (refine hA ?_; clear hA hB A B) | (refine hB ?_; clear hA hB A B) | (refine onB_if (fun h => hA ?_) (fun h => hB ?_) <;> clear hA hB A B))
    | refine WP.q ?_ | refine WP.b ?_)
  simp [V.cs]
def F4a : Fns := (F4.a1 118 vStr fun x => some (.agg (V.mk true x 0).cs)).a1 119 (vInt .i64) fun n => some (.agg (V.mk false [] n).cs)
theorem F4a_ok : FOk (env K gw) F4a := by
  refine (F4_ok.a1 fun x s r h => ?_).a1 fun x s r h => ?_
  · cases h; exact ft_Sym x
  · cases h; exact ft_Int x
theorem ft_bare (v : V) : FT (env K gw) NoW 104 [.agg v.cs] s (.agg (bareV v).cs) s := by
  obtain ⟨b, x, n⟩ := v
  refine FT.pure (fn := Tryz.f104) F4a_ok mixed Tryz.func104 (by kernel_rfl) (by rfl) rfl rfl (by simp) rfl fun μ w => ?_
  cases b
  all_goals
    repeat' (first
      | refine WP.t ?_ | refine WP.k ?_ | refine WP.e ?_ | refine Qn ?_ | refine Qr ?_ | refine Qe ?_ | refine Bn ?_ | refine Br ?_ | refine Be ?_ | refine Bx (by decide) ?_
      | (refine RS.nl ?_; refine hk _ _ ?_; clear hk k)
      | ((first | refine RS.st fun A B hA hB => ?_ | refine RQ.st fun A B hA hB => ?_); simp [F4a, V.cs, onW_t, onW_f, onV_s]; first | ((first | refine hA _ _ _ ?_ ?_ | refine hA _ _ _ ?_ (by first | exact .inl rfl | exact .inr (by decide)) ?_); (focus (simp [F4a, V.cs] <;> omega)); clear hA hB A B) | (refine hB ?_; clear hA hB A B) | (refine onV_if ?_ ?_; (focus (first | omega | (refine ⟨?_, ?_⟩ <;> omega))); simp only [onV_s]; (first | refine hA _ _ _ ?_ ?_ | refine hA _ _ _ ?_ (by first | exact .inl rfl | exact .inr (by decide)) ?_); (focus (simp [F4a, V.cs] <;> omega)); clear hA hB A B))
      | (refine RQ.nl ?_; refine hk _ _ ?_; clear hk k)
      | refine WP.sr fun k hk => ?_ | refine WP.r fun k hk => ?_
      | refine WP.sd _ rfl fun k hk => ?_ | refine WP.d _ rfl fun k hk => ?_
      | (refine WP.cc fun A B hA hB => ?_; simp [F4a, V.cs, onB_t, onB_f]; first | (refine hA ?_; clear hA hB A B) | (refine hB ?_; clear hA hB A B) | (refine onB_if (fun h => hA ?_) (fun h => hB ?_) <;> clear hA hB A B))
      | refine WP.q ?_ | refine WP.b ?_)
    simp [bareV, V.cs]
theorem ft_Same (v w : V) : FT (env K gw) NoW 100 [.agg v.cs, .agg w.cs] s (.bool (cmpV v w == 0)) s := by
  obtain ⟨b, x, n⟩ := v
  obtain ⟨b', x', n'⟩ := w
  refine FT.pure (fn := Tryz.f100) F4a_ok mixed Tryz.func100 (by kernel_rfl) (by rfl) rfl rfl (by simp) rfl fun μ w => ?_
  repeat' (first
    | refine WP.t ?_ | refine WP.k ?_ | refine WP.e ?_ | refine Qn ?_ | refine Qr ?_ | refine Qe ?_ | refine Bn ?_ | refine Br ?_ | refine Be ?_ | refine Bx (by decide) ?_
    | (refine RS.nl ?_; refine hk _ _ ?_; clear hk k)
    | ((first | refine RS.st fun A B hA hB => ?_ | refine RQ.st fun A B hA hB => ?_); simp [F4a, F4, F3, pCmpV, V.cs, onW_t, onW_f, onV_s]; first | ((first | refine hA _ _ _ ?_ ?_ | refine hA _ _ _ ?_ (by first | exact .inl rfl | exact .inr (by decide)) ?_); (focus (simp [F4a, F4, F3, pCmpV, V.cs] <;> omega)); clear hA hB A B) | (refine hB ?_; clear hA hB A B) | (refine onV_if ?_ ?_; (focus (first | omega | (refine ⟨?_, ?_⟩ <;> omega))); simp only [onV_s]; (first | refine hA _ _ _ ?_ ?_ | refine hA _ _ _ ?_ (by first | exact .inl rfl | exact .inr (by decide)) ?_); (focus (simp [F4a, F4, F3, pCmpV, V.cs] <;> omega)); clear hA hB A B))
    | (refine RQ.nl ?_; refine hk _ _ ?_; clear hk k)
    | refine WP.sr fun k hk => ?_ | refine WP.r fun k hk => ?_
    | refine WP.sd _ rfl fun k hk => ?_ | refine WP.d _ rfl fun k hk => ?_
    | (refine WP.cc fun A B hA hB => ?_; simp [F4a, F4, F3, pCmpV, V.cs, onB_t, onB_f]; first | (refine hA ?_; clear hA hB A B) | (refine hB ?_; clear hA hB A B) | (refine onB_if (fun h => hA ?_) (fun h => hB ?_) <;> clear hA hB A B))
    | refine WP.q ?_ | refine WP.b ?_)
  simp
theorem ft_H1 (c : Int) : FT (env K gw) NoW 111 [.int .i64 c] s (.bool (c == 0)) s := by
  refine FT.pure (fn := Tryz.f111) F0_ok mixed Tryz.func111 (by kernel_rfl) (by rfl) rfl rfl (by simp) rfl fun μ w => ?_
  repeat' (first
    | refine WP.t ?_ | refine WP.k ?_ | refine WP.e ?_ | refine Qn ?_ | refine Qr ?_ | refine Qe ?_ | refine Bn ?_ | refine Br ?_ | refine Be ?_ | refine Bx (by decide) ?_
    | (refine RS.nl ?_; refine hk _ _ ?_; clear hk k)
    | ((first | refine RS.st fun A B hA hB => ?_ | refine RQ.st fun A B hA hB => ?_); simp [onW_t, onW_t, onW_f, onV_s]; first | ((first | refine hA _ _ _ ?_ ?_ | refine hA _ _ _ ?_ (by first | exact .inl rfl | exact .inr (by decide)) ?_); (focus (simp [onW_t] <;> omega)); clear hA hB A B) | (refine hB ?_; clear hA hB A B) | (refine onV_if ?_ ?_; (focus (first | omega | (refine ⟨?_, ?_⟩ <;> omega))); simp only [onV_s]; (first | refine hA _ _ _ ?_ ?_ | refine hA _ _ _ ?_ (by first | exact .inl rfl | exact .inr (by decide)) ?_); (focus (simp [onW_t] <;> omega)); clear hA hB A B))
    | (refine RQ.nl ?_; refine hk _ _ ?_; clear hk k)
    | refine WP.sr fun k hk => ?_ | refine WP.r fun k hk => ?_
    | refine WP.sd _ rfl fun k hk => ?_ | refine WP.d _ rfl fun k hk => ?_
    | (refine WP.cc fun A B hA hB => ?_; simp [onW_t, onB_t, onB_f]; first | (refine hA ?_; clear hA hB A B) | (refine hB ?_; clear hA hB A B) | (refine onB_if (fun h => hA ?_) (fun h => hB ?_) <;> clear hA hB A B))
    | refine WP.q ?_ | refine WP.b ?_)
  simp
theorem ft_H2 (c : Int) : FT (env K gw) NoW 112 [.int .i64 c] s (.bool (c != 0)) s := by
  refine FT.pure (fn := Tryz.f112) F0_ok mixed Tryz.func112 (by kernel_rfl) (by rfl) rfl rfl (by simp) rfl fun μ w => ?_
  repeat' (first
    | refine WP.t ?_ | refine WP.k ?_ | refine WP.e ?_ | refine Qn ?_ | refine Qr ?_ | refine Qe ?_ | refine Bn ?_ | refine Br ?_ | refine Be ?_ | refine Bx (by decide) ?_
    | (refine RS.nl ?_; refine hk _ _ ?_; clear hk k)
    | ((first | refine RS.st fun A B hA hB => ?_ | refine RQ.st fun A B hA hB => ?_); simp [onW_t, onW_t, onW_f, onV_s]; first | ((first | refine hA _ _ _ ?_ ?_ | refine hA _ _ _ ?_ (by first | exact .inl rfl | exact .inr (by decide)) ?_); (focus (simp [onW_t] <;> omega)); clear hA hB A B) | (refine hB ?_; clear hA hB A B) | (refine onV_if ?_ ?_; (focus (first | omega | (refine ⟨?_, ?_⟩ <;> omega))); simp only [onV_s]; (first | refine hA _ _ _ ?_ ?_ | refine hA _ _ _ ?_ (by first | exact .inl rfl | exact .inr (by decide)) ?_); (focus (simp [onW_t] <;> omega)); clear hA hB A B))
    | (refine RQ.nl ?_; refine hk _ _ ?_; clear hk k)
    | refine WP.sr fun k hk => ?_ | refine WP.r fun k hk => ?_
    | refine WP.sd _ rfl fun k hk => ?_ | refine WP.d _ rfl fun k hk => ?_
    | (refine WP.cc fun A B hA hB => ?_; simp [onW_t, onB_t, onB_f]; first | (refine hA ?_; clear hA hB A B) | (refine hB ?_; clear hA hB A B) | (refine onB_if (fun h => hA ?_) (fun h => hB ?_) <;> clear hA hB A B))
    | refine WP.q ?_ | refine WP.b ?_)
  simp
theorem ft_H3 (c : Int) : FT (env K gw) NoW 113 [.int .i64 c] s (.bool (decide (c < 0))) s := by
  refine FT.pure (fn := Tryz.f113) F0_ok mixed Tryz.func113 (by kernel_rfl) (by rfl) rfl rfl (by simp) rfl fun μ w => ?_
  repeat' (first
    | refine WP.t ?_ | refine WP.k ?_ | refine WP.e ?_ | refine Qn ?_ | refine Qr ?_ | refine Qe ?_ | refine Bn ?_ | refine Br ?_ | refine Be ?_ | refine Bx (by decide) ?_
    | (refine RS.nl ?_; refine hk _ _ ?_; clear hk k)
    | ((first | refine RS.st fun A B hA hB => ?_ | refine RQ.st fun A B hA hB => ?_); simp [onW_t, onW_t, onW_f, onV_s]; first | ((first | refine hA _ _ _ ?_ ?_ | refine hA _ _ _ ?_ (by first | exact .inl rfl | exact .inr (by decide)) ?_); (focus (simp [onW_t] <;> omega)); clear hA hB A B) | (refine hB ?_; clear hA hB A B) | (refine onV_if ?_ ?_; (focus (first | omega | (refine ⟨?_, ?_⟩ <;> omega))); simp only [onV_s]; (first | refine hA _ _ _ ?_ ?_ | refine hA _ _ _ ?_ (by first | exact .inl rfl | exact .inr (by decide)) ?_); (focus (simp [onW_t] <;> omega)); clear hA hB A B))
    | (refine RQ.nl ?_; refine hk _ _ ?_; clear hk k)
    | refine WP.sr fun k hk => ?_ | refine WP.r fun k hk => ?_
    | refine WP.sd _ rfl fun k hk => ?_ | refine WP.d _ rfl fun k hk => ?_
    | (refine WP.cc fun A B hA hB => ?_; simp [onW_t, onB_t, onB_f]; first | (refine hA ?_; clear hA hB A B) | (refine hB ?_; clear hA hB A B) | (refine onB_if (fun h => hA ?_) (fun h => hB ?_) <;> clear hA hB A B))
    | refine WP.q ?_ | refine WP.b ?_)
  simp
theorem ft_H4 (c : Int) : FT (env K gw) NoW 114 [.int .i64 c] s (.bool (decide (c ≤ 0))) s := by
  refine FT.pure (fn := Tryz.f114) F0_ok mixed Tryz.func114 (by kernel_rfl) (by rfl) rfl rfl (by simp) rfl fun μ w => ?_
  repeat' (first
    | refine WP.t ?_ | refine WP.k ?_ | refine WP.e ?_ | refine Qn ?_ | refine Qr ?_ | refine Qe ?_ | refine Bn ?_ | refine Br ?_ | refine Be ?_ | refine Bx (by decide) ?_
    | (refine RS.nl ?_; refine hk _ _ ?_; clear hk k)
    | ((first | refine RS.st fun A B hA hB => ?_ | refine RQ.st fun A B hA hB => ?_); simp [onW_t, onW_t, onW_f, onV_s]; first | ((first | refine hA _ _ _ ?_ ?_ | refine hA _ _ _ ?_ (by first | exact .inl rfl | exact .inr (by decide)) ?_); (focus (simp [onW_t] <;> omega)); clear hA hB A B) | (refine hB ?_; clear hA hB A B) | (refine onV_if ?_ ?_; (focus (first | omega | (refine ⟨?_, ?_⟩ <;> omega))); simp only [onV_s]; (first | refine hA _ _ _ ?_ ?_ | refine hA _ _ _ ?_ (by first | exact .inl rfl | exact .inr (by decide)) ?_); (focus (simp [onW_t] <;> omega)); clear hA hB A B))
    | (refine RQ.nl ?_; refine hk _ _ ?_; clear hk k)
    | refine WP.sr fun k hk => ?_ | refine WP.r fun k hk => ?_
    | refine WP.sd _ rfl fun k hk => ?_ | refine WP.d _ rfl fun k hk => ?_
    | (refine WP.cc fun A B hA hB => ?_; simp [onW_t, onB_t, onB_f]; first | (refine hA ?_; clear hA hB A B) | (refine hB ?_; clear hA hB A B) | (refine onB_if (fun h => hA ?_) (fun h => hB ?_) <;> clear hA hB A B))
    | refine WP.q ?_ | refine WP.b ?_)
  simp
theorem ft_H5 (c : Int) : FT (env K gw) NoW 115 [.int .i64 c] s (.bool (decide (0 < c))) s := by
  refine FT.pure (fn := Tryz.f115) F0_ok mixed Tryz.func115 (by kernel_rfl) (by rfl) rfl rfl (by simp) rfl fun μ w => ?_
  repeat' (first
    | refine WP.t ?_ | refine WP.k ?_ | refine WP.e ?_ | refine Qn ?_ | refine Qr ?_ | refine Qe ?_ | refine Bn ?_ | refine Br ?_ | refine Be ?_ | refine Bx (by decide) ?_
    | (refine RS.nl ?_; refine hk _ _ ?_; clear hk k)
    | ((first | refine RS.st fun A B hA hB => ?_ | refine RQ.st fun A B hA hB => ?_); simp [onW_t, onW_t, onW_f, onV_s]; first | ((first | refine hA _ _ _ ?_ ?_ | refine hA _ _ _ ?_ (by first | exact .inl rfl | exact .inr (by decide)) ?_); (focus (simp [onW_t] <;> omega)); clear hA hB A B) | (refine hB ?_; clear hA hB A B) | (refine onV_if ?_ ?_; (focus (first | omega | (refine ⟨?_, ?_⟩ <;> omega))); simp only [onV_s]; (first | refine hA _ _ _ ?_ ?_ | refine hA _ _ _ ?_ (by first | exact .inl rfl | exact .inr (by decide)) ?_); (focus (simp [onW_t] <;> omega)); clear hA hB A B))
    | (refine RQ.nl ?_; refine hk _ _ ?_; clear hk k)
    | refine WP.sr fun k hk => ?_ | refine WP.r fun k hk => ?_
    | refine WP.sd _ rfl fun k hk => ?_ | refine WP.d _ rfl fun k hk => ?_
    | (refine WP.cc fun A B hA hB => ?_; simp [onW_t, onB_t, onB_f]; first | (refine hA ?_; clear hA hB A B) | (refine hB ?_; clear hA hB A B) | (refine onB_if (fun h => hA ?_) (fun h => hB ?_) <;> clear hA hB A B))
    | refine WP.q ?_ | refine WP.b ?_)
  simp
theorem ft_H6 (c : Int) : FT (env K gw) NoW 116 [.int .i64 c] s (.bool (decide (0 ≤ c))) s := by
  refine FT.pure (fn := Tryz.f116) F0_ok mixed Tryz.func116 (by kernel_rfl) (by rfl) rfl rfl (by simp) rfl fun μ w => ?_
  repeat' (first
    | refine WP.t ?_ | refine WP.k ?_ | refine WP.e ?_ | refine Qn ?_ | refine Qr ?_ | refine Qe ?_ | refine Bn ?_ | refine Br ?_ | refine Be ?_ | refine Bx (by decide) ?_
    | (refine RS.nl ?_; refine hk _ _ ?_; clear hk k)
    | ((first | refine RS.st fun A B hA hB => ?_ | refine RQ.st fun A B hA hB => ?_); simp [onW_t, onW_t, onW_f, onV_s]; first | ((first | refine hA _ _ _ ?_ ?_ | refine hA _ _ _ ?_ (by first | exact .inl rfl | exact .inr (by decide)) ?_); (focus (simp [onW_t] <;> omega)); clear hA hB A B) | (refine hB ?_; clear hA hB A B) | (refine onV_if ?_ ?_; (focus (first | omega | (refine ⟨?_, ?_⟩ <;> omega))); simp only [onV_s]; (first | refine hA _ _ _ ?_ ?_ | refine hA _ _ _ ?_ (by first | exact .inl rfl | exact .inr (by decide)) ?_); (focus (simp [onW_t] <;> omega)); clear hA hB A B))
    | (refine RQ.nl ?_; refine hk _ _ ?_; clear hk k)
    | refine WP.sr fun k hk => ?_ | refine WP.r fun k hk => ?_
    | refine WP.sd _ rfl fun k hk => ?_ | refine WP.d _ rfl fun k hk => ?_
    | (refine WP.cc fun A B hA hB => ?_; simp [onW_t, onB_t, onB_f]; first | (refine hA ?_; clear hA hB A B) | (refine hB ?_; clear hA hB A B) | (refine onB_if (fun h => hA ?_) (fun h => hB ?_) <;> clear hA hB A B))
    | refine WP.q ?_ | refine WP.b ?_)
  simp
def F4b : Fns := (((((((F4a.a1 104 (vAgg cV) fun v => some (.agg (bareV v).cs)).a2 100 (vAgg cV) (vAgg cV) fun v w => some (.bool (cmpV v w == 0))).a1 111 (vInt .i64) fun c => some (.bool (c == 0))).a1 112 (vInt .i64) fun c => some (.bool (c != 0))).a1 113 (vInt .i64) fun c => some (.bool (decide (c < 0)))).a1 114 (vInt .i64) fun c => some (.bool (decide (c ≤ 0)))).a1 115 (vInt .i64) fun c => some (.bool (decide (0 < c)))).a1 116 (vInt .i64) fun c => some (.bool (decide (0 ≤ c)))
theorem F4b_ok : FOk (env K gw) F4b := by
  refine (((((((F4a_ok.a1 fun x s r h => ?_).a2 fun x y s r h => ?_).a1 fun x s r h => ?_).a1 fun x s r h => ?_).a1 fun x s r h => ?_).a1 fun x s r h => ?_).a1 fun x s r h => ?_).a1 fun x s r h => ?_
  · cases h; exact ft_bare x
  · cases h; exact ft_Same x y
  · cases h; exact ft_H1 x
  · cases h; exact ft_H2 x
  · cases h; exact ft_H3 x
  · cases h; exact ft_H4 x
  · cases h; exact ft_H5 x
  · cases h; exact ft_H6 x
end
end Go.Am
namespace Go.Am
open Go.Proofs
section
variable {K : Nat} {gw : World} {s : St}
attribute [local simp] awanted xop zOf cz zrow aop ev T0 Slots.put Slots.set Slots.get awr WOk AV.may ofConst abinop aint isConst St.get_push St.get_put St.live AV.fit AV.cells AV.one fieldOf afieldAddr aload ofCells astore splice May eqres env_ti FinP FinZ FinW ares aresL ares1 Fns.addP Fns.add Fns.a0 Fns.a1 Fns.a2 Fns.a3 Fns.a4 abuiltin alenOk alen aindex elemOfT elemId abuildSlice afill chunks ard aappend isSS AV.isStr aminmax placesOf abuild afield aidx isStrD isStrDesc astrop aslice asliceOk abound arange anext aextract aunop aeq AV.ck avseq aveq aconv aconvert onB_t onB_f List.range_succ
set_option maxHeartbeats 4000000 in
theorem ft_Holds (op : Str) (v w : V) : FT (env K gw) NoW 101 [.str op, .agg v.cs, .agg w.cs] s (.tup [.bool (opH op (cmpV v w)).1, .bool (opH op (cmpV v w)).2]) s := by
  obtain ⟨b, x, n⟩ := v
  obtain ⟨b', x', n'⟩ := w
  refine FT.pure (fn := Tryz.f101) F4b_ok mixed Tryz.func101 (by kernel_rfl) (by rfl) rfl rfl (by simp) rfl fun μ w => ?_
  generalize hc : cmpV ⟨b, x, n⟩ ⟨b', x', n'⟩ = c
  by_cases h1 : op = [61]
  · subst h1
    repeat' (first
      | refine WP_unroll ?_
      | refine WP.t ?_ | refine WP.k ?_ | refine WP.e ?_ | refine Qn ?_ | refine Qr ?_ | refine Qe ?_ | refine Bn ?_ | refine Br ?_ | refine Be ?_ | refine Bx (by decide) ?_
      | (refine RS.nl ?_; refine hk _ _ ?_; clear hk k)
      | ((first | refine RS.st fun A B hA hB => ?_ | refine RQ.st fun A B hA hB => ?_); simp [F4b, F4a, F4, F3, pCmpV, V.cs, hc, onW_t, onW_f, onV_s]; first | ((first | refine hA _ _ _ ?_ ?_ | refine hA _ _ _ ?_ (by first | exact .inl rfl | exact .inr (by decide)) ?_); (focus (simp [F4b, F4a, F4, F3, pCmpV, V.cs, hc] <;> omega)); clear hA hB A B) | (refine hB ?_; clear hA hB A B) | (refine onV_if ?_ ?_; (focus (first | omega | (refine ⟨?_, ?_⟩ <;> omega))); simp only [onV_s]; (first | refine hA _ _ _ ?_ ?_ | refine hA _ _ _ ?_ (by first | exact .inl rfl | exact .inr (by decide)) ?_); (focus (simp [F4b, F4a, F4, F3, pCmpV, V.cs, hc] <;> omega)); clear hA hB A B))
      | (refine RQ.nl ?_; refine hk _ _ ?_; clear hk k)
      | refine WP.sr fun k hk => ?_ | refine WP.r fun k hk => ?_
      | refine WP.sd _ rfl fun k hk => ?_ | refine WP.d _ rfl fun k hk => ?_
      | (refine WP.cc fun A B hA hB => ?_; simp [F4b, F4a, F4, F3, pCmpV, V.cs, hc, onB_t, onB_f]; first | (refine hA ?_; clear hA hB A B) | (refine hB ?_; clear hA hB A B) | (refine onB_if (fun h => hA ?_) (fun h => hB ?_) <;> clear hA hB A B))
      | refine WP.q ?_ | refine WP.b ?_)
    simp [opH]
  by_cases h2 : op = [33, 61]
  · subst h2
    repeat' (first
      | refine WP_unroll ?_
      | refine WP.t ?_ | refine WP.k ?_ | refine WP.e ?_ | refine Qn ?_ | refine Qr ?_ | refine Qe ?_ | refine Bn ?_ | refine Br ?_ | refine Be ?_ | refine Bx (by decide) ?_
      | (refine RS.nl ?_; refine hk _ _ ?_; clear hk k)
      | ((first | refine RS.st fun A B hA hB => ?_ | refine RQ.st fun A B hA hB => ?_); simp [F4b, F4a, F4, F3, pCmpV, V.cs, hc, onW_t, onW_f, onV_s]; first | ((first | refine hA _ _ _ ?_ ?_ | refine hA _ _ _ ?_ (by first | exact .inl rfl | exact .inr (by decide)) ?_); (focus (simp [F4b, F4a, F4, F3, pCmpV, V.cs, hc] <;> omega)); clear hA hB A B) | (refine hB ?_; clear hA hB A B) | (refine onV_if ?_ ?_; (focus (first | omega | (refine ⟨?_, ?_⟩ <;> omega))); simp only [onV_s]; (first | refine hA _ _ _ ?_ ?_ | refine hA _ _ _ ?_ (by first | exact .inl rfl | exact .inr (by decide)) ?_); (focus (simp [F4b, F4a, F4, F3, pCmpV, V.cs, hc] <;> omega)); clear hA hB A B))
      | (refine RQ.nl ?_; refine hk _ _ ?_; clear hk k)
      | refine WP.sr fun k hk => ?_ | refine WP.r fun k hk => ?_
      | refine WP.sd _ rfl fun k hk => ?_ | refine WP.d _ rfl fun k hk => ?_
      | (refine WP.cc fun A B hA hB => ?_; simp [F4b, F4a, F4, F3, pCmpV, V.cs, hc, onB_t, onB_f]; first | (refine hA ?_; clear hA hB A B) | (refine hB ?_; clear hA hB A B) | (refine onB_if (fun h => hA ?_) (fun h => hB ?_) <;> clear hA hB A B))
      | refine WP.q ?_ | refine WP.b ?_)
    simp [opH]
  by_cases h3 : op = [60]
  · subst h3
    repeat' (first
      | refine WP_unroll ?_
      | refine WP.t ?_ | refine WP.k ?_ | refine WP.e ?_ | refine Qn ?_ | refine Qr ?_ | refine Qe ?_ | refine Bn ?_ | refine Br ?_ | refine Be ?_ | refine Bx (by decide) ?_
      | (refine RS.nl ?_; refine hk _ _ ?_; clear hk k)
      | ((first | refine RS.st fun A B hA hB => ?_ | refine RQ.st fun A B hA hB => ?_); simp [F4b, F4a, F4, F3, pCmpV, V.cs, hc, onW_t, onW_f, onV_s]; first | ((first | refine hA _ _ _ ?_ ?_ | refine hA _ _ _ ?_ (by first | exact .inl rfl | exact .inr (by decide)) ?_); (focus (simp [F4b, F4a, F4, F3, pCmpV, V.cs, hc] <;> omega)); clear hA hB A B) | (refine hB ?_; clear hA hB A B) | (refine onV_if ?_ ?_; (focus (first | omega | (refine ⟨?_, ?_⟩ <;> omega))); simp only [onV_s]; (first | refine hA _ _ _ ?_ ?_ | refine hA _ _ _ ?_ (by first | exact .inl rfl | exact .inr (by decide)) ?_); (focus (simp [F4b, F4a, F4, F3, pCmpV, V.cs, hc] <;> omega)); clear hA hB A B))
      | (refine RQ.nl ?_; refine hk _ _ ?_; clear hk k)
      | refine WP.sr fun k hk => ?_ | refine WP.r fun k hk => ?_
      | refine WP.sd _ rfl fun k hk => ?_ | refine WP.d _ rfl fun k hk => ?_
      | (refine WP.cc fun A B hA hB => ?_; simp [F4b, F4a, F4, F3, pCmpV, V.cs, hc, onB_t, onB_f]; first | (refine hA ?_; clear hA hB A B) | (refine hB ?_; clear hA hB A B) | (refine onB_if (fun h => hA ?_) (fun h => hB ?_) <;> clear hA hB A B))
      | refine WP.q ?_ | refine WP.b ?_)
    simp [opH]
  by_cases h4 : op = [60, 61]
  · subst h4
    repeat' (first
      | refine WP_unroll ?_
      | refine WP.t ?_ | refine WP.k ?_ | refine WP.e ?_ | refine Qn ?_ | refine Qr ?_ | refine Qe ?_ | refine Bn ?_ | refine Br ?_ | refine Be ?_ | refine Bx (by decide) ?_
      | (refine RS.nl ?_; refine hk _ _ ?_; clear hk k)
      | ((first | refine RS.st fun A B hA hB => ?_ | refine RQ.st fun A B hA hB => ?_); simp [F4b, F4a, F4, F3, pCmpV, V.cs, hc, onW_t, onW_f, onV_s]; first | ((first | refine hA _ _ _ ?_ ?_ | refine hA _ _ _ ?_ (by first | exact .inl rfl | exact .inr (by decide)) ?_); (focus (simp [F4b, F4a, F4, F3, pCmpV, V.cs, hc] <;> omega)); clear hA hB A B) | (refine hB ?_; clear hA hB A B) | (refine onV_if ?_ ?_; (focus (first | omega | (refine ⟨?_, ?_⟩ <;> omega))); simp only [onV_s]; (first | refine hA _ _ _ ?_ ?_ | refine hA _ _ _ ?_ (by first | exact .inl rfl | exact .inr (by decide)) ?_); (focus (simp [F4b, F4a, F4, F3, pCmpV, V.cs, hc] <;> omega)); clear hA hB A B))
      | (refine RQ.nl ?_; refine hk _ _ ?_; clear hk k)
      | refine WP.sr fun k hk => ?_ | refine WP.r fun k hk => ?_
      | refine WP.sd _ rfl fun k hk => ?_ | refine WP.d _ rfl fun k hk => ?_
      | (refine WP.cc fun A B hA hB => ?_; simp [F4b, F4a, F4, F3, pCmpV, V.cs, hc, onB_t, onB_f]; first | (refine hA ?_; clear hA hB A B) | (refine hB ?_; clear hA hB A B) | (refine onB_if (fun h => hA ?_) (fun h => hB ?_) <;> clear hA hB A B))
      | refine WP.q ?_ | refine WP.b ?_)
    simp [opH]
  by_cases h5 : op = [62]
  · subst h5
    repeat' (first
      | refine WP_unroll ?_
      | refine WP.t ?_ | refine WP.k ?_ | refine WP.e ?_ | refine Qn ?_ | refine Qr ?_ | refine Qe ?_ | refine Bn ?_ | refine Br ?_ | refine Be ?_ | refine Bx (by decide) ?_
      | (refine RS.nl ?_; refine hk _ _ ?_; clear hk k)
      | ((first | refine RS.st fun A B hA hB => ?_ | refine RQ.st fun A B hA hB => ?_); simp [F4b, F4a, F4, F3, pCmpV, V.cs, hc, onW_t, onW_f, onV_s]; first | ((first | refine hA _ _ _ ?_ ?_ | refine hA _ _ _ ?_ (by first | exact .inl rfl | exact .inr (by decide)) ?_); (focus (simp [F4b, F4a, F4, F3, pCmpV, V.cs, hc] <;> omega)); clear hA hB A B) | (refine hB ?_; clear hA hB A B) | (refine onV_if ?_ ?_; (focus (first | omega | (refine ⟨?_, ?_⟩ <;> omega))); simp only [onV_s]; (first | refine hA _ _ _ ?_ ?_ | refine hA _ _ _ ?_ (by first | exact .inl rfl | exact .inr (by decide)) ?_); (focus (simp [F4b, F4a, F4, F3, pCmpV, V.cs, hc] <;> omega)); clear hA hB A B))
      | (refine RQ.nl ?_; refine hk _ _ ?_; clear hk k)
      | refine WP.sr fun k hk => ?_ | refine WP.r fun k hk => ?_
      | refine WP.sd _ rfl fun k hk => ?_ | refine WP.d _ rfl fun k hk => ?_
      | (refine WP.cc fun A B hA hB => ?_; simp [F4b, F4a, F4, F3, pCmpV, V.cs, hc, onB_t, onB_f]; first | (refine hA ?_; clear hA hB A B) | (refine hB ?_; clear hA hB A B) | (refine onB_if (fun h => hA ?_) (fun h => hB ?_) <;> clear hA hB A B))
      | refine WP.q ?_ | refine WP.b ?_)
    simp [opH]
  by_cases h6 : op = [62, 61]
  · subst h6
    repeat' (first
      | refine WP_unroll ?_
      | refine WP.t ?_ | refine WP.k ?_ | refine WP.e ?_ | refine Qn ?_ | refine Qr ?_ | refine Qe ?_ | refine Bn ?_ | refine Br ?_ | refine Be ?_ | refine Bx (by decide) ?_
      | (refine RS.nl ?_; refine hk _ _ ?_; clear hk k)
      | ((first | refine RS.st fun A B hA hB => ?_ | refine RQ.st fun A B hA hB => ?_); simp [F4b, F4a, F4, F3, pCmpV, V.cs, hc, onW_t, onW_f, onV_s]; first | ((first | refine hA _ _ _ ?_ ?_ | refine hA _ _ _ ?_ (by first | exact .inl rfl | exact .inr (by decide)) ?_); (focus (simp [F4b, F4a, F4, F3, pCmpV, V.cs, hc] <;> omega)); clear hA hB A B) | (refine hB ?_; clear hA hB A B) | (refine onV_if ?_ ?_; (focus (first | omega | (refine ⟨?_, ?_⟩ <;> omega))); simp only [onV_s]; (first | refine hA _ _ _ ?_ ?_ | refine hA _ _ _ ?_ (by first | exact .inl rfl | exact .inr (by decide)) ?_); (focus (simp [F4b, F4a, F4, F3, pCmpV, V.cs, hc] <;> omega)); clear hA hB A B))
      | (refine RQ.nl ?_; refine hk _ _ ?_; clear hk k)
      | refine WP.sr fun k hk => ?_ | refine WP.r fun k hk => ?_
      | refine WP.sd _ rfl fun k hk => ?_ | refine WP.d _ rfl fun k hk => ?_
      | (refine WP.cc fun A B hA hB => ?_; simp [F4b, F4a, F4, F3, pCmpV, V.cs, hc, onB_t, onB_f]; first | (refine hA ?_; clear hA hB A B) | (refine hB ?_; clear hA hB A B) | (refine onB_if (fun h => hA ?_) (fun h => hB ?_) <;> clear hA hB A B))
      | refine WP.q ?_ | refine WP.b ?_)
    simp [opH]
  have e1 : ([61] == op) = false := beq_eq_false_iff_ne.2 (Ne.symm h1)
  have e2 : ([33, 61] == op) = false := beq_eq_false_iff_ne.2 (Ne.symm h2)
  have e3 : ([60] == op) = false := beq_eq_false_iff_ne.2 (Ne.symm h3)
  have e4 : ([60, 61] == op) = false := beq_eq_false_iff_ne.2 (Ne.symm h4)
  have e5 : ([62] == op) = false := beq_eq_false_iff_ne.2 (Ne.symm h5)
  have e6 : ([62, 61] == op) = false := beq_eq_false_iff_ne.2 (Ne.symm h6)
  repeat' (first
    | refine WP_unroll ?_
    | refine WP.t ?_ | refine WP.k ?_ | refine WP.e ?_ | refine Qn ?_ | refine Qr ?_ | refine Qe ?_ | refine Bn ?_ | refine Br ?_ | refine Be ?_ | refine Bx (by decide) ?_
    | (refine RS.nl ?_; refine hk _ _ ?_; clear hk k)
    | ((first | refine RS.st fun A B hA hB => ?_ | refine RQ.st fun A B hA hB => ?_); simp [F4b, F4a, F4, F3, pCmpV, V.cs, hc, e1, e2, e3, e4, e5, e6, onW_t, onW_f, onV_s]; first | ((first | refine hA _ _ _ ?_ ?_ | refine hA _ _ _ ?_ (by first | exact .inl rfl | exact .inr (by decide)) ?_); (focus (simp [F4b, F4a, F4, F3, pCmpV, V.cs, hc, e1, e2, e3, e4, e5, e6] <;> omega)); clear hA hB A B) | (refine hB ?_; clear hA hB A B) | (refine onV_if ?_ ?_; (focus (first | omega | (refine ⟨?_, ?_⟩ <;> omega))); simp only [onV_s]; (first | refine hA _ _ _ ?_ ?_ | refine hA _ _ _ ?_ (by first | exact .inl rfl | exact .inr (by decide)) ?_); (focus (simp [F4b, F4a, F4, F3, pCmpV, V.cs, hc, e1, e2, e3, e4, e5, e6] <;> omega)); clear hA hB A B))
    | (refine RQ.nl ?_; refine hk _ _ ?_; clear hk k)
    | refine WP.sr fun k hk => ?_ | refine WP.r fun k hk => ?_
    | refine WP.sd _ rfl fun k hk => ?_ | refine WP.d _ rfl fun k hk => ?_
    | (refine WP.cc fun A B hA hB => ?_; simp [F4b, F4a, F4, F3, pCmpV, V.cs, hc, e1, e2, e3, e4, e5, e6, onB_t, onB_f]; first | (refine hA ?_; clear hA hB A B) | (refine hB ?_; clear hA hB A B) | (refine onB_if (fun h => hA ?_) (fun h => hB ?_) <;> clear hA hB A B))
    | refine WP.q ?_ | refine WP.b ?_)
  simp [opH, h1, h2, h3, h4, h5, h6]
def F4c : Fns := F4b.a3 101 vStr (vAgg cV) (vAgg cV) fun op v w => some (.tup [.bool (opH op (cmpV v w)).1, .bool (opH op (cmpV v w)).2])
theorem F4c_ok : FOk (env K gw) F4c := F4b_ok.a3 fun op v w s r h => by cases h; exact ft_Holds op v w
end
end Go.Am
