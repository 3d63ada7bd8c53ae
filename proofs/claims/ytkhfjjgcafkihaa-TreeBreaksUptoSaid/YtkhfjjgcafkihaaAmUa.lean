/- Part of the proof: abstract values over the given model of Go (Ti, U1, U2, U3, U4). Conditions: none of its own; see the statement in the seat's Rows text. -/
import Derived.Test.YtkhfjjgcafkihaaAmFour
import Derived.Test.YtkhfjjgcafkihaaRows
import Derived.Test.YtkhfjjgcafkihaaAmSix
set_option linter.unusedSimpArgs false
set_option linter.unusedVariables false
set_option linter.unusedSectionVars false
namespace Go.Am
open Go.Proofs
theorem ti0 : tiOf Try.prog 0 = some ({ size := 1, bytes := 0, agg := false, zero := [.tuple #[]], desc := .tuple #[], held := false, guarded := false } : TI) := by kernel_rfl
theorem ti1 : tiOf Try.prog 1 = some ({ size := 1, bytes := 8, agg := false, zero := [.nilFunc], desc := .func #[] #[] false, held := false, guarded := false } : TI) := by kernel_rfl
theorem ti2 : tiOf Try.prog 2 = some ({ size := 1, bytes := 8, agg := false, zero := [.int .i64 0], desc := .int .i64, held := false, guarded := false } : TI) := by kernel_rfl
theorem ti3 : tiOf Try.prog 3 = some ({ size := 1, bytes := 8, agg := false, zero := [.int .i64 0], desc := .int .i64, held := false, guarded := false } : TI) := by kernel_rfl
theorem ti4 : tiOf Try.prog 4 = some ({ size := 1, bytes := 1, agg := false, zero := [.bool false], desc := .bool, held := false, guarded := false } : TI) := by kernel_rfl
theorem ti5 : tiOf Try.prog 5 = some ({ size := 1, bytes := 1, agg := false, zero := [.int .u8 0], desc := .int .u8, held := false, guarded := false } : TI) := by kernel_rfl
theorem ti6 : tiOf Try.prog 6 = some ({ size := 1, bytes := 1, agg := false, zero := [.int .u8 0], desc := .int .u8, held := false, guarded := false } : TI) := by kernel_rfl
theorem ti7 : tiOf Try.prog 7 = some ({ size := 4, bytes := 24, agg := true, zero := [.int .i64 0, .int .i64 0, .bool false, .int .u8 0], desc := .struct #[{ name := "x", type := 2, offset := 0, embedded := false, tag := "", pkgPath := "runtime", byteOffset := 0 }, { name := "y", type := 3, offset := 1, embedded := false, tag := "", pkgPath := "runtime", byteOffset := 8 }, { name := "signed", type := 4, offset := 2, embedded := false, tag := "", pkgPath := "runtime", byteOffset := 16 }, { name := "code", type := 6, offset := 3, embedded := false, tag := "", pkgPath := "runtime", byteOffset := 17 }], held := false, guarded := false } : TI) := by kernel_rfl
theorem ti8 : tiOf Try.prog 8 = some ({ size := 4, bytes := 24, agg := true, zero := [.int .i64 0, .int .i64 0, .bool false, .int .u8 0], desc := .struct #[{ name := "x", type := 2, offset := 0, embedded := false, tag := "", pkgPath := "runtime", byteOffset := 0 }, { name := "y", type := 3, offset := 1, embedded := false, tag := "", pkgPath := "runtime", byteOffset := 8 }, { name := "signed", type := 4, offset := 2, embedded := false, tag := "", pkgPath := "runtime", byteOffset := 16 }, { name := "code", type := 6, offset := 3, embedded := false, tag := "", pkgPath := "runtime", byteOffset := 17 }], held := false, guarded := false } : TI) := by kernel_rfl
theorem ti9 : tiOf Try.prog 9 = some ({ size := 1, bytes := 16, agg := false, zero := [.string { data := #[] }], desc := .string, held := false, guarded := false } : TI) := by kernel_rfl
theorem ti10 : tiOf Try.prog 10 = some ({ size := 1, bytes := 16, agg := false, zero := [.string { data := #[] }], desc := .string, held := false, guarded := false } : TI) := by kernel_rfl
theorem ti11 : tiOf Try.prog 11 = some ({ size := 1, bytes := 16, agg := false, zero := [.string { data := #[] }], desc := .string, held := false, guarded := false } : TI) := by kernel_rfl
theorem ti12 : tiOf Try.prog 12 = some ({ size := 1, bytes := 8, agg := false, zero := [.int .u64 0], desc := .int .u64, held := false, guarded := false } : TI) := by kernel_rfl
theorem ti13 : tiOf Try.prog 13 = some ({ size := 2, bytes := 24, agg := true, zero := [.string { data := #[] }, .int .u64 0], desc := .struct #[{ name := "msg", type := 9, offset := 0, embedded := false, tag := "", pkgPath := "runtime", byteOffset := 0 }, { name := "addr", type := 12, offset := 1, embedded := false, tag := "", pkgPath := "runtime", byteOffset := 16 }], held := true, guarded := false } : TI) := by kernel_rfl
theorem ti14 : tiOf Try.prog 14 = some ({ size := 2, bytes := 24, agg := true, zero := [.string { data := #[] }, .int .u64 0], desc := .struct #[{ name := "msg", type := 9, offset := 0, embedded := false, tag := "", pkgPath := "runtime", byteOffset := 0 }, { name := "addr", type := 12, offset := 1, embedded := false, tag := "", pkgPath := "runtime", byteOffset := 16 }], held := true, guarded := false } : TI) := by kernel_rfl
theorem ti15 : tiOf Try.prog 15 = some ({ size := 1, bytes := 8, agg := false, zero := [.pointer none], desc := .pointer 144, held := false, guarded := false } : TI) := by kernel_rfl
theorem ti16 : tiOf Try.prog 16 = some ({ size := 1, bytes := 8, agg := false, zero := [.pointer none], desc := .pointer 147, held := false, guarded := false } : TI) := by kernel_rfl
theorem ti17 : tiOf Try.prog 17 = some ({ size := 1, bytes := 8, agg := false, zero := [.pointer none], desc := .pointer 157, held := false, guarded := false } : TI) := by kernel_rfl
theorem ti18 : tiOf Try.prog 18 = some ({ size := 1, bytes := 8, agg := true, zero := [.pointer none], desc := .struct #[{ name := "typ", type := 17, offset := 0, embedded := false, tag := "", pkgPath := "internal/runtime/maps", byteOffset := 0 }], held := true, guarded := false } : TI) := by kernel_rfl
theorem ti19 : tiOf Try.prog 19 = some ({ size := 1, bytes := 8, agg := true, zero := [.pointer none], desc := .struct #[{ name := "typ", type := 17, offset := 0, embedded := false, tag := "", pkgPath := "internal/runtime/maps", byteOffset := 0 }], held := true, guarded := false } : TI) := by kernel_rfl
theorem ti20 : tiOf Try.prog 20 = some ({ size := 1, bytes := 16, agg := false, zero := [.nilIface], desc := .interface #[], held := false, guarded := false } : TI) := by kernel_rfl
theorem ti21 : tiOf Try.prog 21 = some ({ size := 1, bytes := 4, agg := false, zero := [.int .i32 0], desc := .int .i32, held := false, guarded := false } : TI) := by kernel_rfl
theorem ti22 : tiOf Try.prog 22 = some ({ size := 1, bytes := 24, agg := false, zero := [.slice none 0 0], desc := .slice 71, held := false, guarded := false } : TI) := by kernel_rfl
theorem ti23 : tiOf Try.prog 23 = some ({ size := 1, bytes := 24, agg := false, zero := [.slice none 0 0], desc := .slice 50, held := false, guarded := false } : TI) := by kernel_rfl
theorem ti24 : tiOf Try.prog 24 = some ({ size := 2, bytes := 48, agg := true, zero := [.slice none 0 0, .slice none 0 0], desc := .struct #[{ name := "Decls", type := 22, offset := 0, embedded := false, tag := "", pkgPath := "", byteOffset := 0 }, { name := "Rules", type := 23, offset := 1, embedded := false, tag := "", pkgPath := "", byteOffset := 24 }], held := false, guarded := false } : TI) := by kernel_rfl
theorem ti25 : tiOf Try.prog 25 = some ({ size := 2, bytes := 48, agg := true, zero := [.slice none 0 0, .slice none 0 0], desc := .struct #[{ name := "Decls", type := 22, offset := 0, embedded := false, tag := "", pkgPath := "", byteOffset := 0 }, { name := "Rules", type := 23, offset := 1, embedded := false, tag := "", pkgPath := "", byteOffset := 24 }], held := false, guarded := false } : TI) := by kernel_rfl
theorem ti26 : tiOf Try.prog 26 = some ({ size := 1, bytes := 24, agg := false, zero := [.slice none 0 0], desc := .slice 29, held := false, guarded := false } : TI) := by kernel_rfl
theorem ti27 : tiOf Try.prog 27 = some ({ size := 1, bytes := 24, agg := false, zero := [.slice none 0 0], desc := .slice 44, held := false, guarded := false } : TI) := by kernel_rfl
theorem ti28 : tiOf Try.prog 28 = some ({ size := 2, bytes := 40, agg := true, zero := [.string { data := #[] }, .slice none 0 0], desc := .struct #[{ name := "Pred", type := 9, offset := 0, embedded := false, tag := "", pkgPath := "", byteOffset := 0 }, { name := "Args", type := 27, offset := 1, embedded := false, tag := "", pkgPath := "", byteOffset := 16 }], held := false, guarded := false } : TI) := by kernel_rfl
theorem ti29 : tiOf Try.prog 29 = some ({ size := 2, bytes := 40, agg := true, zero := [.string { data := #[] }, .slice none 0 0], desc := .struct #[{ name := "Pred", type := 9, offset := 0, embedded := false, tag := "", pkgPath := "", byteOffset := 0 }, { name := "Args", type := 27, offset := 1, embedded := false, tag := "", pkgPath := "", byteOffset := 16 }], held := false, guarded := false } : TI) := by kernel_rfl
theorem ti30 : tiOf Try.prog 30 = some ({ size := 1, bytes := 24, agg := false, zero := [.slice none 0 0], desc := .slice 32, held := false, guarded := false } : TI) := by kernel_rfl
theorem ti31 : tiOf Try.prog 31 = some ({ size := 4, bytes := 72, agg := true, zero := [.string { data := #[] }, .slice none 0 0, .int .i64 0, .slice none 0 0], desc := .struct #[{ name := "Fact", type := 29, offset := 0, embedded := false, tag := "", pkgPath := "", byteOffset := 0 }, { name := "Rule", type := 3, offset := 2, embedded := false, tag := "", pkgPath := "", byteOffset := 40 }, { name := "Kids", type := 30, offset := 3, embedded := false, tag := "", pkgPath := "", byteOffset := 48 }], held := false, guarded := false } : TI) := by kernel_rfl
theorem ti32 : tiOf Try.prog 32 = some ({ size := 4, bytes := 72, agg := true, zero := [.string { data := #[] }, .slice none 0 0, .int .i64 0, .slice none 0 0], desc := .struct #[{ name := "Fact", type := 29, offset := 0, embedded := false, tag := "", pkgPath := "", byteOffset := 0 }, { name := "Rule", type := 3, offset := 2, embedded := false, tag := "", pkgPath := "", byteOffset := 40 }, { name := "Kids", type := 30, offset := 3, embedded := false, tag := "", pkgPath := "", byteOffset := 48 }], held := false, guarded := false } : TI) := by kernel_rfl
theorem ti33 : tiOf Try.prog 33 = some ({ size := 1, bytes := 8, agg := false, zero := [.nilFunc], desc := .func #[] #[4] false, held := false, guarded := false } : TI) := by kernel_rfl
theorem ti34 : tiOf Try.prog 34 = some ({ size := 1, bytes := 8, agg := false, zero := [.nilFunc], desc := .func #[25, 26, 32] #[4] false, held := false, guarded := false } : TI) := by kernel_rfl
theorem ti35 : tiOf Try.prog 35 = some ({ size := 1, bytes := 8, agg := false, zero := [.int .i64 0], desc := .int .i64, held := false, guarded := false } : TI) := by kernel_rfl
theorem ti36 : tiOf Try.prog 36 = some ({ size := 1, bytes := 8, agg := false, zero := [.nilFunc], desc := .func #[25, 26, 32] #[35] false, held := false, guarded := false } : TI) := by kernel_rfl
theorem ti37 : tiOf Try.prog 37 = some ({ size := 1, bytes := 8, agg := false, zero := [.nilFunc], desc := .func #[32] #[30] false, held := false, guarded := false } : TI) := by kernel_rfl
theorem ti38 : tiOf Try.prog 38 = some ({ size := 1, bytes := 8, agg := false, zero := [.nilFunc], desc := .func #[32] #[3] false, held := false, guarded := false } : TI) := by kernel_rfl
theorem ti39 : tiOf Try.prog 39 = some ({ size := 1, bytes := 8, agg := false, zero := [.nilFunc], desc := .func #[32] #[26] false, held := false, guarded := false } : TI) := by kernel_rfl
theorem ti40 : tiOf Try.prog 40 = some ({ size := 1, bytes := 8, agg := false, zero := [.nilFunc], desc := .func #[32] #[4] false, held := false, guarded := false } : TI) := by kernel_rfl
theorem ti41 : tiOf Try.prog 41 = some ({ size := 1, bytes := 0, agg := false, zero := [.tuple { toList := [.agg #[.slice none 0 0, .slice none 0 0], .int .i64 0, .int .i64 0] }], desc := .tuple #[25, 3, 3], held := false, guarded := false } : TI) := by kernel_rfl
theorem ti42 : tiOf Try.prog 42 = some ({ size := 1, bytes := 8, agg := false, zero := [.nilFunc], desc := .func #[9] #[25, 3, 3] false, held := false, guarded := false } : TI) := by kernel_rfl
theorem ti43 : tiOf Try.prog 43 = some ({ size := 3, bytes := 32, agg := true, zero := [.bool false, .string { data := #[] }, .int .i64 0], desc := .struct #[{ name := "IsSym", type := 4, offset := 0, embedded := false, tag := "", pkgPath := "", byteOffset := 0 }, { name := "Sym", type := 9, offset := 1, embedded := false, tag := "", pkgPath := "", byteOffset := 8 }, { name := "N", type := 2, offset := 2, embedded := false, tag := "", pkgPath := "", byteOffset := 24 }], held := false, guarded := false } : TI) := by kernel_rfl
theorem ti44 : tiOf Try.prog 44 = some ({ size := 3, bytes := 32, agg := true, zero := [.bool false, .string { data := #[] }, .int .i64 0], desc := .struct #[{ name := "IsSym", type := 4, offset := 0, embedded := false, tag := "", pkgPath := "", byteOffset := 0 }, { name := "Sym", type := 9, offset := 1, embedded := false, tag := "", pkgPath := "", byteOffset := 8 }, { name := "N", type := 2, offset := 2, embedded := false, tag := "", pkgPath := "", byteOffset := 24 }], held := false, guarded := false } : TI) := by kernel_rfl
theorem ti45 : tiOf Try.prog 45 = some ({ size := 1, bytes := 24, agg := false, zero := [.slice none 0 0], desc := .slice 52, held := false, guarded := false } : TI) := by kernel_rfl
theorem ti46 : tiOf Try.prog 46 = some ({ size := 2, bytes := 40, agg := true, zero := [.string { data := #[] }, .slice none 0 0], desc := .struct #[{ name := "Pred", type := 9, offset := 0, embedded := false, tag := "", pkgPath := "", byteOffset := 0 }, { name := "Args", type := 45, offset := 1, embedded := false, tag := "", pkgPath := "", byteOffset := 16 }], held := false, guarded := false } : TI) := by kernel_rfl
theorem ti47 : tiOf Try.prog 47 = some ({ size := 2, bytes := 40, agg := true, zero := [.string { data := #[] }, .slice none 0 0], desc := .struct #[{ name := "Pred", type := 9, offset := 0, embedded := false, tag := "", pkgPath := "", byteOffset := 0 }, { name := "Args", type := 45, offset := 1, embedded := false, tag := "", pkgPath := "", byteOffset := 16 }], held := false, guarded := false } : TI) := by kernel_rfl
theorem ti48 : tiOf Try.prog 48 = some ({ size := 1, bytes := 24, agg := false, zero := [.slice none 0 0], desc := .slice 54, held := false, guarded := false } : TI) := by kernel_rfl
theorem ti49 : tiOf Try.prog 49 = some ({ size := 3, bytes := 64, agg := true, zero := [.string { data := #[] }, .slice none 0 0, .slice none 0 0], desc := .struct #[{ name := "Head", type := 47, offset := 0, embedded := false, tag := "", pkgPath := "", byteOffset := 0 }, { name := "Body", type := 48, offset := 2, embedded := false, tag := "", pkgPath := "", byteOffset := 40 }], held := false, guarded := false } : TI) := by kernel_rfl
theorem ti50 : tiOf Try.prog 50 = some ({ size := 3, bytes := 64, agg := true, zero := [.string { data := #[] }, .slice none 0 0, .slice none 0 0], desc := .struct #[{ name := "Head", type := 47, offset := 0, embedded := false, tag := "", pkgPath := "", byteOffset := 0 }, { name := "Body", type := 48, offset := 2, embedded := false, tag := "", pkgPath := "", byteOffset := 40 }], held := false, guarded := false } : TI) := by kernel_rfl
theorem ti51 : tiOf Try.prog 51 = some ({ size := 5, bytes := 56, agg := true, zero := [.bool false, .string { data := #[] }, .bool false, .string { data := #[] }, .int .i64 0], desc := .struct #[{ name := "IsVar", type := 4, offset := 0, embedded := false, tag := "", pkgPath := "", byteOffset := 0 }, { name := "Name", type := 9, offset := 1, embedded := false, tag := "", pkgPath := "", byteOffset := 8 }, { name := "Val", type := 44, offset := 2, embedded := false, tag := "", pkgPath := "", byteOffset := 24 }], held := false, guarded := false } : TI) := by kernel_rfl
theorem ti52 : tiOf Try.prog 52 = some ({ size := 5, bytes := 56, agg := true, zero := [.bool false, .string { data := #[] }, .bool false, .string { data := #[] }, .int .i64 0], desc := .struct #[{ name := "IsVar", type := 4, offset := 0, embedded := false, tag := "", pkgPath := "", byteOffset := 0 }, { name := "Name", type := 9, offset := 1, embedded := false, tag := "", pkgPath := "", byteOffset := 8 }, { name := "Val", type := 44, offset := 2, embedded := false, tag := "", pkgPath := "", byteOffset := 24 }], held := false, guarded := false } : TI) := by kernel_rfl
theorem ti53 : tiOf Try.prog 53 = some ({ size := 14, bytes := 176, agg := true, zero := [.int .i64 0, .string { data := #[] }, .slice none 0 0, .string { data := #[] }, .bool false, .string { data := #[] }, .bool false, .string { data := #[] }, .int .i64 0, .bool false, .string { data := #[] }, .bool false, .string { data := #[] }, .int .i64 0], desc := .struct #[{ name := "Kind", type := 3, offset := 0, embedded := false, tag := "", pkgPath := "", byteOffset := 0 }, { name := "Atom", type := 47, offset := 1, embedded := false, tag := "", pkgPath := "", byteOffset := 8 }, { name := "Op", type := 9, offset := 3, embedded := false, tag := "", pkgPath := "", byteOffset := 48 }, { name := "L", type := 52, offset := 4, embedded := false, tag := "", pkgPath := "", byteOffset := 64 }, { name := "R", type := 52, offset := 9, embedded := false, tag := "", pkgPath := "", byteOffset := 120 }], held := false, guarded := false } : TI) := by kernel_rfl
theorem ti54 : tiOf Try.prog 54 = some ({ size := 14, bytes := 176, agg := true, zero := [.int .i64 0, .string { data := #[] }, .slice none 0 0, .string { data := #[] }, .bool false, .string { data := #[] }, .bool false, .string { data := #[] }, .int .i64 0, .bool false, .string { data := #[] }, .bool false, .string { data := #[] }, .int .i64 0], desc := .struct #[{ name := "Kind", type := 3, offset := 0, embedded := false, tag := "", pkgPath := "", byteOffset := 0 }, { name := "Atom", type := 47, offset := 1, embedded := false, tag := "", pkgPath := "", byteOffset := 8 }, { name := "Op", type := 9, offset := 3, embedded := false, tag := "", pkgPath := "", byteOffset := 48 }, { name := "L", type := 52, offset := 4, embedded := false, tag := "", pkgPath := "", byteOffset := 64 }, { name := "R", type := 52, offset := 9, embedded := false, tag := "", pkgPath := "", byteOffset := 120 }], held := false, guarded := false } : TI) := by kernel_rfl
theorem ti55 : tiOf Try.prog 55 = some ({ size := 1, bytes := 8, agg := false, zero := [.nilFunc], desc := .func #[25, 26, 32, 26] #[4] false, held := false, guarded := false } : TI) := by kernel_rfl
theorem ti56 : tiOf Try.prog 56 = some ({ size := 1, bytes := 8, agg := false, zero := [.nilFunc], desc := .func #[40] #[] false, held := false, guarded := false } : TI) := by kernel_rfl
theorem ti57 : tiOf Try.prog 57 = some ({ size := 1, bytes := 8, agg := false, zero := [.nilFunc], desc := .func #[40] #[] false, held := false, guarded := false } : TI) := by kernel_rfl
theorem ti58 : tiOf Try.prog 58 = some ({ size := 1, bytes := 8, agg := false, zero := [.nilFunc], desc := .func #[32] #[57] false, held := false, guarded := false } : TI) := by kernel_rfl
theorem ti59 : tiOf Try.prog 59 = some ({ size := 1, bytes := 24, agg := false, zero := [.slice none 0 0], desc := .slice 66, held := false, guarded := false } : TI) := by kernel_rfl
theorem ti60 : tiOf Try.prog 60 = some ({ size := 1, bytes := 0, agg := false, zero := [.tuple #[.slice none 0 0, .int .i64 0, .int .i64 0]], desc := .tuple #[59, 3, 3], held := false, guarded := false } : TI) := by kernel_rfl
theorem ti61 : tiOf Try.prog 61 = some ({ size := 1, bytes := 8, agg := false, zero := [.nilFunc], desc := .func #[9] #[59, 3, 3] false, held := false, guarded := false } : TI) := by kernel_rfl
theorem ti62 : tiOf Try.prog 62 = some ({ size := 2, bytes := 32, agg := true, zero := [.slice none 0 0, .int .i64 0], desc := .struct #[{ name := "L", type := 59, offset := 0, embedded := false, tag := "", pkgPath := "", byteOffset := 0 }, { name := "Size", type := 3, offset := 1, embedded := false, tag := "", pkgPath := "", byteOffset := 24 }], held := false, guarded := false } : TI) := by kernel_rfl
theorem ti63 : tiOf Try.prog 63 = some ({ size := 2, bytes := 32, agg := true, zero := [.slice none 0 0, .int .i64 0], desc := .struct #[{ name := "L", type := 59, offset := 0, embedded := false, tag := "", pkgPath := "", byteOffset := 0 }, { name := "Size", type := 3, offset := 1, embedded := false, tag := "", pkgPath := "", byteOffset := 24 }], held := false, guarded := false } : TI) := by kernel_rfl
theorem ti64 : tiOf Try.prog 64 = some ({ size := 1, bytes := 8, agg := false, zero := [.nilFunc], desc := .func #[66, 9] #[4] false, held := false, guarded := false } : TI) := by kernel_rfl
theorem ti65 : tiOf Try.prog 65 = some ({ size := 5, bytes := 48, agg := true, zero := [.int .i64 0, .string { data := #[] }, .int .i64 0, .bool false, .int .i64 0], desc := .struct #[{ name := "Kind", type := 3, offset := 0, embedded := false, tag := "", pkgPath := "", byteOffset := 0 }, { name := "S", type := 9, offset := 1, embedded := false, tag := "", pkgPath := "", byteOffset := 8 }, { name := "N", type := 2, offset := 2, embedded := false, tag := "", pkgPath := "", byteOffset := 24 }, { name := "Quoted", type := 4, offset := 3, embedded := false, tag := "", pkgPath := "", byteOffset := 32 }, { name := "At", type := 3, offset := 4, embedded := false, tag := "", pkgPath := "", byteOffset := 40 }], held := false, guarded := false } : TI) := by kernel_rfl
theorem ti66 : tiOf Try.prog 66 = some ({ size := 5, bytes := 48, agg := true, zero := [.int .i64 0, .string { data := #[] }, .int .i64 0, .bool false, .int .i64 0], desc := .struct #[{ name := "Kind", type := 3, offset := 0, embedded := false, tag := "", pkgPath := "", byteOffset := 0 }, { name := "S", type := 9, offset := 1, embedded := false, tag := "", pkgPath := "", byteOffset := 8 }, { name := "N", type := 2, offset := 2, embedded := false, tag := "", pkgPath := "", byteOffset := 24 }, { name := "Quoted", type := 4, offset := 3, embedded := false, tag := "", pkgPath := "", byteOffset := 32 }, { name := "At", type := 3, offset := 4, embedded := false, tag := "", pkgPath := "", byteOffset := 40 }], held := false, guarded := false } : TI) := by kernel_rfl
theorem ti67 : tiOf Try.prog 67 = some ({ size := 1, bytes := 8, agg := false, zero := [.nilFunc], desc := .func #[59, 3, 3] #[66] false, held := false, guarded := false } : TI) := by kernel_rfl
theorem ti68 : tiOf Try.prog 68 = some ({ size := 3, bytes := 24, agg := true, zero := [.int .i64 0, .int .i64 0, .int .i64 0], desc := .struct #[{ name := "I", type := 3, offset := 0, embedded := false, tag := "", pkgPath := "", byteOffset := 0 }, { name := "Bad", type := 3, offset := 1, embedded := false, tag := "", pkgPath := "", byteOffset := 8 }, { name := "At", type := 3, offset := 2, embedded := false, tag := "", pkgPath := "", byteOffset := 16 }], held := false, guarded := false } : TI) := by kernel_rfl
theorem ti69 : tiOf Try.prog 69 = some ({ size := 3, bytes := 24, agg := true, zero := [.int .i64 0, .int .i64 0, .int .i64 0], desc := .struct #[{ name := "I", type := 3, offset := 0, embedded := false, tag := "", pkgPath := "", byteOffset := 0 }, { name := "Bad", type := 3, offset := 1, embedded := false, tag := "", pkgPath := "", byteOffset := 8 }, { name := "At", type := 3, offset := 2, embedded := false, tag := "", pkgPath := "", byteOffset := 16 }], held := false, guarded := false } : TI) := by kernel_rfl
theorem ti70 : tiOf Try.prog 70 = some ({ size := 2, bytes := 24, agg := true, zero := [.string { data := #[] }, .int .i64 0], desc := .struct #[{ name := "Pred", type := 9, offset := 0, embedded := false, tag := "", pkgPath := "", byteOffset := 0 }, { name := "Arity", type := 3, offset := 1, embedded := false, tag := "", pkgPath := "", byteOffset := 16 }], held := false, guarded := false } : TI) := by kernel_rfl
theorem ti71 : tiOf Try.prog 71 = some ({ size := 2, bytes := 24, agg := true, zero := [.string { data := #[] }, .int .i64 0], desc := .struct #[{ name := "Pred", type := 9, offset := 0, embedded := false, tag := "", pkgPath := "", byteOffset := 0 }, { name := "Arity", type := 3, offset := 1, embedded := false, tag := "", pkgPath := "", byteOffset := 16 }], held := false, guarded := false } : TI) := by kernel_rfl
theorem ti72 : tiOf Try.prog 72 = some ({ size := 1, bytes := 0, agg := false, zero := [.tuple { toList := [.agg { toList := [.string { data := #[] }, .int .i64 0] }, .agg #[.int .i64 0, .int .i64 0, .int .i64 0]] }], desc := .tuple #[71, 69], held := false, guarded := false } : TI) := by kernel_rfl
theorem ti73 : tiOf Try.prog 73 = some ({ size := 1, bytes := 8, agg := false, zero := [.nilFunc], desc := .func #[63, 3] #[71, 69] false, held := false, guarded := false } : TI) := by kernel_rfl
theorem ti74 : tiOf Try.prog 74 = some ({ size := 1, bytes := 0, agg := false, zero := [.tuple { toList := [.agg { toList := [.string { data := #[] }, .slice none 0 0, .slice none 0 0] }, .agg #[.int .i64 0, .int .i64 0, .int .i64 0]] }], desc := .tuple #[50, 69], held := false, guarded := false } : TI) := by kernel_rfl
theorem ti75 : tiOf Try.prog 75 = some ({ size := 1, bytes := 8, agg := false, zero := [.nilFunc], desc := .func #[63, 3] #[50, 69] false, held := false, guarded := false } : TI) := by kernel_rfl
theorem ti76 : tiOf Try.prog 76 = some ({ size := 1, bytes := 8, agg := false, zero := [.nilFunc], desc := .func #[26, 78] #[4] false, held := false, guarded := false } : TI) := by kernel_rfl
theorem ti77 : tiOf Try.prog 77 = some ({ size := 1, bytes := 8, agg := false, zero := [.nilFunc], desc := .func #[29, 29] #[3] false, held := false, guarded := false } : TI) := by kernel_rfl
theorem ti78 : tiOf Try.prog 78 = some ({ size := 1, bytes := 8, agg := false, zero := [.nilFunc], desc := .func #[29] #[4] false, held := false, guarded := false } : TI) := by kernel_rfl
theorem ti79 : tiOf Try.prog 79 = some ({ size := 1, bytes := 8, agg := false, zero := [.nilFunc], desc := .func #[30, 40] #[4] false, held := false, guarded := false } : TI) := by kernel_rfl
theorem ti80 : tiOf Try.prog 80 = some ({ size := 1, bytes := 8, agg := false, zero := [.nilFunc], desc := .func #[9, 3] #[3] false, held := false, guarded := false } : TI) := by kernel_rfl
theorem ti81 : tiOf Try.prog 81 = some ({ size := 7, bytes := 64, agg := true, zero := [.int .i64 0, .string { data := #[] }, .int .i64 0, .bool false, .int .i64 0, .int .i64 0, .int .i64 0], desc := .struct #[{ name := "T", type := 66, offset := 0, embedded := false, tag := "", pkgPath := "", byteOffset := 0 }, { name := "To", type := 3, offset := 5, embedded := false, tag := "", pkgPath := "", byteOffset := 48 }, { name := "Bad", type := 3, offset := 6, embedded := false, tag := "", pkgPath := "", byteOffset := 56 }], held := false, guarded := false } : TI) := by kernel_rfl
theorem ti82 : tiOf Try.prog 82 = some ({ size := 7, bytes := 64, agg := true, zero := [.int .i64 0, .string { data := #[] }, .int .i64 0, .bool false, .int .i64 0, .int .i64 0, .int .i64 0], desc := .struct #[{ name := "T", type := 66, offset := 0, embedded := false, tag := "", pkgPath := "", byteOffset := 0 }, { name := "To", type := 3, offset := 5, embedded := false, tag := "", pkgPath := "", byteOffset := 48 }, { name := "Bad", type := 3, offset := 6, embedded := false, tag := "", pkgPath := "", byteOffset := 56 }], held := false, guarded := false } : TI) := by kernel_rfl
theorem ti83 : tiOf Try.prog 83 = some ({ size := 1, bytes := 8, agg := false, zero := [.nilFunc], desc := .func #[9, 3] #[82] false, held := false, guarded := false } : TI) := by kernel_rfl
theorem ti84 : tiOf Try.prog 84 = some ({ size := 1, bytes := 0, agg := false, zero := [.tuple { toList := [.string { data := #[] }, .agg #[.int .i64 0, .int .i64 0, .int .i64 0]] }], desc := .tuple #[9, 69], held := false, guarded := false } : TI) := by kernel_rfl
theorem ti85 : tiOf Try.prog 85 = some ({ size := 1, bytes := 8, agg := false, zero := [.nilFunc], desc := .func #[63, 3] #[9, 69] false, held := false, guarded := false } : TI) := by kernel_rfl
theorem ti86 : tiOf Try.prog 86 = some ({ size := 1, bytes := 8, agg := false, zero := [.nilFunc], desc := .func #[66, 3] #[69] false, held := false, guarded := false } : TI) := by kernel_rfl
theorem ti87 : tiOf Try.prog 87 = some ({ size := 1, bytes := 0, agg := false, zero := [.tuple { toList := [.agg { toList := [.string { data := #[] }, .slice none 0 0] }, .agg #[.int .i64 0, .int .i64 0, .int .i64 0]] }], desc := .tuple #[47, 69], held := false, guarded := false } : TI) := by kernel_rfl
theorem ti88 : tiOf Try.prog 88 = some ({ size := 1, bytes := 8, agg := false, zero := [.nilFunc], desc := .func #[63, 3] #[47, 69] false, held := false, guarded := false } : TI) := by kernel_rfl
theorem ti89 : tiOf Try.prog 89 = some ({ size := 1, bytes := 0, agg := false, zero := [.tuple { toList := [.agg { toList := [.int .i64 0, .string { data := #[] }, .slice none 0 0, .string { data := #[] }, .bool false, .string { data := #[] }, .bool false, .string { data := #[] }, .int .i64 0, .bool false, .string { data := #[] }, .bool false, .string { data := #[] }, .int .i64 0] }, .agg #[.int .i64 0, .int .i64 0, .int .i64 0]] }], desc := .tuple #[54, 69], held := false, guarded := false } : TI) := by kernel_rfl
theorem ti90 : tiOf Try.prog 90 = some ({ size := 1, bytes := 8, agg := false, zero := [.nilFunc], desc := .func #[63, 3] #[54, 69] false, held := false, guarded := false } : TI) := by kernel_rfl
theorem ti91 : tiOf Try.prog 91 = some ({ size := 1, bytes := 8, agg := false, zero := [.nilFunc], desc := .func #[26, 78] #[3] false, held := false, guarded := false } : TI) := by kernel_rfl
theorem ti92 : tiOf Try.prog 92 = some ({ size := 1, bytes := 8, agg := false, zero := [.nilFunc], desc := .func #[108] #[3] true, held := false, guarded := false } : TI) := by kernel_rfl
theorem ti93 : tiOf Try.prog 93 = some ({ size := 1, bytes := 8, agg := false, zero := [.nilFunc], desc := .func #[9, 9] #[3] false, held := false, guarded := false } : TI) := by kernel_rfl
theorem ti94 : tiOf Try.prog 94 = some ({ size := 1, bytes := 8, agg := false, zero := [.nilFunc], desc := .func #[27, 27] #[3] false, held := false, guarded := false } : TI) := by kernel_rfl
theorem ti95 : tiOf Try.prog 95 = some ({ size := 1, bytes := 24, agg := false, zero := [.slice none 0 0], desc := .slice 130, held := false, guarded := false } : TI) := by kernel_rfl
theorem ti96 : tiOf Try.prog 96 = some ({ size := 1, bytes := 24, agg := false, zero := [.slice none 0 0], desc := .slice 130, held := false, guarded := false } : TI) := by kernel_rfl
theorem ti97 : tiOf Try.prog 97 = some ({ size := 1, bytes := 0, agg := false, zero := [.tuple #[.slice none 0 0, .bool false]], desc := .tuple #[96, 4], held := false, guarded := false } : TI) := by kernel_rfl
theorem ti98 : tiOf Try.prog 98 = some ({ size := 1, bytes := 8, agg := false, zero := [.nilFunc], desc := .func #[50, 32] #[96, 4] false, held := false, guarded := false } : TI) := by kernel_rfl
theorem ti99 : tiOf Try.prog 99 = some ({ size := 1, bytes := 8, agg := false, zero := [.nilFunc], desc := .func #[48, 101] #[4] false, held := false, guarded := false } : TI) := by kernel_rfl
theorem ti100 : tiOf Try.prog 100 = some ({ size := 1, bytes := 8, agg := false, zero := [.nilFunc], desc := .func #[54, 26, 96] #[4] false, held := false, guarded := false } : TI) := by kernel_rfl
theorem ti101 : tiOf Try.prog 101 = some ({ size := 1, bytes := 8, agg := false, zero := [.nilFunc], desc := .func #[54] #[4] false, held := false, guarded := false } : TI) := by kernel_rfl
theorem ti102 : tiOf Try.prog 102 = some ({ size := 1, bytes := 8, agg := false, zero := [.nilFunc], desc := .func #[30, 40] #[3] false, held := false, guarded := false } : TI) := by kernel_rfl
theorem ti103 : tiOf Try.prog 103 = some ({ size := 1, bytes := 8, agg := false, zero := [.nilFunc], desc := .func #[5] #[4] false, held := false, guarded := false } : TI) := by kernel_rfl
theorem ti104 : tiOf Try.prog 104 = some ({ size := 1, bytes := 8, agg := false, zero := [.nilFunc], desc := .func #[9] #[4] false, held := false, guarded := false } : TI) := by kernel_rfl
theorem ti105 : tiOf Try.prog 105 = some ({ size := 1, bytes := 0, agg := false, zero := [.tuple { toList := [.agg { toList := [.bool false, .string { data := #[] }, .bool false, .string { data := #[] }, .int .i64 0] }, .agg #[.int .i64 0, .int .i64 0, .int .i64 0]] }], desc := .tuple #[52, 69], held := false, guarded := false } : TI) := by kernel_rfl
theorem ti106 : tiOf Try.prog 106 = some ({ size := 1, bytes := 8, agg := false, zero := [.nilFunc], desc := .func #[63, 3] #[52, 69] false, held := false, guarded := false } : TI) := by kernel_rfl
theorem ti107 : tiOf Try.prog 107 = some ({ size := 1, bytes := 8, agg := false, zero := [.nilFunc], desc := .func #[66] #[4] false, held := false, guarded := false } : TI) := by kernel_rfl
theorem ti108 : tiOf Try.prog 108 = some ({ size := 1, bytes := 24, agg := false, zero := [.slice none 0 0], desc := .slice 3, held := false, guarded := false } : TI) := by kernel_rfl
theorem ti109 : tiOf Try.prog 109 = some ({ size := 1, bytes := 8, agg := false, zero := [.nilFunc], desc := .func #[44, 44] #[3] false, held := false, guarded := false } : TI) := by kernel_rfl
theorem ti110 : tiOf Try.prog 110 = some ({ size := 1, bytes := 8, agg := false, zero := [.nilFunc], desc := .func #[3, 3] #[3] false, held := false, guarded := false } : TI) := by kernel_rfl
theorem ti111 : tiOf Try.prog 111 = some ({ size := 1, bytes := 8, agg := false, zero := [.nilFunc], desc := .func #[47, 27, 96] #[96, 4] false, held := false, guarded := false } : TI) := by kernel_rfl
theorem ti112 : tiOf Try.prog 112 = some ({ size := 1, bytes := 8, agg := false, zero := [.nilFunc], desc := .func #[48, 101] #[3] false, held := false, guarded := false } : TI) := by kernel_rfl
theorem ti113 : tiOf Try.prog 113 = some ({ size := 1, bytes := 0, agg := false, zero := [.tuple #[.slice none 0 0, .bool false]], desc := .tuple #[27, 4], held := false, guarded := false } : TI) := by kernel_rfl
theorem ti114 : tiOf Try.prog 114 = some ({ size := 1, bytes := 8, agg := false, zero := [.nilFunc], desc := .func #[47, 96] #[27, 4] false, held := false, guarded := false } : TI) := by kernel_rfl
theorem ti115 : tiOf Try.prog 115 = some ({ size := 1, bytes := 0, agg := false, zero := [.tuple #[.bool false, .bool false]], desc := .tuple #[4, 4], held := false, guarded := false } : TI) := by kernel_rfl
theorem ti116 : tiOf Try.prog 116 = some ({ size := 1, bytes := 8, agg := false, zero := [.nilFunc], desc := .func #[54, 96] #[4, 4] false, held := false, guarded := false } : TI) := by kernel_rfl
theorem ti117 : tiOf Try.prog 117 = some ({ size := 1, bytes := 24, agg := false, zero := [.slice none 0 0], desc := .slice 5, held := false, guarded := false } : TI) := by kernel_rfl
theorem ti118 : tiOf Try.prog 118 = some ({ size := 1, bytes := 8, agg := false, zero := [.nilFunc], desc := .func #[2, 2] #[3] false, held := false, guarded := false } : TI) := by kernel_rfl
theorem ti119 : tiOf Try.prog 119 = some ({ size := 1, bytes := 8, agg := false, zero := [.nilFunc], desc := .func #[3] #[4] false, held := false, guarded := false } : TI) := by kernel_rfl
theorem ti120 : tiOf Try.prog 120 = some ({ size := 1, bytes := 0, agg := false, zero := [.tuple { toList := [.agg { toList := [.bool false, .string { data := #[] }, .int .i64 0] }, .bool false] }], desc := .tuple #[44, 4], held := false, guarded := false } : TI) := by kernel_rfl
theorem ti121 : tiOf Try.prog 121 = some ({ size := 1, bytes := 8, agg := false, zero := [.nilFunc], desc := .func #[52, 96] #[44, 4] false, held := false, guarded := false } : TI) := by kernel_rfl
theorem ti122 : tiOf Try.prog 122 = some ({ size := 1, bytes := 8, agg := false, zero := [.nilFunc], desc := .func #[9, 44] #[96] false, held := false, guarded := false } : TI) := by kernel_rfl
theorem ti123 : tiOf Try.prog 123 = some ({ size := 1, bytes := 8, agg := false, zero := [.nilFunc], desc := .func #[44, 44] #[4] false, held := false, guarded := false } : TI) := by kernel_rfl
theorem ti124 : tiOf Try.prog 124 = some ({ size := 1, bytes := 8, agg := false, zero := [.nilFunc], desc := .func #[9, 44, 44] #[4, 4] false, held := false, guarded := false } : TI) := by kernel_rfl
theorem ti125 : tiOf Try.prog 125 = some ({ size := 1, bytes := 8, agg := false, zero := [.nilFunc], desc := .func #[2] #[4] false, held := false, guarded := false } : TI) := by kernel_rfl
theorem ti126 : tiOf Try.prog 126 = some ({ size := 1, bytes := 8, agg := false, zero := [.nilFunc], desc := .func #[9] #[44, 4] false, held := false, guarded := false } : TI) := by kernel_rfl
theorem ti127 : tiOf Try.prog 127 = some ({ size := 1, bytes := 8, agg := false, zero := [.nilFunc], desc := .func #[44] #[44] false, held := false, guarded := false } : TI) := by kernel_rfl
theorem ti128 : tiOf Try.prog 128 = some ({ size := 1, bytes := 8, agg := false, zero := [.nilFunc], desc := .func #[96, 132] #[96] false, held := false, guarded := false } : TI) := by kernel_rfl
theorem ti129 : tiOf Try.prog 129 = some ({ size := 4, bytes := 48, agg := true, zero := [.string { data := #[] }, .bool false, .string { data := #[] }, .int .i64 0], desc := .struct #[{ name := "Name", type := 9, offset := 0, embedded := false, tag := "", pkgPath := "", byteOffset := 0 }, { name := "Val", type := 44, offset := 1, embedded := false, tag := "", pkgPath := "", byteOffset := 16 }], held := false, guarded := false } : TI) := by kernel_rfl
theorem ti130 : tiOf Try.prog 130 = some ({ size := 4, bytes := 48, agg := true, zero := [.string { data := #[] }, .bool false, .string { data := #[] }, .int .i64 0], desc := .struct #[{ name := "Name", type := 9, offset := 0, embedded := false, tag := "", pkgPath := "", byteOffset := 0 }, { name := "Val", type := 44, offset := 1, embedded := false, tag := "", pkgPath := "", byteOffset := 16 }], held := false, guarded := false } : TI) := by kernel_rfl
theorem ti131 : tiOf Try.prog 131 = some ({ size := 1, bytes := 8, agg := false, zero := [.nilFunc], desc := .func #[96] #[96] false, held := false, guarded := false } : TI) := by kernel_rfl
theorem ti132 : tiOf Try.prog 132 = some ({ size := 1, bytes := 8, agg := false, zero := [.nilFunc], desc := .func #[130] #[4] false, held := false, guarded := false } : TI) := by kernel_rfl
theorem ti133 : tiOf Try.prog 133 = some ({ size := 1, bytes := 8, agg := false, zero := [.nilFunc], desc := .func #[96, 132] #[3] false, held := false, guarded := false } : TI) := by kernel_rfl
theorem ti134 : tiOf Try.prog 134 = some ({ size := 1, bytes := 8, agg := false, zero := [.nilFunc], desc := .func #[96, 3, 95] #[96] true, held := false, guarded := false } : TI) := by kernel_rfl
theorem ti135 : tiOf Try.prog 135 = some ({ size := 2, bytes := 24, agg := true, zero := [.string { data := #[] }, .nilFunc], desc := .struct #[{ name := "name", type := 9, offset := 0, embedded := false, tag := "", pkgPath := "lambrequin/value", byteOffset := 0 }, { name := "holds", type := 119, offset := 1, embedded := false, tag := "", pkgPath := "lambrequin/value", byteOffset := 16 }], held := false, guarded := false } : TI) := by kernel_rfl
theorem ti136 : tiOf Try.prog 136 = some ({ size := 1, bytes := 24, agg := false, zero := [.slice none 0 0], desc := .slice 135, held := false, guarded := false } : TI) := by kernel_rfl
theorem ti137 : tiOf Try.prog 137 = some ({ size := 1, bytes := 8, agg := false, zero := [.nilFunc], desc := .func #[9] #[44] false, held := false, guarded := false } : TI) := by kernel_rfl
theorem ti138 : tiOf Try.prog 138 = some ({ size := 1, bytes := 8, agg := false, zero := [.nilFunc], desc := .func #[2] #[44] false, held := false, guarded := false } : TI) := by kernel_rfl
theorem ti139 : tiOf Try.prog 139 = some ({ size := 1, bytes := 8, agg := false, zero := [.nilFunc], desc := .func #[95, 95] #[4] false, held := false, guarded := false } : TI) := by kernel_rfl
theorem ti140 : tiOf Try.prog 140 = some ({ size := 1, bytes := 8, agg := false, zero := [.nilFunc], desc := .func #[95, 3] #[] false, held := false, guarded := false } : TI) := by kernel_rfl
theorem ti141 : tiOf Try.prog 141 = some ({ size := 1, bytes := 8, agg := false, zero := [.nilFunc], desc := .func #[95] #[] false, held := false, guarded := false } : TI) := by kernel_rfl
theorem ti142 : tiOf Try.prog 142 = some ({ size := 1, bytes := 8, agg := false, zero := [.nilFunc], desc := .func #[] #[9] false, held := false, guarded := false } : TI) := by kernel_rfl
theorem ti143 : tiOf Try.prog 143 = some ({ size := 4, bytes := 40, agg := true, zero := [.pointer none, .pointer none, .pointer none, .string { data := #[] }], desc := .struct #[{ name := "_interface", type := 17, offset := 0, embedded := false, tag := "", pkgPath := "runtime", byteOffset := 0 }, { name := "concrete", type := 17, offset := 1, embedded := false, tag := "", pkgPath := "runtime", byteOffset := 8 }, { name := "asserted", type := 17, offset := 2, embedded := false, tag := "", pkgPath := "runtime", byteOffset := 16 }, { name := "missingMethod", type := 9, offset := 3, embedded := false, tag := "", pkgPath := "runtime", byteOffset := 24 }], held := true, guarded := false } : TI) := by kernel_rfl
theorem ti144 : tiOf Try.prog 144 = some ({ size := 4, bytes := 40, agg := true, zero := [.pointer none, .pointer none, .pointer none, .string { data := #[] }], desc := .struct #[{ name := "_interface", type := 17, offset := 0, embedded := false, tag := "", pkgPath := "runtime", byteOffset := 0 }, { name := "concrete", type := 17, offset := 1, embedded := false, tag := "", pkgPath := "runtime", byteOffset := 8 }, { name := "asserted", type := 17, offset := 2, embedded := false, tag := "", pkgPath := "runtime", byteOffset := 16 }, { name := "missingMethod", type := 9, offset := 3, embedded := false, tag := "", pkgPath := "runtime", byteOffset := 24 }], held := true, guarded := false } : TI) := by kernel_rfl
theorem ti145 : tiOf Try.prog 145 = some ({ size := 0, bytes := 0, agg := true, zero := [], desc := .array 0 16, held := false, guarded := false } : TI) := by kernel_rfl
theorem ti146 : tiOf Try.prog 146 = some ({ size := 0, bytes := 0, agg := true, zero := [], desc := .struct #[{ name := "_", type := 145, offset := 0, embedded := false, tag := "", pkgPath := "runtime", byteOffset := 0 }], held := true, guarded := false } : TI) := by kernel_rfl
theorem ti147 : tiOf Try.prog 147 = some ({ size := 0, bytes := 0, agg := true, zero := [], desc := .struct #[{ name := "_", type := 145, offset := 0, embedded := false, tag := "", pkgPath := "runtime", byteOffset := 0 }], held := true, guarded := false } : TI) := by kernel_rfl
theorem ti148 : tiOf Try.prog 148 = some ({ size := 1, bytes := 8, agg := false, zero := [.nilFunc], desc := .func #[] #[3] false, held := false, guarded := false } : TI) := by kernel_rfl
theorem ti149 : tiOf Try.prog 149 = some ({ size := 1, bytes := 4, agg := false, zero := [.int .u32 0], desc := .int .u32, held := false, guarded := false } : TI) := by kernel_rfl
theorem ti150 : tiOf Try.prog 150 = some ({ size := 1, bytes := 1, agg := false, zero := [.int .u8 0], desc := .int .u8, held := false, guarded := false } : TI) := by kernel_rfl
theorem ti151 : tiOf Try.prog 151 = some ({ size := 1, bytes := 1, agg := false, zero := [.int .u8 0], desc := .int .u8, held := false, guarded := false } : TI) := by kernel_rfl
theorem ti152 : tiOf Try.prog 152 = some ({ size := 1, bytes := 8, agg := false, zero := [.nilFunc], desc := .func #[158, 158] #[4] false, held := false, guarded := false } : TI) := by kernel_rfl
theorem ti153 : tiOf Try.prog 153 = some ({ size := 1, bytes := 8, agg := false, zero := [.pointer none], desc := .pointer 5, held := false, guarded := false } : TI) := by kernel_rfl
theorem ti154 : tiOf Try.prog 154 = some ({ size := 1, bytes := 4, agg := false, zero := [.int .i32 0], desc := .int .i32, held := false, guarded := false } : TI) := by kernel_rfl
theorem ti155 : tiOf Try.prog 155 = some ({ size := 1, bytes := 4, agg := false, zero := [.int .i32 0], desc := .int .i32, held := false, guarded := false } : TI) := by kernel_rfl
theorem ti156 : tiOf Try.prog 156 = some ({ size := 11, bytes := 48, agg := true, zero := [.int .u64 0, .int .u64 0, .int .u32 0, .int .u8 0, .int .u8 0, .int .u8 0, .int .u8 0, .nilFunc, .pointer none, .int .i32 0, .int .i32 0], desc := .struct #[{ name := "Size_", type := 12, offset := 0, embedded := false, tag := "", pkgPath := "", byteOffset := 0 }, { name := "PtrBytes", type := 12, offset := 1, embedded := false, tag := "", pkgPath := "", byteOffset := 8 }, { name := "Hash", type := 149, offset := 2, embedded := false, tag := "", pkgPath := "", byteOffset := 16 }, { name := "TFlag", type := 150, offset := 3, embedded := false, tag := "", pkgPath := "", byteOffset := 20 }, { name := "Align_", type := 5, offset := 4, embedded := false, tag := "", pkgPath := "", byteOffset := 21 }, { name := "FieldAlign_", type := 5, offset := 5, embedded := false, tag := "", pkgPath := "", byteOffset := 22 }, { name := "Kind_", type := 151, offset := 6, embedded := false, tag := "", pkgPath := "", byteOffset := 23 }, { name := "Equal", type := 152, offset := 7, embedded := false, tag := "", pkgPath := "", byteOffset := 24 }, { name := "GCData", type := 153, offset := 8, embedded := false, tag := "", pkgPath := "", byteOffset := 32 }, { name := "Str", type := 154, offset := 9, embedded := false, tag := "", pkgPath := "", byteOffset := 40 }, { name := "PtrToThis", type := 155, offset := 10, embedded := false, tag := "", pkgPath := "", byteOffset := 44 }], held := true, guarded := false } : TI) := by kernel_rfl
theorem ti157 : tiOf Try.prog 157 = some ({ size := 11, bytes := 48, agg := true, zero := [.int .u64 0, .int .u64 0, .int .u32 0, .int .u8 0, .int .u8 0, .int .u8 0, .int .u8 0, .nilFunc, .pointer none, .int .i32 0, .int .i32 0], desc := .struct #[{ name := "Size_", type := 12, offset := 0, embedded := false, tag := "", pkgPath := "", byteOffset := 0 }, { name := "PtrBytes", type := 12, offset := 1, embedded := false, tag := "", pkgPath := "", byteOffset := 8 }, { name := "Hash", type := 149, offset := 2, embedded := false, tag := "", pkgPath := "", byteOffset := 16 }, { name := "TFlag", type := 150, offset := 3, embedded := false, tag := "", pkgPath := "", byteOffset := 20 }, { name := "Align_", type := 5, offset := 4, embedded := false, tag := "", pkgPath := "", byteOffset := 21 }, { name := "FieldAlign_", type := 5, offset := 5, embedded := false, tag := "", pkgPath := "", byteOffset := 22 }, { name := "Kind_", type := 151, offset := 6, embedded := false, tag := "", pkgPath := "", byteOffset := 23 }, { name := "Equal", type := 152, offset := 7, embedded := false, tag := "", pkgPath := "", byteOffset := 24 }, { name := "GCData", type := 153, offset := 8, embedded := false, tag := "", pkgPath := "", byteOffset := 32 }, { name := "Str", type := 154, offset := 9, embedded := false, tag := "", pkgPath := "", byteOffset := 40 }, { name := "PtrToThis", type := 155, offset := 10, embedded := false, tag := "", pkgPath := "", byteOffset := 44 }], held := true, guarded := false } : TI) := by kernel_rfl
theorem ti158 : tiOf Try.prog 158 = some ({ size := 1, bytes := 8, agg := false, zero := [.pointer none], desc := .unsafePointer, held := false, guarded := false } : TI) := by kernel_rfl
end Go.Am
namespace Go.Am
open Go.Proofs
noncomputable def env (K : Nat) (gw : World) : Env := { P := Try.prog, K := K, gw := gw, ti := tiOf Try.prog, tok := fun _ _ h => h, glob := fun _ => [], gok := fun g j x h => by simp at h }
section
variable {K : Nat} {gw : World} {s : St}
theorem mixed0 : Try.prog.follows .mixedOrders = true := by kernel_rfl
theorem env_P : (env K gw).P = Try.prog := rfl
theorem mixed : (env K gw).P.follows .mixedOrders = true := @mixed_of (env K gw) Try.prog env_P mixed0
theorem env_ti' : (env K gw).ti = tiOf Try.prog := by simp only [env]
theorem env_ti (t : TypeId) : (env K gw).ti t = tiOf Try.prog t := congrFun env_ti' t
theorem fnOk {E : Env} {P : Program} {f : FuncId} {fn : Func} (hP : E.P = P) (h : P.funcs[f]? = some fn) (h1 : (fn.name == "runtime.NumGoroutine") = false) (h2 : fn.body.isNone = false) : FnOk E.P f := ⟨fn, by rw [hP]; exact h, h1, h2⟩
attribute [local simp] awanted xop zOf cz zrow aop ev T0 Slots.put Slots.set Slots.get awr WOk AV.may ofConst abinop aint isConst St.get_push St.get_put St.live AV.fit AV.cells AV.one fieldOf afieldAddr aload ofCells astore splice May eqres env_ti FinP FinZ FinW ares aresL ares1 Fns.addP Fns.add Fns.a0 Fns.a1 Fns.a2 Fns.a3 Fns.a4 abuiltin alenOk alen aindex elemOfT elemId abuildSlice afill chunks ard aappend isSS AV.isStr aminmax placesOf abuild afield aidx isStrD isStrDesc astrop aslice asliceOk abound arange anext aextract aunop aeq AV.ck avseq aveq aconv aconvert onB_t onB_f List.range_succ ti0 ti1 ti2 ti3 ti4 ti5 ti6 ti7 ti8 ti9 ti10 ti11 ti12 ti13 ti14 ti15 ti16 ti17 ti18 ti19 ti20 ti21 ti22 ti23 ti24 ti25 ti26 ti27 ti28 ti29 ti30 ti31 ti32 ti33 ti34 ti35 ti36 ti37 ti38 ti39 ti40 ti41 ti42 ti43 ti44 ti45 ti46 ti47 ti48 ti49 ti50 ti51 ti52 ti53 ti54 ti55 ti56 ti57 ti58 ti59 ti60 ti61 ti62 ti63 ti64 ti65 ti66 ti67 ti68 ti69 ti70 ti71 ti72 ti73 ti74 ti75 ti76 ti77 ti78 ti79 ti80 ti81 ti82 ti83 ti84 ti85 ti86 ti87 ti88 ti89 ti90 ti91 ti92 ti93 ti94 ti95 ti96 ti97 ti98 ti99 ti100 ti101 ti102 ti103 ti104 ti105 ti106 ti107 ti108 ti109 ti110 ti111 ti112 ti113 ti114 ti115 ti116 ti117 ti118 ti119 ti120 ti121 ti122 ti123 ti124 ti125 ti126 ti127 ti128 ti129 ti130 ti131 ti132 ti133 ti134 ti135 ti136 ti137 ti138 ti139 ti140 ti141 ti142 ti143 ti144 ti145 ti146 ti147 ti148 ti149 ti150 ti151 ti152 ti153 ti154 ti155 ti156 ti157 ti158
abbrev Str := List UInt8
def cmpI (m n : Int) : Int := if m < n then -1 else if n < m then 1 else 0
def cmpS (a b : List UInt8) : Int := if Op.bytesLess a b then -1 else if a == b then 0 else 1

def pNaNi : List AV → Option AV
  | [.int .i64 _] => some (.bool false)
  | _ => none
def pNaNs : List AV → Option AV
  | [.str _] => some (.bool false)
  | _ => none
def pCmpI : List AV → Option AV
  | [.int .i64 m, .int .i64 n] => some (.int .i64 (cmpI m n))
  | _ => none
def pCmpS : List AV → Option AV
  | [.str m, .str n] => some (.int .i64 (cmpS m n))
  | _ => none

theorem ft45 (n : Int) : FT (env K gw) NoW 63 [.int .i64 n] s (.bool false) s := by
  refine FT.pure (fn := Try.f63) F0_ok mixed Try.func63 rfl (by rfl) rfl rfl (by simp) rfl fun μ w => ?_
  repeat' (first
    | refine WP.t ?_ | refine WP.k ?_ | refine WP.e ?_ | refine Qn ?_ | refine Qr ?_ | refine Qe ?_ | refine Bn ?_ | refine Br ?_ | refine Be ?_ | refine Bx (by decide) ?_
    | (refine RS.nl ?_; refine hk _ _ ?_; clear hk k)
    | ((first | refine RS.st fun A B hA hB => ?_ | refine RQ.st fun A B hA hB => ?_); simp [awanted, onW_t, onW_f, onV_s]; first | ((first | refine hA _ _ _ ?_ ?_ | refine hA _ _ _ ?_ (by first | exact .inl rfl | exact .inr (by decide)) ?_); (focus (simp [awanted] <;> omega)); clear hA hB A B) | (refine hB ?_; clear hA hB A B) | (refine onV_if ?_ ?_; (focus (first | omega | (refine ⟨?_, ?_⟩ <;> omega))); simp only [onV_s]; (first | refine hA _ _ _ ?_ ?_ | refine hA _ _ _ ?_ (by first | exact .inl rfl | exact .inr (by decide)) ?_); (focus (simp [awanted] <;> omega)); clear hA hB A B))
    | (refine RQ.nl ?_; refine hk _ _ ?_; clear hk k)
    | refine WP.sr fun k hk => ?_ | refine WP.r fun k hk => ?_
    | refine WP.sd _ rfl fun k hk => ?_ | refine WP.d _ rfl fun k hk => ?_
    | (refine WP.cc fun A B hA hB => ?_; simp [awanted, onB_t, onB_f]; first | (refine hA ?_; clear hA hB A B) | (refine hB ?_; clear hA hB A B) | (refine onB_if (fun h => hA ?_) (fun h => hB ?_) <;> clear hA hB A B))
    | refine WP.q ?_ | refine WP.b ?_)
  simp
theorem ft56 (n : List UInt8) : FT (env K gw) NoW 54 [.str n] s (.bool false) s := by
  refine FT.pure (fn := Try.f54) F0_ok mixed Try.func54 rfl (by rfl) rfl rfl (by simp) rfl fun μ w => ?_
  repeat' (first
    | refine WP.t ?_ | refine WP.k ?_ | refine WP.e ?_ | refine Qn ?_ | refine Qr ?_ | refine Qe ?_ | refine Bn ?_ | refine Br ?_ | refine Be ?_ | refine Bx (by decide) ?_
    | (refine RS.nl ?_; refine hk _ _ ?_; clear hk k)
    | ((first | refine RS.st fun A B hA hB => ?_ | refine RQ.st fun A B hA hB => ?_); simp [astrop, onW_t, onW_f, onV_s]; first | ((first | refine hA _ _ _ ?_ ?_ | refine hA _ _ _ ?_ (by first | exact .inl rfl | exact .inr (by decide)) ?_); (focus (simp [astrop] <;> omega)); clear hA hB A B) | (refine hB ?_; clear hA hB A B) | (refine onV_if ?_ ?_; (focus (first | omega | (refine ⟨?_, ?_⟩ <;> omega))); simp only [onV_s]; (first | refine hA _ _ _ ?_ ?_ | refine hA _ _ _ ?_ (by first | exact .inl rfl | exact .inr (by decide)) ?_); (focus (simp [astrop] <;> omega)); clear hA hB A B))
    | (refine RQ.nl ?_; refine hk _ _ ?_; clear hk k)
    | refine WP.sr fun k hk => ?_ | refine WP.r fun k hk => ?_
    | refine WP.sd _ rfl fun k hk => ?_ | refine WP.d _ rfl fun k hk => ?_
    | (refine WP.cc fun A B hA hB => ?_; simp [astrop, onB_t, onB_f]; first | (refine hA ?_; clear hA hB A B) | (refine hB ?_; clear hA hB A B) | (refine onB_if (fun h => hA ?_) (fun h => hB ?_) <;> clear hA hB A B))
    | refine WP.q ?_ | refine WP.b ?_)
  simp
theorem ft57 (n : Int) : FT (env K gw) NoW 68 [.int .i64 n] s (.bool false) s := by
  refine FT.pure (fn := Try.f68) F0_ok mixed Try.func68 rfl (by rfl) rfl rfl (by simp) rfl fun μ w => ?_
  repeat' (first
    | refine WP.t ?_ | refine WP.k ?_ | refine WP.e ?_ | refine Qn ?_ | refine Qr ?_ | refine Qe ?_ | refine Bn ?_ | refine Br ?_ | refine Be ?_ | refine Bx (by decide) ?_
    | (refine RS.nl ?_; refine hk _ _ ?_; clear hk k)
    | ((first | refine RS.st fun A B hA hB => ?_ | refine RQ.st fun A B hA hB => ?_); simp [awanted, onW_t, onW_f, onV_s]; first | ((first | refine hA _ _ _ ?_ ?_ | refine hA _ _ _ ?_ (by first | exact .inl rfl | exact .inr (by decide)) ?_); (focus (simp [awanted] <;> omega)); clear hA hB A B) | (refine hB ?_; clear hA hB A B) | (refine onV_if ?_ ?_; (focus (first | omega | (refine ⟨?_, ?_⟩ <;> omega))); simp only [onV_s]; (first | refine hA _ _ _ ?_ ?_ | refine hA _ _ _ ?_ (by first | exact .inl rfl | exact .inr (by decide)) ?_); (focus (simp [awanted] <;> omega)); clear hA hB A B))
    | (refine RQ.nl ?_; refine hk _ _ ?_; clear hk k)
    | refine WP.sr fun k hk => ?_ | refine WP.r fun k hk => ?_
    | refine WP.sd _ rfl fun k hk => ?_ | refine WP.d _ rfl fun k hk => ?_
    | (refine WP.cc fun A B hA hB => ?_; simp [awanted, onB_t, onB_f]; first | (refine hA ?_; clear hA hB A B) | (refine hB ?_; clear hA hB A B) | (refine onB_if (fun h => hA ?_) (fun h => hB ?_) <;> clear hA hB A B))
    | refine WP.q ?_ | refine WP.b ?_)
  simp
def F1 : Fns := ((F0.addP 63 pNaNi).addP 54 pNaNs).addP 68 pNaNi
theorem F1_ok : FOk (env K gw) F1 := by
  refine ((F0_ok.addP ?_).addP ?_).addP ?_
  · intro xs s r h; unfold pNaNi at h; split at h <;> cases h; exact ft45 _
  · intro xs s r h; unfold pNaNs at h; split at h <;> cases h; exact ft56 _
  · intro xs s r h; unfold pNaNi at h; split at h <;> cases h; exact ft57 _
theorem ft28 (m n : Int) : FT (env K gw) NoW 56 [.int .i64 m, .int .i64 n] s (.int .i64 (cmpI m n)) s := by
  refine FT.pure (fn := Try.f56) F1_ok mixed Try.func56 rfl (by rfl) rfl rfl (by simp) rfl fun μ w => ?_
  repeat' (first
    | refine WP.t ?_ | refine WP.k ?_ | refine WP.e ?_ | refine Qn ?_ | refine Qr ?_ | refine Qe ?_ | refine Bn ?_ | refine Br ?_ | refine Be ?_ | refine Bx (by decide) ?_
    | (refine RS.nl ?_; refine hk _ _ ?_; clear hk k)
    | ((first | refine RS.st fun A B hA hB => ?_ | refine RQ.st fun A B hA hB => ?_); simp [F1, Fns.addP, pNaNi, onW_t, onW_f, onV_s]; first | ((first | refine hA _ _ _ ?_ ?_ | refine hA _ _ _ ?_ (by first | exact .inl rfl | exact .inr (by decide)) ?_); (focus (simp [F1, Fns.addP, pNaNi] <;> omega)); clear hA hB A B) | (refine hB ?_; clear hA hB A B) | (refine onV_if ?_ ?_; (focus (first | omega | (refine ⟨?_, ?_⟩ <;> omega))); simp only [onV_s]; (first | refine hA _ _ _ ?_ ?_ | refine hA _ _ _ ?_ (by first | exact .inl rfl | exact .inr (by decide)) ?_); (focus (simp [F1, Fns.addP, pNaNi] <;> omega)); clear hA hB A B))
    | (refine RQ.nl ?_; refine hk _ _ ?_; clear hk k)
    | refine WP.sr fun k hk => ?_ | refine WP.r fun k hk => ?_
    | refine WP.sd _ rfl fun k hk => ?_ | refine WP.d _ rfl fun k hk => ?_
    | (refine WP.cc fun A B hA hB => ?_; simp [F1, Fns.addP, pNaNi, onB_t, onB_f]; first | (refine hA ?_; clear hA hB A B) | (refine hB ?_; clear hA hB A B) | (refine onB_if (fun h => hA ?_) (fun h => hB ?_) <;> clear hA hB A B))
    | refine WP.q ?_ | refine WP.b ?_)
  all_goals (simp at *; simp [cmpI, cmpS, *]; try omega)
theorem ft44 (m n : Int) : FT (env K gw) NoW 62 [.int .i64 m, .int .i64 n] s (.int .i64 (cmpI m n)) s := by
  refine FT.pure (fn := Try.f62) F1_ok mixed Try.func62 rfl (by rfl) rfl rfl (by simp) rfl fun μ w => ?_
  repeat' (first
    | refine WP.t ?_ | refine WP.k ?_ | refine WP.e ?_ | refine Qn ?_ | refine Qr ?_ | refine Qe ?_ | refine Bn ?_ | refine Br ?_ | refine Be ?_ | refine Bx (by decide) ?_
    | (refine RS.nl ?_; refine hk _ _ ?_; clear hk k)
    | ((first | refine RS.st fun A B hA hB => ?_ | refine RQ.st fun A B hA hB => ?_); simp [F1, Fns.addP, pNaNi, onW_t, onW_f, onV_s]; first | ((first | refine hA _ _ _ ?_ ?_ | refine hA _ _ _ ?_ (by first | exact .inl rfl | exact .inr (by decide)) ?_); (focus (simp [F1, Fns.addP, pNaNi] <;> omega)); clear hA hB A B) | (refine hB ?_; clear hA hB A B) | (refine onV_if ?_ ?_; (focus (first | omega | (refine ⟨?_, ?_⟩ <;> omega))); simp only [onV_s]; (first | refine hA _ _ _ ?_ ?_ | refine hA _ _ _ ?_ (by first | exact .inl rfl | exact .inr (by decide)) ?_); (focus (simp [F1, Fns.addP, pNaNi] <;> omega)); clear hA hB A B))
    | (refine RQ.nl ?_; refine hk _ _ ?_; clear hk k)
    | refine WP.sr fun k hk => ?_ | refine WP.r fun k hk => ?_
    | refine WP.sd _ rfl fun k hk => ?_ | refine WP.d _ rfl fun k hk => ?_
    | (refine WP.cc fun A B hA hB => ?_; simp [F1, Fns.addP, pNaNi, onB_t, onB_f]; first | (refine hA ?_; clear hA hB A B) | (refine hB ?_; clear hA hB A B) | (refine onB_if (fun h => hA ?_) (fun h => hB ?_) <;> clear hA hB A B))
    | refine WP.q ?_ | refine WP.b ?_)
  all_goals (simp at *; simp [cmpI, cmpS, *]; try omega)
theorem ft43 (m n : List UInt8) : FT (env K gw) NoW 37 [.str m, .str n] s (.int .i64 (cmpS m n)) s := by
  refine FT.pure (fn := Try.f37) F1_ok mixed Try.func37 rfl (by rfl) rfl rfl (by simp) rfl fun μ w => ?_
  repeat' (first
    | refine WP.t ?_ | refine WP.k ?_ | refine WP.e ?_ | refine Qn ?_ | refine Qr ?_ | refine Qe ?_ | refine Bn ?_ | refine Br ?_ | refine Be ?_ | refine Bx (by decide) ?_
    | (refine RS.nl ?_; refine hk _ _ ?_; clear hk k)
    | ((first | refine RS.st fun A B hA hB => ?_ | refine RQ.st fun A B hA hB => ?_); simp [F1, Fns.addP, pNaNs, astrop, onW_t, onW_f, onV_s]; first | ((first | refine hA _ _ _ ?_ ?_ | refine hA _ _ _ ?_ (by first | exact .inl rfl | exact .inr (by decide)) ?_); (focus (simp [F1, Fns.addP, pNaNs, astrop] <;> omega)); clear hA hB A B) | (refine hB ?_; clear hA hB A B) | (refine onV_if ?_ ?_; (focus (first | omega | (refine ⟨?_, ?_⟩ <;> omega))); simp only [onV_s]; (first | refine hA _ _ _ ?_ ?_ | refine hA _ _ _ ?_ (by first | exact .inl rfl | exact .inr (by decide)) ?_); (focus (simp [F1, Fns.addP, pNaNs, astrop] <;> omega)); clear hA hB A B))
    | (refine RQ.nl ?_; refine hk _ _ ?_; clear hk k)
    | refine WP.sr fun k hk => ?_ | refine WP.r fun k hk => ?_
    | refine WP.sd _ rfl fun k hk => ?_ | refine WP.d _ rfl fun k hk => ?_
    | (refine WP.cc fun A B hA hB => ?_; simp [F1, Fns.addP, pNaNs, astrop, onB_t, onB_f]; first | (refine hA ?_; clear hA hB A B) | (refine hB ?_; clear hA hB A B) | (refine onB_if (fun h => hA ?_) (fun h => hB ?_) <;> clear hA hB A B))
    | refine WP.q ?_ | refine WP.b ?_)
  all_goals (simp at *; simp_all [cmpS])
def F2 : Fns := ((F1.addP 56 pCmpI).addP 62 pCmpI).addP 37 pCmpS
theorem F2_ok : FOk (env K gw) F2 := by
  refine ((F1_ok.addP ?_).addP ?_).addP ?_
  · intro xs s r h; unfold pCmpI at h; split at h <;> cases h; exact ft28 _ _
  · intro xs s r h; unfold pCmpI at h; split at h <;> cases h; exact ft44 _ _
  · intro xs s r h; unfold pCmpS at h; split at h <;> cases h; exact ft43 _ _

/-- A value of the rules. -/
structure V where
  b : Bool
  s : List UInt8
  n : Int
def V.cs (v : V) : List AV := [.bool v.b, .str v.s, .int .i64 v.n]
def cmpV (x y : V) : Int := if x.b && y.b then cmpS x.s y.s else if x.b then 1 else if y.b then -1 else cmpI x.n y.n
def pCmpV : List AV → Option AV
  | [.agg [.bool b, .str s, .int .i64 n], .agg [.bool b', .str s', .int .i64 n']] => some (.int .i64 (cmpV ⟨b, s, n⟩ ⟨b', s', n'⟩))
  | _ => none
theorem ft27 (x y : V) : FT (env K gw) NoW 55 [.agg x.cs, .agg y.cs] s (.int .i64 (cmpV x y)) s := by
  obtain ⟨b, u, n⟩ := x
  obtain ⟨b', u', n'⟩ := y
  refine FT.pure (fn := Try.f55) F2_ok mixed Try.func55 rfl (by rfl) rfl rfl (by simp) rfl fun μ w => ?_
  cases b <;> cases b'
  all_goals
    repeat' (first
      | refine WP.t ?_ | refine WP.k ?_ | refine WP.e ?_ | refine Qn ?_ | refine Qr ?_ | refine Qe ?_ | refine Bn ?_ | refine Br ?_ | refine Be ?_ | refine Bx (by decide) ?_
      | (refine RS.nl ?_; refine hk _ _ ?_; clear hk k)
      | ((first | refine RS.st fun A B hA hB => ?_ | refine RQ.st fun A B hA hB => ?_); simp [F2, Fns.addP, pCmpI, pCmpS, V.cs, ti44, ti9, ti4, ti2, onW_t, onW_f, onV_s]; first | ((first | refine hA _ _ _ ?_ ?_ | refine hA _ _ _ ?_ (by first | exact .inl rfl | exact .inr (by decide)) ?_); (focus (simp [F2, Fns.addP, pCmpI, pCmpS, V.cs, ti44, ti9, ti4, ti2] <;> omega)); clear hA hB A B) | (refine hB ?_; clear hA hB A B) | (refine onV_if ?_ ?_; (focus (first | omega | (refine ⟨?_, ?_⟩ <;> omega))); simp only [onV_s]; (first | refine hA _ _ _ ?_ ?_ | refine hA _ _ _ ?_ (by first | exact .inl rfl | exact .inr (by decide)) ?_); (focus (simp [F2, Fns.addP, pCmpI, pCmpS, V.cs, ti44, ti9, ti4, ti2] <;> omega)); clear hA hB A B))
      | (refine RQ.nl ?_; refine hk _ _ ?_; clear hk k)
      | refine WP.sr fun k hk => ?_ | refine WP.r fun k hk => ?_
      | refine WP.sd _ rfl fun k hk => ?_ | refine WP.d _ rfl fun k hk => ?_
      | (refine WP.cc fun A B hA hB => ?_; simp [F2, Fns.addP, pCmpI, pCmpS, V.cs, ti44, ti9, ti4, ti2, onB_t, onB_f]; first | (refine hA ?_; clear hA hB A B) | (refine hB ?_; clear hA hB A B) | (refine onB_if (fun h => hA ?_) (fun h => hB ?_) <;> clear hA hB A B))
      | refine WP.q ?_ | refine WP.b ?_)
  
  all_goals simp [cmpV]
end
end Go.Am
namespace Go.Am
open Go.Proofs
section
variable {K : Nat} {gw : World} {s : St}
attribute [local simp] awanted xop zOf cz zrow aop ev T0 Slots.put Slots.set Slots.get awr WOk AV.may ofConst abinop aint isConst St.get_push St.get_put St.live AV.fit AV.cells AV.one fieldOf afieldAddr aload ofCells astore splice May eqres env_ti FinP FinZ FinW ares aresL ares1 Fns.addP Fns.add Fns.a0 Fns.a1 Fns.a2 Fns.a3 Fns.a4 abuiltin alenOk alen aindex elemOfT elemId abuildSlice afill chunks ard aappend isSS AV.isStr aminmax placesOf abuild afield aidx isStrD isStrDesc astrop aslice asliceOk abound arange anext aextract aunop aeq AV.ck avseq aveq aconv aconvert onB_t onB_f List.range_succ ti0 ti1 ti2 ti3 ti4 ti5 ti6 ti7 ti8 ti9 ti10 ti11 ti12 ti13 ti14 ti15 ti16 ti17 ti18 ti19 ti20 ti21 ti22 ti23 ti24 ti25 ti26 ti27 ti28 ti29 ti30 ti31 ti32 ti33 ti34 ti35 ti36 ti37 ti38 ti39 ti40 ti41 ti42 ti43 ti44 ti45 ti46 ti47 ti48 ti49 ti50 ti51 ti52 ti53 ti54 ti55 ti56 ti57 ti58 ti59 ti60 ti61 ti62 ti63 ti64 ti65 ti66 ti67 ti68 ti69 ti70 ti71 ti72 ti73 ti74 ti75 ti76 ti77 ti78 ti79 ti80 ti81 ti82 ti83 ti84 ti85 ti86 ti87 ti88 ti89 ti90 ti91 ti92 ti93 ti94 ti95 ti96 ti97 ti98 ti99 ti100 ti101 ti102 ti103 ti104 ti105 ti106 ti107 ti108 ti109 ti110 ti111 ti112 ti113 ti114 ti115 ti116 ti117 ti118 ti119 ti120 ti121 ti122 ti123 ti124 ti125 ti126 ti127 ti128 ti129 ti130 ti131 ti132 ti133 ti134 ti135 ti136 ti137 ti138 ti139 ti140 ti141 ti142 ti143 ti144 ti145 ti146 ti147 ti148 ti149 ti150 ti151 ti152 ti153 ti154 ti155 ti156 ti157 ti158
def F3 : Fns := F2.addP 55 pCmpV
theorem F3_ok : FOk (env K gw) F3 := by
  refine F2_ok.addP ?_
  intro xs s r h; unfold pCmpV at h; split at h <;> cases h; exact ft27 ⟨_, _, _⟩ ⟨_, _, _⟩

def decV : List AV → Option V
  | [.bool b, .str s, .int .i64 n] => some ⟨b, s, n⟩
  | _ => none
def decL : List (List AV) → Option (List V)
  | [] => some []
  | c :: l => match decV c, decL l with
    | some v, some vs => some (v :: vs)
    | _, _ => none
@[simp] theorem decV_cs (v : V) : decV v.cs = some v := rfl
@[simp] theorem decL_map (l : List V) : decL (l.map V.cs) = some l := by
  induction l with
  | nil => rfl
  | cons v l ih => simp [decL, ih]
theorem decV_eq {c : List AV} {v : V} (h : decV c = some v) : c = v.cs := by
  unfold decV at h
  split at h <;> cases h
  rfl
theorem decL_eq {c : List (List AV)} {v : List V} (h : decL c = some v) : c = v.map V.cs := by
  induction c generalizing v with
  | nil => cases h; rfl
  | cons x c ih =>
    simp only [decL] at h
    split at h
    · rename_i a b ha hb
      cases h
      simp [decV_eq ha, ih hb]
    · cases h

abbrev LIM : Nat := 4611686018427387904
def cmpT : List V → List V → Int
  | [], [] => 0
  | [], _ :: _ => -1
  | _ :: _, [] => 1
  | a :: x, b :: y => if cmpV a b = 0 then cmpT x y else cmpV a b
def pCmpT : List AV → Option AV
  | [.sl a, .sl b] => match decL a, decL b with
    | some x, some y => if x.length < LIM ∧ y.length < LIM then some (.int .i64 (cmpT x y)) else none
    | _, _ => none
  | _ => none

theorem cmpT_drop {x y : List V} {i : Nat} (hx : i < x.length) (hy : i < y.length) :
    cmpT (x.drop i) (y.drop i) = if cmpV x[i] y[i] = 0 then cmpT (x.drop (i + 1)) (y.drop (i + 1)) else cmpV x[i] y[i] := by
  rw [List.drop_eq_getElem_cons hx, List.drop_eq_getElem_cons hy]; rfl
theorem cmpT_end {x y : List V} {i : Nat} (h : i = min x.length y.length) : cmpT (x.drop i) (y.drop i) = cmpI x.length y.length := by
  unfold cmpI
  by_cases h1 : x.length < y.length
  · obtain rfl : i = x.length := by omega
    rw [List.drop_length, if_pos (by omega), List.drop_eq_getElem_cons h1]; rfl
  · by_cases h2 : y.length < x.length
    · obtain rfl : i = y.length := by omega
      rw [List.drop_length, if_neg (by omega), if_pos (by omega), List.drop_eq_getElem_cons h2]; rfl
    · obtain rfl : i = x.length := by omega
      rw [if_neg (by omega), if_neg (by omega)]
      have : x.length = y.length := by omega
      rw [List.drop_length, this, List.drop_length]; rfl

theorem ft11 (x y : List V) (hx : x.length < LIM) (hy : y.length < LIM) : FT (env K gw) NoW 38 [.sl (x.map V.cs), .sl (y.map V.cs)] s (.int .i64 (cmpT x y)) s := by
  refine FT.pure (fn := Try.f38) F3_ok mixed Try.func38 rfl (by rfl) rfl rfl (by simp) rfl fun μ w => ?_
  repeat' (first
    | refine WP.t ?_ | refine WP.k ?_ | refine WP.e ?_ | refine Qn ?_ | refine Qr ?_ | refine Qe ?_ | refine Bn ?_ | refine Br ?_ | refine Be ?_ | refine Bx (by decide) ?_
    | (refine RS.nl ?_; refine hk _ _ ?_; clear hk k)
    | ((first | refine RS.st fun A B hA hB => ?_ | refine RQ.st fun A B hA hB => ?_); simp [F3, abuiltin, alenOk, alen, ti27, aminmax, onW_t, onW_f, onV_s]; first | ((first | refine hA _ _ _ ?_ ?_ | refine hA _ _ _ ?_ (by first | exact .inl rfl | exact .inr (by decide)) ?_); (focus (simp [F3, abuiltin, alenOk, alen, ti27, aminmax] <;> omega)); clear hA hB A B) | (refine hB ?_; clear hA hB A B) | (refine onV_if ?_ ?_; (focus (first | omega | (refine ⟨?_, ?_⟩ <;> omega))); simp only [onV_s]; (first | refine hA _ _ _ ?_ ?_ | refine hA _ _ _ ?_ (by first | exact .inl rfl | exact .inr (by decide)) ?_); (focus (simp [F3, abuiltin, alenOk, alen, ti27, aminmax] <;> omega)); clear hA hB A B))
    | (refine RQ.nl ?_; refine hk _ _ ?_; clear hk k)
    | refine WP.sr fun k hk => ?_ | refine WP.r fun k hk => ?_
    | refine WP.sd _ rfl fun k hk => ?_ | refine WP.d _ rfl fun k hk => ?_
    | (refine WP.cc fun A B hA hB => ?_; simp [F3, abuiltin, alenOk, alen, ti27, aminmax, onB_t, onB_f]; first | (refine hA ?_; clear hA hB A B) | (refine hB ?_; clear hA hB A B) | (refine onB_if (fun h => hA ?_) (fun h => hB ?_) <;> clear hA hB A B))
    | refine WP.q ?_ | refine WP.b ?_)
  refine WP_loop (fun n T s' => ∃ i : Nat, n + i = min x.length y.length ∧ s' = s ∧ T.get 0 = .sl (x.map V.cs) ∧ T.get 1 = .sl (y.map V.cs) ∧ T.get 11 = .int .i64 (min x.length y.length : Nat) ∧ T.get 12 = .int .i64 i ∧ cmpT x y = cmpT (x.drop i) (y.drop i)) (min x.length y.length) ⟨0, by simp, rfl, by simp, by simp, by simp; omega, by simp, by simp⟩ ?_
  rintro n T s' ⟨i, hn, rfl, h0, h1, h11, h12, hc⟩
  by_cases hi : i < min x.length y.length
  · have hx' : i < x.length := by omega
    have hy' : i < y.length := by omega
    have hw : IntKind.i64.wrap ((i : Int) + 1) = (i : Int) + 1 := wrap64 (by omega) (by simp only [LIM] at hx; omega)
    have ha : x[i]? = some x[i] := List.getElem?_eq_getElem hx'
    have hb : y[i]? = some y[i] := List.getElem?_eq_getElem hy'
    have hlt : ((i : Int) < ((min x.length y.length : Nat) : Int)) := by omega
    repeat' (first
      | refine WP.t ?_ | refine WP.k ?_ | refine WP.e ?_ | refine Qn ?_ | refine Qr ?_ | refine Qe ?_ | refine Bn ?_ | refine Br ?_ | refine Be ?_ | refine Bx (by decide) ?_
      | (refine RS.nl ?_; refine hk _ _ ?_; clear hk k)
      | ((first | refine RS.st fun A B hA hB => ?_ | refine RQ.st fun A B hA hB => ?_); simp [F3, pCmpV, h0, h1, h11, h12, hlt, hx', hy', ha, hb, hw, aindex, elemOfT, ti27, ti44, V.cs, onW_t, onW_f, onV_s]; first | ((first | refine hA _ _ _ ?_ ?_ | refine hA _ _ _ ?_ (by first | exact .inl rfl | exact .inr (by decide)) ?_); (focus (simp [F3, pCmpV, h0, h1, h11, h12, hlt, hx', hy', ha, hb, hw, aindex, elemOfT, ti27, ti44, V.cs] <;> omega)); clear hA hB A B) | (refine hB ?_; clear hA hB A B) | (refine onV_if ?_ ?_; (focus (first | omega | (refine ⟨?_, ?_⟩ <;> omega))); simp only [onV_s]; (first | refine hA _ _ _ ?_ ?_ | refine hA _ _ _ ?_ (by first | exact .inl rfl | exact .inr (by decide)) ?_); (focus (simp [F3, pCmpV, h0, h1, h11, h12, hlt, hx', hy', ha, hb, hw, aindex, elemOfT, ti27, ti44, V.cs] <;> omega)); clear hA hB A B))
      | (refine RQ.nl ?_; refine hk _ _ ?_; clear hk k)
      | refine WP.sr fun k hk => ?_ | refine WP.r fun k hk => ?_
      | refine WP.sd _ rfl fun k hk => ?_ | refine WP.d _ rfl fun k hk => ?_
      | (refine WP.cc fun A B hA hB => ?_; simp [F3, pCmpV, h0, h1, h11, h12, hlt, hx', hy', ha, hb, hw, aindex, elemOfT, ti27, ti44, V.cs, onB_t, onB_f]; first | (refine hA ?_; clear hA hB A B) | (refine hB ?_; clear hA hB A B) | (refine onB_if (fun h => hA ?_) (fun h => hB ?_) <;> clear hA hB A B))
      | refine WP.q ?_ | refine WP.b ?_)
    · simp at h
      simp
      rw [hc, cmpT_drop hx' hy', if_neg h]
    · simp at h
      refine ⟨n - 1, by omega, i + 1, by omega, rfl, by simp [h0], by simp [h1], by simp [h11], by simp, ?_⟩
      rw [hc, cmpT_drop hx' hy', if_pos h]
  · have hlt : ¬ ((i : Int) < ((min x.length y.length : Nat) : Int)) := by omega
    have he : i = min x.length y.length := by omega
    repeat' (first
      | refine WP.t ?_ | refine WP.k ?_ | refine WP.e ?_ | refine Qn ?_ | refine Qr ?_ | refine Qe ?_ | refine Bn ?_ | refine Br ?_ | refine Be ?_ | refine Bx (by decide) ?_
      | (refine RS.nl ?_; refine hk _ _ ?_; clear hk k)
      | ((first | refine RS.st fun A B hA hB => ?_ | refine RQ.st fun A B hA hB => ?_); simp [F3, F2, pCmpI, h0, h1, h11, h12, hlt, abuiltin, alenOk, alen, ti27, onW_t, onW_f, onV_s]; first | ((first | refine hA _ _ _ ?_ ?_ | refine hA _ _ _ ?_ (by first | exact .inl rfl | exact .inr (by decide)) ?_); (focus (simp [F3, F2, pCmpI, h0, h1, h11, h12, hlt, abuiltin, alenOk, alen, ti27] <;> omega)); clear hA hB A B) | (refine hB ?_; clear hA hB A B) | (refine onV_if ?_ ?_; (focus (first | omega | (refine ⟨?_, ?_⟩ <;> omega))); simp only [onV_s]; (first | refine hA _ _ _ ?_ ?_ | refine hA _ _ _ ?_ (by first | exact .inl rfl | exact .inr (by decide)) ?_); (focus (simp [F3, F2, pCmpI, h0, h1, h11, h12, hlt, abuiltin, alenOk, alen, ti27] <;> omega)); clear hA hB A B))
      | (refine RQ.nl ?_; refine hk _ _ ?_; clear hk k)
      | refine WP.sr fun k hk => ?_ | refine WP.r fun k hk => ?_
      | refine WP.sd _ rfl fun k hk => ?_ | refine WP.d _ rfl fun k hk => ?_
      | (refine WP.cc fun A B hA hB => ?_; simp [F3, F2, pCmpI, h0, h1, h11, h12, hlt, abuiltin, alenOk, alen, ti27, onB_t, onB_f]; first | (refine hA ?_; clear hA hB A B) | (refine hB ?_; clear hA hB A B) | (refine onB_if (fun h => hA ?_) (fun h => hB ?_) <;> clear hA hB A B))
      | refine WP.q ?_ | refine WP.b ?_)
    rw [cmpT_end he] at hc
    simp [hc]
def F4 : Fns := F3.addP 38 pCmpT
theorem F4_ok : FOk (env K gw) F4 := by
  refine F3_ok.addP ?_
  intro xs s r h
  unfold pCmpT at h
  split at h
  · split at h
    · rename_i hx hy
      split at h
      · rename_i hl
        cases h
        rw [decL_eq hx, decL_eq hy]
        exact ft11 _ _ hl.1 hl.2
      · cases h
    · cases h
  · cases h
end
end Go.Am
namespace Go.Am
open Go.Proofs
def bareV (v : V) : V := if v.b then ⟨true, v.s, 0⟩ else ⟨false, [], v.n⟩
/-- What an operator says of an order. -/
def opH (op : Str) (c : Int) : Bool × Bool :=
  if op = [61] then (c == 0, true) else if op = [33, 61] then (c != 0, true) else if op = [60] then (decide (c < 0), true) else if op = [60, 61] then (decide (c ≤ 0), true) else
  if op = [62] then (decide (0 < c), true) else if op = [62, 61] then (decide (0 ≤ c), true) else (false, false)
def cV : Cel V where
  cs := V.cs
  un := decV
  sz := 3
  un_cs := decV_cs
  cs_un _ _ h := decV_eq h
  len _ := rfl
  bl v n x hx := by
    simp [V.cs] at hx
    rcases hx with rfl | rfl | rfl <;> simp
theorem unL_V (l : List V) : unL cV (l.map V.cs) = some l := unL_map cV l
section
variable {K : Nat} {gw : World} {s : St}
attribute [local simp] awanted xop zOf cz zrow aop ev T0 Slots.put Slots.set Slots.get awr WOk AV.may ofConst abinop aint isConst St.get_push St.get_put St.live AV.fit AV.cells AV.one fieldOf afieldAddr aload ofCells astore splice May eqres env_ti FinP FinZ FinW ares aresL ares1 Fns.addP Fns.add Fns.a0 Fns.a1 Fns.a2 Fns.a3 Fns.a4 abuiltin alenOk alen aindex elemOfT elemId abuildSlice afill chunks ard aappend isSS AV.isStr aminmax placesOf abuild afield aidx isStrD isStrDesc astrop aslice asliceOk abound arange anext aextract aunop aeq AV.ck avseq aveq aconv aconvert onB_t onB_f List.range_succ ti0 ti1 ti2 ti3 ti4 ti5 ti6 ti7 ti8 ti9 ti10 ti11 ti12 ti13 ti14 ti15 ti16 ti17 ti18 ti19 ti20 ti21 ti22 ti23 ti24 ti25 ti26 ti27 ti28 ti29 ti30 ti31 ti32 ti33 ti34 ti35 ti36 ti37 ti38 ti39 ti40 ti41 ti42 ti43 ti44 ti45 ti46 ti47 ti48 ti49 ti50 ti51 ti52 ti53 ti54 ti55 ti56 ti57 ti58 ti59 ti60 ti61 ti62 ti63 ti64 ti65 ti66 ti67 ti68 ti69 ti70 ti71 ti72 ti73 ti74 ti75 ti76 ti77 ti78 ti79 ti80 ti81 ti82 ti83 ti84 ti85 ti86 ti87 ti88 ti89 ti90 ti91 ti92 ti93 ti94 ti95 ti96 ti97 ti98 ti99 ti100 ti101 ti102 ti103 ti104 ti105 ti106 ti107 ti108 ti109 ti110 ti111 ti112 ti113 ti114 ti115 ti116 ti117 ti118 ti119 ti120 ti121 ti122 ti123 ti124 ti125 ti126 ti127 ti128 ti129 ti130 ti131 ti132 ti133 ti134 ti135 ti136 ti137 ti138 ti139 ti140 ti141 ti142 ti143 ti144 ti145 ti146 ti147 ti148 ti149 ti150 ti151 ti152 ti153 ti154 ti155 ti156 ti157 ti158
theorem ft_Sym (x : Str) : FT (env K gw) NoW 84 [.str x] s (.agg (V.mk true x 0).cs) s := by
  refine FT.pure (fn := Try.f84) F0_ok mixed Try.func84 (by kernel_rfl) (by rfl) rfl rfl (by simp) rfl fun μ w => ?_
  repeat' (first
    | refine WP.t ?_ | refine WP.k ?_ | refine WP.e ?_ | refine Qn ?_ | refine Qr ?_ | refine Qe ?_ | refine Bn ?_ | refine Br ?_ | refine Be ?_ | refine Bx (by decide) ?_
    | (refine RS.nl ?_; refine hk _ _ ?_; clear hk k)
    | ((first | refine RS.st fun A B hA hB => ?_ | refine RQ.st fun A B hA hB => ?_); simp [onW_t, onW_t, onW_f, onV_s]; first | ((first | refine hA _ _ _ ?_ ?_ | refine hA _ _ _ ?_ (by first | exact .inl rfl | exact .inr (by decide)) ?_); (focus (simp [onW_t] <;> omega)); clear hA hB A B) | (refine hB ?_; clear hA hB A B) | (refine onV_if ?_ ?_; (focus (first | omega | (refine ⟨?_, ?_⟩ <;> omega))); simp only [onV_s]; (first | refine hA _ _ _ ?_ ?_ | refine hA _ _ _ ?_ (by first | exact .inl rfl | exact .inr (by decide)) ?_); (focus (simp [onW_t] <;> omega)); clear hA hB A B))
    | (refine RQ.nl ?_; refine hk _ _ ?_; clear hk k)
    | refine WP.sr fun k hk => ?_ | refine WP.r fun k hk => ?_
    | refine WP.sd _ rfl fun k hk => ?_ | refine WP.d _ rfl fun k hk => ?_
    | (refine WP.cc fun A B hA hB => ?_; simp [onW_t, onB_t, onB_f]; first | (refine hA ?_; clear hA hB A B) | (refine hB ?_; clear hA hB A B) | (refine onB_if (fun h => hA ?_) (fun h => hB ?_) <;> clear hA hB A B))
    | refine WP.q ?_ | refine WP.b ?_)
  simp [V.cs]
theorem ft_Int (n : Int) : FT (env K gw) NoW 85 [.int .i64 n] s (.agg (V.mk false [] n).cs) s := by
  refine FT.pure (fn := Try.f85) F0_ok mixed Try.func85 (by kernel_rfl) (by rfl) rfl rfl (by simp) rfl fun μ w => ?_
  repeat' (first
    | refine WP.t ?_ | refine WP.k ?_ | refine WP.e ?_ | refine Qn ?_ | refine Qr ?_ | refine Qe ?_ | refine Bn ?_ | refine Br ?_ | refine Be ?_ | refine Bx (by decide) ?_
    | (refine RS.nl ?_; refine hk _ _ ?_; clear hk k)
    | ((first | refine RS.st fun A B hA hB => ?_ | refine RQ.st fun A B hA hB => ?_); simp [onW_t, onW_t, onW_f, onV_s]; first | ((first | refine hA _ _ _ ?_ ?_ | refine hA _ _ _ ?_ (by first | exact .inl rfl | exact .inr (by decide)) ?_); (focus (simp [onW_t] <;> omega)); clear hA hB A B) | (refine hB ?_; clear hA hB A B) | (refine onV_if ?_ ?_; (focus (first | omega | (refine ⟨?_, ?_⟩ <;> omega))); simp only [onV_s]; (first | refine hA _ _ _ ?_ ?_ | refine hA _ _ _ ?_ (by first | exact .inl rfl | exact .inr (by decide)) ?_); (focus (simp [onW_t] <;> omega)); clear hA hB A B))
    | (refine RQ.nl ?_; refine hk _ _ ?_; clear hk k)
    | refine WP.sr fun k hk => ?_ | refine WP.r fun k hk => ?_
    | refine WP.sd _ rfl fun k hk => ?_ | refine WP.d _ rfl fun k hk => ?_
    | (refine WP.cc fun A B hA hB => ?_; simp [onW_t, onB_t, onB_f]; first | (refine hA ?_; clear hA hB A B) | (refine hB ?_; clear hA hB A B) | (refine onB_if (fun h => hA ?_) (fun h => hB ?_) <;> clear hA hB A B))
    | refine WP.q ?_ | refine WP.b ?_)
  simp [V.cs]
def F4a : Fns := (F4.a1 84 vStr fun x => some (.agg (V.mk true x 0).cs)).a1 85 (vInt .i64) fun n => some (.agg (V.mk false [] n).cs)
theorem F4a_ok : FOk (env K gw) F4a := by
  refine (F4_ok.a1 fun x s r h => ?_).a1 fun x s r h => ?_
  · cases h; exact ft_Sym x
  · cases h; exact ft_Int x
theorem ft_bare (v : V) : FT (env K gw) NoW 70 [.agg v.cs] s (.agg (bareV v).cs) s := by
  obtain ⟨b, x, n⟩ := v
  refine FT.pure (fn := Try.f70) F4a_ok mixed Try.func70 (by kernel_rfl) (by rfl) rfl rfl (by simp) rfl fun μ w => ?_
  cases b
  all_goals
    repeat' (first
      | refine WP.t ?_ | refine WP.k ?_ | refine WP.e ?_ | refine Qn ?_ | refine Qr ?_ | refine Qe ?_ | refine Bn ?_ | refine Br ?_ | refine Be ?_ | refine Bx (by decide) ?_
      | (refine RS.nl ?_; refine hk _ _ ?_; clear hk k)
      | ((first | refine RS.st fun A B hA hB => ?_ | refine RQ.st fun A B hA hB => ?_); simp [F4a, V.cs, onW_t, onW_f, onV_s]; first | ((first | refine hA _ _ _ ?_ ?_ | refine hA _ _ _ ?_ (by first | exact .inl rfl | exact .inr (by decide)) ?_); (focus (simp [F4a, V.cs] <;> omega)); clear hA hB A B) | (refine hB ?_; clear hA hB A B) | (refine onV_if ?_ ?_; (focus (first | omega | (refine ⟨?_, ?_⟩ <;> omega))); simp only [onV_s]; (first | refine hA _ _ _ ?_ ?_ | refine hA _ _ _ ?_ (by first | exact .inl rfl | exact .inr (by decide)) ?_); (focus (simp [F4a, V.cs] <;> omega)); clear hA hB A B))
      | (refine RQ.nl ?_; refine hk _ _ ?_; clear hk k)
      | refine WP.sr fun k hk => ?_ | refine WP.r fun k hk => ?_
      | refine WP.sd _ rfl fun k hk => ?_ | refine WP.d _ rfl fun k hk => ?_
      | (refine WP.cc fun A B hA hB => ?_; simp [F4a, V.cs, onB_t, onB_f]; first | (refine hA ?_; clear hA hB A B) | (refine hB ?_; clear hA hB A B) | (refine onB_if (fun h => hA ?_) (fun h => hB ?_) <;> clear hA hB A B))
      | refine WP.q ?_ | refine WP.b ?_)
    simp [bareV, V.cs]
theorem ft_Same (v w : V) : FT (env K gw) NoW 66 [.agg v.cs, .agg w.cs] s (.bool (cmpV v w == 0)) s := by
  obtain ⟨b, x, n⟩ := v
  obtain ⟨b', x', n'⟩ := w
  refine FT.pure (fn := Try.f66) F4a_ok mixed Try.func66 (by kernel_rfl) (by rfl) rfl rfl (by simp) rfl fun μ w => ?_
  repeat' (first
    | refine WP.t ?_ | refine WP.k ?_ | refine WP.e ?_ | refine Qn ?_ | refine Qr ?_ | refine Qe ?_ | refine Bn ?_ | refine Br ?_ | refine Be ?_ | refine Bx (by decide) ?_
    | (refine RS.nl ?_; refine hk _ _ ?_; clear hk k)
    | ((first | refine RS.st fun A B hA hB => ?_ | refine RQ.st fun A B hA hB => ?_); simp [F4a, F4, F3, pCmpV, V.cs, onW_t, onW_f, onV_s]; first | ((first | refine hA _ _ _ ?_ ?_ | refine hA _ _ _ ?_ (by first | exact .inl rfl | exact .inr (by decide)) ?_); (focus (simp [F4a, F4, F3, pCmpV, V.cs] <;> omega)); clear hA hB A B) | (refine hB ?_; clear hA hB A B) | (refine onV_if ?_ ?_; (focus (first | omega | (refine ⟨?_, ?_⟩ <;> omega))); simp only [onV_s]; (first | refine hA _ _ _ ?_ ?_ | refine hA _ _ _ ?_ (by first | exact .inl rfl | exact .inr (by decide)) ?_); (focus (simp [F4a, F4, F3, pCmpV, V.cs] <;> omega)); clear hA hB A B))
    | (refine RQ.nl ?_; refine hk _ _ ?_; clear hk k)
    | refine WP.sr fun k hk => ?_ | refine WP.r fun k hk => ?_
    | refine WP.sd _ rfl fun k hk => ?_ | refine WP.d _ rfl fun k hk => ?_
    | (refine WP.cc fun A B hA hB => ?_; simp [F4a, F4, F3, pCmpV, V.cs, onB_t, onB_f]; first | (refine hA ?_; clear hA hB A B) | (refine hB ?_; clear hA hB A B) | (refine onB_if (fun h => hA ?_) (fun h => hB ?_) <;> clear hA hB A B))
    | refine WP.q ?_ | refine WP.b ?_)
  simp
theorem ft_H1 (c : Int) : FT (env K gw) NoW 77 [.int .i64 c] s (.bool (c == 0)) s := by
  refine FT.pure (fn := Try.f77) F0_ok mixed Try.func77 (by kernel_rfl) (by rfl) rfl rfl (by simp) rfl fun μ w => ?_
  repeat' (first
    | refine WP.t ?_ | refine WP.k ?_ | refine WP.e ?_ | refine Qn ?_ | refine Qr ?_ | refine Qe ?_ | refine Bn ?_ | refine Br ?_ | refine Be ?_ | refine Bx (by decide) ?_
    | (refine RS.nl ?_; refine hk _ _ ?_; clear hk k)
    | ((first | refine RS.st fun A B hA hB => ?_ | refine RQ.st fun A B hA hB => ?_); simp [onW_t, onW_t, onW_f, onV_s]; first | ((first | refine hA _ _ _ ?_ ?_ | refine hA _ _ _ ?_ (by first | exact .inl rfl | exact .inr (by decide)) ?_); (focus (simp [onW_t] <;> omega)); clear hA hB A B) | (refine hB ?_; clear hA hB A B) | (refine onV_if ?_ ?_; (focus (first | omega | (refine ⟨?_, ?_⟩ <;> omega))); simp only [onV_s]; (first | refine hA _ _ _ ?_ ?_ | refine hA _ _ _ ?_ (by first | exact .inl rfl | exact .inr (by decide)) ?_); (focus (simp [onW_t] <;> omega)); clear hA hB A B))
    | (refine RQ.nl ?_; refine hk _ _ ?_; clear hk k)
    | refine WP.sr fun k hk => ?_ | refine WP.r fun k hk => ?_
    | refine WP.sd _ rfl fun k hk => ?_ | refine WP.d _ rfl fun k hk => ?_
    | (refine WP.cc fun A B hA hB => ?_; simp [onW_t, onB_t, onB_f]; first | (refine hA ?_; clear hA hB A B) | (refine hB ?_; clear hA hB A B) | (refine onB_if (fun h => hA ?_) (fun h => hB ?_) <;> clear hA hB A B))
    | refine WP.q ?_ | refine WP.b ?_)
  simp
theorem ft_H2 (c : Int) : FT (env K gw) NoW 78 [.int .i64 c] s (.bool (c != 0)) s := by
  refine FT.pure (fn := Try.f78) F0_ok mixed Try.func78 (by kernel_rfl) (by rfl) rfl rfl (by simp) rfl fun μ w => ?_
  repeat' (first
    | refine WP.t ?_ | refine WP.k ?_ | refine WP.e ?_ | refine Qn ?_ | refine Qr ?_ | refine Qe ?_ | refine Bn ?_ | refine Br ?_ | refine Be ?_ | refine Bx (by decide) ?_
    | (refine RS.nl ?_; refine hk _ _ ?_; clear hk k)
    | ((first | refine RS.st fun A B hA hB => ?_ | refine RQ.st fun A B hA hB => ?_); simp [onW_t, onW_t, onW_f, onV_s]; first | ((first | refine hA _ _ _ ?_ ?_ | refine hA _ _ _ ?_ (by first | exact .inl rfl | exact .inr (by decide)) ?_); (focus (simp [onW_t] <;> omega)); clear hA hB A B) | (refine hB ?_; clear hA hB A B) | (refine onV_if ?_ ?_; (focus (first | omega | (refine ⟨?_, ?_⟩ <;> omega))); simp only [onV_s]; (first | refine hA _ _ _ ?_ ?_ | refine hA _ _ _ ?_ (by first | exact .inl rfl | exact .inr (by decide)) ?_); (focus (simp [onW_t] <;> omega)); clear hA hB A B))
    | (refine RQ.nl ?_; refine hk _ _ ?_; clear hk k)
    | refine WP.sr fun k hk => ?_ | refine WP.r fun k hk => ?_
    | refine WP.sd _ rfl fun k hk => ?_ | refine WP.d _ rfl fun k hk => ?_
    | (refine WP.cc fun A B hA hB => ?_; simp [onW_t, onB_t, onB_f]; first | (refine hA ?_; clear hA hB A B) | (refine hB ?_; clear hA hB A B) | (refine onB_if (fun h => hA ?_) (fun h => hB ?_) <;> clear hA hB A B))
    | refine WP.q ?_ | refine WP.b ?_)
  simp
theorem ft_H3 (c : Int) : FT (env K gw) NoW 79 [.int .i64 c] s (.bool (decide (c < 0))) s := by
  refine FT.pure (fn := Try.f79) F0_ok mixed Try.func79 (by kernel_rfl) (by rfl) rfl rfl (by simp) rfl fun μ w => ?_
  repeat' (first
    | refine WP.t ?_ | refine WP.k ?_ | refine WP.e ?_ | refine Qn ?_ | refine Qr ?_ | refine Qe ?_ | refine Bn ?_ | refine Br ?_ | refine Be ?_ | refine Bx (by decide) ?_
    | (refine RS.nl ?_; refine hk _ _ ?_; clear hk k)
    | ((first | refine RS.st fun A B hA hB => ?_ | refine RQ.st fun A B hA hB => ?_); simp [onW_t, onW_t, onW_f, onV_s]; first | ((first | refine hA _ _ _ ?_ ?_ | refine hA _ _ _ ?_ (by first | exact .inl rfl | exact .inr (by decide)) ?_); (focus (simp [onW_t] <;> omega)); clear hA hB A B) | (refine hB ?_; clear hA hB A B) | (refine onV_if ?_ ?_; (focus (first | omega | (refine ⟨?_, ?_⟩ <;> omega))); simp only [onV_s]; (first | refine hA _ _ _ ?_ ?_ | refine hA _ _ _ ?_ (by first | exact .inl rfl | exact .inr (by decide)) ?_); (focus (simp [onW_t] <;> omega)); clear hA hB A B))
    | (refine RQ.nl ?_; refine hk _ _ ?_; clear hk k)
    | refine WP.sr fun k hk => ?_ | refine WP.r fun k hk => ?_
    | refine WP.sd _ rfl fun k hk => ?_ | refine WP.d _ rfl fun k hk => ?_
    | (refine WP.cc fun A B hA hB => ?_; simp [onW_t, onB_t, onB_f]; first | (refine hA ?_; clear hA hB A B) | (refine hB ?_; clear hA hB A B) | (refine onB_if (fun h => hA ?_) (fun h => hB ?_) <;> clear hA hB A B))
    | refine WP.q ?_ | refine WP.b ?_)
  simp
theorem ft_H4 (c : Int) : FT (env K gw) NoW 80 [.int .i64 c] s (.bool (decide (c ≤ 0))) s := by
  refine FT.pure (fn := Try.f80) F0_ok mixed Try.func80 (by kernel_rfl) (by rfl) rfl rfl (by simp) rfl fun μ w => ?_
  repeat' (first
    | refine WP.t ?_ | refine WP.k ?_ | refine WP.e ?_ | refine Qn ?_ | refine Qr ?_ | refine Qe ?_ | refine Bn ?_ | refine Br ?_ | refine Be ?_ | refine Bx (by decide) ?_
    | (refine RS.nl ?_; refine hk _ _ ?_; clear hk k)
    | ((first | refine RS.st fun A B hA hB => ?_ | refine RQ.st fun A B hA hB => ?_); simp [onW_t, onW_t, onW_f, onV_s]; first | ((first | refine hA _ _ _ ?_ ?_ | refine hA _ _ _ ?_ (by first | exact .inl rfl | exact .inr (by decide)) ?_); (focus (simp [onW_t] <;> omega)); clear hA hB A B) | (refine hB ?_; clear hA hB A B) | (refine onV_if ?_ ?_; (focus (first | omega | (refine ⟨?_, ?_⟩ <;> omega))); simp only [onV_s]; (first | refine hA _ _ _ ?_ ?_ | refine hA _ _ _ ?_ (by first | exact .inl rfl | exact .inr (by decide)) ?_); (focus (simp [onW_t] <;> omega)); clear hA hB A B))
    | (refine RQ.nl ?_; refine hk _ _ ?_; clear hk k)
    | refine WP.sr fun k hk => ?_ | refine WP.r fun k hk => ?_
    | refine WP.sd _ rfl fun k hk => ?_ | refine WP.d _ rfl fun k hk => ?_
    | (refine WP.cc fun A B hA hB => ?_; simp [onW_t, onB_t, onB_f]; first | (refine hA ?_; clear hA hB A B) | (refine hB ?_; clear hA hB A B) | (refine onB_if (fun h => hA ?_) (fun h => hB ?_) <;> clear hA hB A B))
    | refine WP.q ?_ | refine WP.b ?_)
  simp
theorem ft_H5 (c : Int) : FT (env K gw) NoW 81 [.int .i64 c] s (.bool (decide (0 < c))) s := by
  refine FT.pure (fn := Try.f81) F0_ok mixed Try.func81 (by kernel_rfl) (by rfl) rfl rfl (by simp) rfl fun μ w => ?_
  repeat' (first
    | refine WP.t ?_ | refine WP.k ?_ | refine WP.e ?_ | refine Qn ?_ | refine Qr ?_ | refine Qe ?_ | refine Bn ?_ | refine Br ?_ | refine Be ?_ | refine Bx (by decide) ?_
    | (refine RS.nl ?_; refine hk _ _ ?_; clear hk k)
    | ((first | refine RS.st fun A B hA hB => ?_ | refine RQ.st fun A B hA hB => ?_); simp [onW_t, onW_t, onW_f, onV_s]; first | ((first | refine hA _ _ _ ?_ ?_ | refine hA _ _ _ ?_ (by first | exact .inl rfl | exact .inr (by decide)) ?_); (focus (simp [onW_t] <;> omega)); clear hA hB A B) | (refine hB ?_; clear hA hB A B) | (refine onV_if ?_ ?_; (focus (first | omega | (refine ⟨?_, ?_⟩ <;> omega))); simp only [onV_s]; (first | refine hA _ _ _ ?_ ?_ | refine hA _ _ _ ?_ (by first | exact .inl rfl | exact .inr (by decide)) ?_); (focus (simp [onW_t] <;> omega)); clear hA hB A B))
    | (refine RQ.nl ?_; refine hk _ _ ?_; clear hk k)
    | refine WP.sr fun k hk => ?_ | refine WP.r fun k hk => ?_
    | refine WP.sd _ rfl fun k hk => ?_ | refine WP.d _ rfl fun k hk => ?_
    | (refine WP.cc fun A B hA hB => ?_; simp [onW_t, onB_t, onB_f]; first | (refine hA ?_; clear hA hB A B) | (refine hB ?_; clear hA hB A B) | (refine onB_if (fun h => hA ?_) (fun h => hB ?_) <;> clear hA hB A B))
    | refine WP.q ?_ | refine WP.b ?_)
  simp
theorem ft_H6 (c : Int) : FT (env K gw) NoW 82 [.int .i64 c] s (.bool (decide (0 ≤ c))) s := by
  refine FT.pure (fn := Try.f82) F0_ok mixed Try.func82 (by kernel_rfl) (by rfl) rfl rfl (by simp) rfl fun μ w => ?_
  repeat' (first
    | refine WP.t ?_ | refine WP.k ?_ | refine WP.e ?_ | refine Qn ?_ | refine Qr ?_ | refine Qe ?_ | refine Bn ?_ | refine Br ?_ | refine Be ?_ | refine Bx (by decide) ?_
    | (refine RS.nl ?_; refine hk _ _ ?_; clear hk k)
    | ((first | refine RS.st fun A B hA hB => ?_ | refine RQ.st fun A B hA hB => ?_); simp [onW_t, onW_t, onW_f, onV_s]; first | ((first | refine hA _ _ _ ?_ ?_ | refine hA _ _ _ ?_ (by first | exact .inl rfl | exact .inr (by decide)) ?_); (focus (simp [onW_t] <;> omega)); clear hA hB A B) | (refine hB ?_; clear hA hB A B) | (refine onV_if ?_ ?_; (focus (first | omega | (refine ⟨?_, ?_⟩ <;> omega))); simp only [onV_s]; (first | refine hA _ _ _ ?_ ?_ | refine hA _ _ _ ?_ (by first | exact .inl rfl | exact .inr (by decide)) ?_); (focus (simp [onW_t] <;> omega)); clear hA hB A B))
    | (refine RQ.nl ?_; refine hk _ _ ?_; clear hk k)
    | refine WP.sr fun k hk => ?_ | refine WP.r fun k hk => ?_
    | refine WP.sd _ rfl fun k hk => ?_ | refine WP.d _ rfl fun k hk => ?_
    | (refine WP.cc fun A B hA hB => ?_; simp [onW_t, onB_t, onB_f]; first | (refine hA ?_; clear hA hB A B) | (refine hB ?_; clear hA hB A B) | (refine onB_if (fun h => hA ?_) (fun h => hB ?_) <;> clear hA hB A B))
    | refine WP.q ?_ | refine WP.b ?_)
  simp
def F4b : Fns := (((((((F4a.a1 70 (vAgg cV) fun v => some (.agg (bareV v).cs)).a2 66 (vAgg cV) (vAgg cV) fun v w => some (.bool (cmpV v w == 0))).a1 77 (vInt .i64) fun c => some (.bool (c == 0))).a1 78 (vInt .i64) fun c => some (.bool (c != 0))).a1 79 (vInt .i64) fun c => some (.bool (decide (c < 0)))).a1 80 (vInt .i64) fun c => some (.bool (decide (c ≤ 0)))).a1 81 (vInt .i64) fun c => some (.bool (decide (0 < c)))).a1 82 (vInt .i64) fun c => some (.bool (decide (0 ≤ c)))
theorem F4b_ok : FOk (env K gw) F4b := by
  refine (((((((F4a_ok.a1 fun x s r h => ?_).a2 fun x y s r h => ?_).a1 fun x s r h => ?_).a1 fun x s r h => ?_).a1 fun x s r h => ?_).a1 fun x s r h => ?_).a1 fun x s r h => ?_).a1 fun x s r h => ?_
  · cases h; exact ft_bare x
  · cases h; exact ft_Same x y
  · cases h; exact ft_H1 x
  · cases h; exact ft_H2 x
  · cases h; exact ft_H3 x
  · cases h; exact ft_H4 x
  · cases h; exact ft_H5 x
  · cases h; exact ft_H6 x
end
end Go.Am
namespace Go.Am
open Go.Proofs
section
variable {K : Nat} {gw : World} {s : St}
attribute [local simp] awanted xop zOf cz zrow aop ev T0 Slots.put Slots.set Slots.get awr WOk AV.may ofConst abinop aint isConst St.get_push St.get_put St.live AV.fit AV.cells AV.one fieldOf afieldAddr aload ofCells astore splice May eqres env_ti FinP FinZ FinW ares aresL ares1 Fns.addP Fns.add Fns.a0 Fns.a1 Fns.a2 Fns.a3 Fns.a4 abuiltin alenOk alen aindex elemOfT elemId abuildSlice afill chunks ard aappend isSS AV.isStr aminmax placesOf abuild afield aidx isStrD isStrDesc astrop aslice asliceOk abound arange anext aextract aunop aeq AV.ck avseq aveq aconv aconvert onB_t onB_f List.range_succ ti0 ti1 ti2 ti3 ti4 ti5 ti6 ti7 ti8 ti9 ti10 ti11 ti12 ti13 ti14 ti15 ti16 ti17 ti18 ti19 ti20 ti21 ti22 ti23 ti24 ti25 ti26 ti27 ti28 ti29 ti30 ti31 ti32 ti33 ti34 ti35 ti36 ti37 ti38 ti39 ti40 ti41 ti42 ti43 ti44 ti45 ti46 ti47 ti48 ti49 ti50 ti51 ti52 ti53 ti54 ti55 ti56 ti57 ti58 ti59 ti60 ti61 ti62 ti63 ti64 ti65 ti66 ti67 ti68 ti69 ti70 ti71 ti72 ti73 ti74 ti75 ti76 ti77 ti78 ti79 ti80 ti81 ti82 ti83 ti84 ti85 ti86 ti87 ti88 ti89 ti90 ti91 ti92 ti93 ti94 ti95 ti96 ti97 ti98 ti99 ti100 ti101 ti102 ti103 ti104 ti105 ti106 ti107 ti108 ti109 ti110 ti111 ti112 ti113 ti114 ti115 ti116 ti117 ti118 ti119 ti120 ti121 ti122 ti123 ti124 ti125 ti126 ti127 ti128 ti129 ti130 ti131 ti132 ti133 ti134 ti135 ti136 ti137 ti138 ti139 ti140 ti141 ti142 ti143 ti144 ti145 ti146 ti147 ti148 ti149 ti150 ti151 ti152 ti153 ti154 ti155 ti156 ti157 ti158
set_option maxHeartbeats 4000000 in
theorem ft_Holds (op : Str) (v w : V) : FT (env K gw) NoW 67 [.str op, .agg v.cs, .agg w.cs] s (.tup [.bool (opH op (cmpV v w)).1, .bool (opH op (cmpV v w)).2]) s := by
  obtain ⟨b, x, n⟩ := v
  obtain ⟨b', x', n'⟩ := w
  refine FT.pure (fn := Try.f67) F4b_ok mixed Try.func67 (by kernel_rfl) (by rfl) rfl rfl (by simp) rfl fun μ w => ?_
  generalize hc : cmpV ⟨b, x, n⟩ ⟨b', x', n'⟩ = c
  by_cases h1 : op = [61]
  · subst h1
    repeat' (first
      | refine WP_unroll ?_
      | refine WP.t ?_ | refine WP.k ?_ | refine WP.e ?_ | refine Qn ?_ | refine Qr ?_ | refine Qe ?_ | refine Bn ?_ | refine Br ?_ | refine Be ?_ | refine Bx (by decide) ?_
      | (refine RS.nl ?_; refine hk _ _ ?_; clear hk k)
      | ((first | refine RS.st fun A B hA hB => ?_ | refine RQ.st fun A B hA hB => ?_); simp [F4b, F4a, F4, F3, pCmpV, V.cs, hc, onW_t, onW_f, onV_s]; first | ((first | refine hA _ _ _ ?_ ?_ | refine hA _ _ _ ?_ (by first | exact .inl rfl | exact .inr (by decide)) ?_); (focus (simp [F4b, F4a, F4, F3, pCmpV, V.cs, hc] <;> omega)); clear hA hB A B) | (refine hB ?_; clear hA hB A B) | (refine onV_if ?_ ?_; (focus (first | omega | (refine ⟨?_, ?_⟩ <;> omega))); simp only [onV_s]; (first | refine hA _ _ _ ?_ ?_ | refine hA _ _ _ ?_ (by first | exact .inl rfl | exact .inr (by decide)) ?_); (focus (simp [F4b, F4a, F4, F3, pCmpV, V.cs, hc] <;> omega)); clear hA hB A B))
      | (refine RQ.nl ?_; refine hk _ _ ?_; clear hk k)
      | refine WP.sr fun k hk => ?_ | refine WP.r fun k hk => ?_
      | refine WP.sd _ rfl fun k hk => ?_ | refine WP.d _ rfl fun k hk => ?_
      | (refine WP.cc fun A B hA hB => ?_; simp [F4b, F4a, F4, F3, pCmpV, V.cs, hc, onB_t, onB_f]; first | (refine hA ?_; clear hA hB A B) | (refine hB ?_; clear hA hB A B) | (refine onB_if (fun h => hA ?_) (fun h => hB ?_) <;> clear hA hB A B))
      | refine WP.q ?_ | refine WP.b ?_)
    simp [opH]
  by_cases h2 : op = [33, 61]
  · subst h2
    repeat' (first
      | refine WP_unroll ?_
      | refine WP.t ?_ | refine WP.k ?_ | refine WP.e ?_ | refine Qn ?_ | refine Qr ?_ | refine Qe ?_ | refine Bn ?_ | refine Br ?_ | refine Be ?_ | refine Bx (by decide) ?_
      | (refine RS.nl ?_; refine hk _ _ ?_; clear hk k)
      | ((first | refine RS.st fun A B hA hB => ?_ | refine RQ.st fun A B hA hB => ?_); simp [F4b, F4a, F4, F3, pCmpV, V.cs, hc, onW_t, onW_f, onV_s]; first | ((first | refine hA _ _ _ ?_ ?_ | refine hA _ _ _ ?_ (by first | exact .inl rfl | exact .inr (by decide)) ?_); (focus (simp [F4b, F4a, F4, F3, pCmpV, V.cs, hc] <;> omega)); clear hA hB A B) | (refine hB ?_; clear hA hB A B) | (refine onV_if ?_ ?_; (focus (first | omega | (refine ⟨?_, ?_⟩ <;> omega))); simp only [onV_s]; (first | refine hA _ _ _ ?_ ?_ | refine hA _ _ _ ?_ (by first | exact .inl rfl | exact .inr (by decide)) ?_); (focus (simp [F4b, F4a, F4, F3, pCmpV, V.cs, hc] <;> omega)); clear hA hB A B))
      | (refine RQ.nl ?_; refine hk _ _ ?_; clear hk k)
      | refine WP.sr fun k hk => ?_ | refine WP.r fun k hk => ?_
      | refine WP.sd _ rfl fun k hk => ?_ | refine WP.d _ rfl fun k hk => ?_
      | (refine WP.cc fun A B hA hB => ?_; simp [F4b, F4a, F4, F3, pCmpV, V.cs, hc, onB_t, onB_f]; first | (refine hA ?_; clear hA hB A B) | (refine hB ?_; clear hA hB A B) | (refine onB_if (fun h => hA ?_) (fun h => hB ?_) <;> clear hA hB A B))
      | refine WP.q ?_ | refine WP.b ?_)
    simp [opH]
  by_cases h3 : op = [60]
  · subst h3
    repeat' (first
      | refine WP_unroll ?_
      | refine WP.t ?_ | refine WP.k ?_ | refine WP.e ?_ | refine Qn ?_ | refine Qr ?_ | refine Qe ?_ | refine Bn ?_ | refine Br ?_ | refine Be ?_ | refine Bx (by decide) ?_
      | (refine RS.nl ?_; refine hk _ _ ?_; clear hk k)
      | ((first | refine RS.st fun A B hA hB => ?_ | refine RQ.st fun A B hA hB => ?_); simp [F4b, F4a, F4, F3, pCmpV, V.cs, hc, onW_t, onW_f, onV_s]; first | ((first | refine hA _ _ _ ?_ ?_ | refine hA _ _ _ ?_ (by first | exact .inl rfl | exact .inr (by decide)) ?_); (focus (simp [F4b, F4a, F4, F3, pCmpV, V.cs, hc] <;> omega)); clear hA hB A B) | (refine hB ?_; clear hA hB A B) | (refine onV_if ?_ ?_; (focus (first | omega | (refine ⟨?_, ?_⟩ <;> omega))); simp only [onV_s]; (first | refine hA _ _ _ ?_ ?_ | refine hA _ _ _ ?_ (by first | exact .inl rfl | exact .inr (by decide)) ?_); (focus (simp [F4b, F4a, F4, F3, pCmpV, V.cs, hc] <;> omega)); clear hA hB A B))
      | (refine RQ.nl ?_; refine hk _ _ ?_; clear hk k)
      | refine WP.sr fun k hk => ?_ | refine WP.r fun k hk => ?_
      | refine WP.sd _ rfl fun k hk => ?_ | refine WP.d _ rfl fun k hk => ?_
      | (refine WP.cc fun A B hA hB => ?_; simp [F4b, F4a, F4, F3, pCmpV, V.cs, hc, onB_t, onB_f]; first | (refine hA ?_; clear hA hB A B) | (refine hB ?_; clear hA hB A B) | (refine onB_if (fun h => hA ?_) (fun h => hB ?_) <;> clear hA hB A B))
      | refine WP.q ?_ | refine WP.b ?_)
    simp [opH]
  by_cases h4 : op = [60, 61]
  · subst h4
    repeat' (first
      | refine WP_unroll ?_
      | refine WP.t ?_ | refine WP.k ?_ | refine WP.e ?_ | refine Qn ?_ | refine Qr ?_ | refine Qe ?_ | refine Bn ?_ | refine Br ?_ | refine Be ?_ | refine Bx (by decide) ?_
      | (refine RS.nl ?_; refine hk _ _ ?_; clear hk k)
      | ((first | refine RS.st fun A B hA hB => ?_ | refine RQ.st fun A B hA hB => ?_); simp [F4b, F4a, F4, F3, pCmpV, V.cs, hc, onW_t, onW_f, onV_s]; first | ((first | refine hA _ _ _ ?_ ?_ | refine hA _ _ _ ?_ (by first | exact .inl rfl | exact .inr (by decide)) ?_); (focus (simp [F4b, F4a, F4, F3, pCmpV, V.cs, hc] <;> omega)); clear hA hB A B) | (refine hB ?_; clear hA hB A B) | (refine onV_if ?_ ?_; (focus (first | omega | (refine ⟨?_, ?_⟩ <;> omega))); simp only [onV_s]; (first | refine hA _ _ _ ?_ ?_ | refine hA _ _ _ ?_ (by first | exact .inl rfl | exact .inr (by decide)) ?_); (focus (simp [F4b, F4a, F4, F3, pCmpV, V.cs, hc] <;> omega)); clear hA hB A B))
      | (refine RQ.nl ?_; refine hk _ _ ?_; clear hk k)
      | refine WP.sr fun k hk => ?_ | refine WP.r fun k hk => ?_
      | refine WP.sd _ rfl fun k hk => ?_ | refine WP.d _ rfl fun k hk => ?_
      | (refine WP.cc fun A B hA hB => ?_; simp [F4b, F4a, F4, F3, pCmpV, V.cs, hc, onB_t, onB_f]; first | (refine hA ?_; clear hA hB A B) | (refine hB ?_; clear hA hB A B) | (refine onB_if (fun h => hA ?_) (fun h => hB ?_) <;> clear hA hB A B))
      | refine WP.q ?_ | refine WP.b ?_)
    simp [opH]
  by_cases h5 : op = [62]
  · subst h5
    repeat' (first
      | refine WP_unroll ?_
      | refine WP.t ?_ | refine WP.k ?_ | refine WP.e ?_ | refine Qn ?_ | refine Qr ?_ | refine Qe ?_ | refine Bn ?_ | refine Br ?_ | refine Be ?_ | refine Bx (by decide) ?_
      | (refine RS.nl ?_; refine hk _ _ ?_; clear hk k)
      | ((first | refine RS.st fun A B hA hB => ?_ | refine RQ.st fun A B hA hB => ?_); simp [F4b, F4a, F4, F3, pCmpV, V.cs, hc, onW_t, onW_f, onV_s]; first | ((first | refine hA _ _ _ ?_ ?_ | refine hA _ _ _ ?_ (by first | exact .inl rfl | exact .inr (by decide)) ?_); (focus (simp [F4b, F4a, F4, F3, pCmpV, V.cs, hc] <;> omega)); clear hA hB A B) | (refine hB ?_; clear hA hB A B) | (refine onV_if ?_ ?_; (focus (first | omega | (refine ⟨?_, ?_⟩ <;> omega))); simp only [onV_s]; (first | refine hA _ _ _ ?_ ?_ | refine hA _ _ _ ?_ (by first | exact .inl rfl | exact .inr (by decide)) ?_); (focus (simp [F4b, F4a, F4, F3, pCmpV, V.cs, hc] <;> omega)); clear hA hB A B))
      | (refine RQ.nl ?_; refine hk _ _ ?_; clear hk k)
      | refine WP.sr fun k hk => ?_ | refine WP.r fun k hk => ?_
      | refine WP.sd _ rfl fun k hk => ?_ | refine WP.d _ rfl fun k hk => ?_
      | (refine WP.cc fun A B hA hB => ?_; simp [F4b, F4a, F4, F3, pCmpV, V.cs, hc, onB_t, onB_f]; first | (refine hA ?_; clear hA hB A B) | (refine hB ?_; clear hA hB A B) | (refine onB_if (fun h => hA ?_) (fun h => hB ?_) <;> clear hA hB A B))
      | refine WP.q ?_ | refine WP.b ?_)
    simp [opH]
  by_cases h6 : op = [62, 61]
  · subst h6
    repeat' (first
      | refine WP_unroll ?_
      | refine WP.t ?_ | refine WP.k ?_ | refine WP.e ?_ | refine Qn ?_ | refine Qr ?_ | refine Qe ?_ | refine Bn ?_ | refine Br ?_ | refine Be ?_ | refine Bx (by decide) ?_
      | (refine RS.nl ?_; refine hk _ _ ?_; clear hk k)
      | ((first | refine RS.st fun A B hA hB => ?_ | refine RQ.st fun A B hA hB => ?_); simp [F4b, F4a, F4, F3, pCmpV, V.cs, hc, onW_t, onW_f, onV_s]; first | ((first | refine hA _ _ _ ?_ ?_ | refine hA _ _ _ ?_ (by first | exact .inl rfl | exact .inr (by decide)) ?_); (focus (simp [F4b, F4a, F4, F3, pCmpV, V.cs, hc] <;> omega)); clear hA hB A B) | (refine hB ?_; clear hA hB A B) | (refine onV_if ?_ ?_; (focus (first | omega | (refine ⟨?_, ?_⟩ <;> omega))); simp only [onV_s]; (first | refine hA _ _ _ ?_ ?_ | refine hA _ _ _ ?_ (by first | exact .inl rfl | exact .inr (by decide)) ?_); (focus (simp [F4b, F4a, F4, F3, pCmpV, V.cs, hc] <;> omega)); clear hA hB A B))
      | (refine RQ.nl ?_; refine hk _ _ ?_; clear hk k)
      | refine WP.sr fun k hk => ?_ | refine WP.r fun k hk => ?_
      | refine WP.sd _ rfl fun k hk => ?_ | refine WP.d _ rfl fun k hk => ?_
      | (refine WP.cc fun A B hA hB => ?_; simp [F4b, F4a, F4, F3, pCmpV, V.cs, hc, onB_t, onB_f]; first | (refine hA ?_; clear hA hB A B) | (refine hB ?_; clear hA hB A B) | (refine onB_if (fun h => hA ?_) (fun h => hB ?_) <;> clear hA hB A B))
      | refine WP.q ?_ | refine WP.b ?_)
    simp [opH]
  have e1 : ([61] == op) = false := beq_eq_false_iff_ne.2 (Ne.symm h1)
  have e2 : ([33, 61] == op) = false := beq_eq_false_iff_ne.2 (Ne.symm h2)
  have e3 : ([60] == op) = false := beq_eq_false_iff_ne.2 (Ne.symm h3)
  have e4 : ([60, 61] == op) = false := beq_eq_false_iff_ne.2 (Ne.symm h4)
  have e5 : ([62] == op) = false := beq_eq_false_iff_ne.2 (Ne.symm h5)
  have e6 : ([62, 61] == op) = false := beq_eq_false_iff_ne.2 (Ne.symm h6)
  repeat' (first
    | refine WP_unroll ?_
    | refine WP.t ?_ | refine WP.k ?_ | refine WP.e ?_ | refine Qn ?_ | refine Qr ?_ | refine Qe ?_ | refine Bn ?_ | refine Br ?_ | refine Be ?_ | refine Bx (by decide) ?_
    | (refine RS.nl ?_; refine hk _ _ ?_; clear hk k)
    | ((first | refine RS.st fun A B hA hB => ?_ | refine RQ.st fun A B hA hB => ?_); simp [F4b, F4a, F4, F3, pCmpV, V.cs, hc, e1, e2, e3, e4, e5, e6, onW_t, onW_f, onV_s]; first | ((first | refine hA _ _ _ ?_ ?_ | refine hA _ _ _ ?_ (by first | exact .inl rfl | exact .inr (by decide)) ?_); (focus (simp [F4b, F4a, F4, F3, pCmpV, V.cs, hc, e1, e2, e3, e4, e5, e6] <;> omega)); clear hA hB A B) | (refine hB ?_; clear hA hB A B) | (refine onV_if ?_ ?_; (focus (first | omega | (refine ⟨?_, ?_⟩ <;> omega))); simp only [onV_s]; (first | refine hA _ _ _ ?_ ?_ | refine hA _ _ _ ?_ (by first | exact .inl rfl | exact .inr (by decide)) ?_); (focus (simp [F4b, F4a, F4, F3, pCmpV, V.cs, hc, e1, e2, e3, e4, e5, e6] <;> omega)); clear hA hB A B))
    | (refine RQ.nl ?_; refine hk _ _ ?_; clear hk k)
    | refine WP.sr fun k hk => ?_ | refine WP.r fun k hk => ?_
    | refine WP.sd _ rfl fun k hk => ?_ | refine WP.d _ rfl fun k hk => ?_
    | (refine WP.cc fun A B hA hB => ?_; simp [F4b, F4a, F4, F3, pCmpV, V.cs, hc, e1, e2, e3, e4, e5, e6, onB_t, onB_f]; first | (refine hA ?_; clear hA hB A B) | (refine hB ?_; clear hA hB A B) | (refine onB_if (fun h => hA ?_) (fun h => hB ?_) <;> clear hA hB A B))
    | refine WP.q ?_ | refine WP.b ?_)
  simp [opH, h1, h2, h3, h4, h5, h6]
def F4c : Fns := F4b.a3 67 vStr (vAgg cV) (vAgg cV) fun op v w => some (.tup [.bool (opH op (cmpV v w)).1, .bool (opH op (cmpV v w)).2])
theorem F4c_ok : FOk (env K gw) F4c := F4b_ok.a3 fun op v w s r h => by cases h; exact ft_Holds op v w
end
end Go.Am
