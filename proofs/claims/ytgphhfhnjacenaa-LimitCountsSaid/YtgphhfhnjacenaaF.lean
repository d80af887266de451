/-
  Closed facts on the seat's program: its types and functions, for the abstract logic.
-/
import Derived.Test.YtgphhfhnjacenaaProg
import Derived.Test.YtgphhfhnjacenaaAL12
import Derived.KernelRfl
set_option linter.unusedSimpArgs false
set_option linter.unusedVariables false
namespace Go.Proofs.Ytgphhfhnjacenaa
open Go Go.AL Go.Proofs
set_option maxRecDepth 100000
theorem follows : Try.prog.follows .mixedOrders = true := by kernel_rfl
@[simp] theorem tinfo_0 : tinfo Try.prog 0 = some (1, false) := by kernel_rfl
@[simp] theorem tinfo_2 : tinfo Try.prog 2 = some (1, false) := by kernel_rfl
@[simp] theorem zeroA_2 : zeroA Try.prog 2 = some [.int .i64 (0)] := by kernel_rfl
@[simp] theorem tinfo_3 : tinfo Try.prog 3 = some (1, false) := by kernel_rfl
@[simp] theorem zeroA_3 : zeroA Try.prog 3 = some [.int .i64 (0)] := by kernel_rfl
@[simp] theorem tinfo_4 : tinfo Try.prog 4 = some (1, false) := by kernel_rfl
@[simp] theorem zeroA_4 : zeroA Try.prog 4 = some [.bool false] := by kernel_rfl
@[simp] theorem isBoolT_4 : isBoolT Try.prog 4 = true := by kernel_rfl
@[simp] theorem tinfo_6 : tinfo Try.prog 6 = some (1, false) := by kernel_rfl
@[simp] theorem zeroA_6 : zeroA Try.prog 6 = some [.int .u8 (0)] := by kernel_rfl
@[simp] theorem tinfo_8 : tinfo Try.prog 8 = some (4, true) := by kernel_rfl
@[simp] theorem fldT_8_0 : fldT Try.prog 8 0 = some (0, 2, 1) := by kernel_rfl
@[simp] theorem placeT_8_0 : placeT Try.prog 8 0 = some (0, 1) := by kernel_rfl
@[simp] theorem fldT_8_1 : fldT Try.prog 8 1 = some (1, 3, 1) := by kernel_rfl
@[simp] theorem placeT_8_1 : placeT Try.prog 8 1 = some (1, 1) := by kernel_rfl
@[simp] theorem fldT_8_2 : fldT Try.prog 8 2 = some (2, 4, 1) := by kernel_rfl
@[simp] theorem placeT_8_2 : placeT Try.prog 8 2 = some (2, 1) := by kernel_rfl
@[simp] theorem fldT_8_3 : fldT Try.prog 8 3 = some (3, 6, 1) := by kernel_rfl
@[simp] theorem placeT_8_3 : placeT Try.prog 8 3 = some (3, 1) := by kernel_rfl
@[simp] theorem flatK_8 : flatK Try.prog 8 = some [.int, .int, .bool, .int] := by kernel_rfl
@[simp] theorem zeroA_8 : zeroA Try.prog 8 = some [.int .i64 (0), .int .i64 (0), .bool false, .int .u8 (0)] := by kernel_rfl
@[simp] theorem fieldsOk_8 : fieldsOk Try.prog 8 = true := by kernel_rfl
@[simp] theorem tinfo_9 : tinfo Try.prog 9 = some (1, false) := by kernel_rfl
@[simp] theorem elemT_9 : elemT Try.prog 9 = some (.string, 0, 1) := by kernel_rfl
@[simp] theorem zeroA_9 : zeroA Try.prog 9 = some [.str []] := by kernel_rfl
@[simp] theorem tinfo_10 : tinfo Try.prog 10 = some (1, false) := by kernel_rfl
@[simp] theorem elemT_10 : elemT Try.prog 10 = some (.string, 0, 1) := by kernel_rfl
@[simp] theorem zeroA_10 : zeroA Try.prog 10 = some [.str []] := by kernel_rfl
@[simp] theorem tinfo_11 : tinfo Try.prog 11 = some (1, false) := by kernel_rfl
@[simp] theorem elemT_11 : elemT Try.prog 11 = some (.string, 0, 1) := by kernel_rfl
@[simp] theorem zeroA_11 : zeroA Try.prog 11 = some [.str []] := by kernel_rfl
@[simp] theorem tinfo_12 : tinfo Try.prog 12 = some (1, false) := by kernel_rfl
@[simp] theorem zeroA_12 : zeroA Try.prog 12 = some [.int .u64 (0)] := by kernel_rfl
@[simp] theorem tinfo_14 : tinfo Try.prog 14 = some (2, true) := by kernel_rfl
@[simp] theorem fldT_14_0 : fldT Try.prog 14 0 = some (0, 9, 1) := by kernel_rfl
@[simp] theorem placeT_14_0 : placeT Try.prog 14 0 = some (0, 1) := by kernel_rfl
@[simp] theorem fldT_14_1 : fldT Try.prog 14 1 = some (1, 12, 1) := by kernel_rfl
@[simp] theorem placeT_14_1 : placeT Try.prog 14 1 = some (1, 1) := by kernel_rfl
@[simp] theorem flatK_14 : flatK Try.prog 14 = none := by kernel_rfl
@[simp] theorem zeroA_14 : zeroA Try.prog 14 = some [.str [], .int .u64 (0)] := by kernel_rfl
@[simp] theorem fieldsOk_14 : fieldsOk Try.prog 14 = true := by kernel_rfl
@[simp] theorem tinfo_15 : tinfo Try.prog 15 = some (1, false) := by kernel_rfl
@[simp] theorem zeroA_15 : zeroA Try.prog 15 = some [.nilp] := by kernel_rfl
@[simp] theorem isPtrT_15 : isPtrT Try.prog 15 = true := by kernel_rfl
@[simp] theorem tinfo_16 : tinfo Try.prog 16 = some (1, false) := by kernel_rfl
@[simp] theorem zeroA_16 : zeroA Try.prog 16 = some [.nilp] := by kernel_rfl
@[simp] theorem isPtrT_16 : isPtrT Try.prog 16 = true := by kernel_rfl
@[simp] theorem tinfo_17 : tinfo Try.prog 17 = some (1, false) := by kernel_rfl
@[simp] theorem zeroA_17 : zeroA Try.prog 17 = some [.nilp] := by kernel_rfl
@[simp] theorem isPtrT_17 : isPtrT Try.prog 17 = true := by kernel_rfl
@[simp] theorem tinfo_19 : tinfo Try.prog 19 = some (1, true) := by kernel_rfl
@[simp] theorem fldT_19_0 : fldT Try.prog 19 0 = some (0, 17, 1) := by kernel_rfl
@[simp] theorem placeT_19_0 : placeT Try.prog 19 0 = some (0, 1) := by kernel_rfl
@[simp] theorem flatK_19 : flatK Try.prog 19 = none := by kernel_rfl
@[simp] theorem zeroA_19 : zeroA Try.prog 19 = some [.nilp] := by kernel_rfl
@[simp] theorem fieldsOk_19 : fieldsOk Try.prog 19 = true := by kernel_rfl
@[simp] theorem tinfo_23 : tinfo Try.prog 23 = some (4, true) := by kernel_rfl
@[simp] theorem fldT_23_0 : fldT Try.prog 23 0 = some (0, 3, 1) := by kernel_rfl
@[simp] theorem placeT_23_0 : placeT Try.prog 23 0 = some (0, 1) := by kernel_rfl
@[simp] theorem fldT_23_1 : fldT Try.prog 23 1 = some (1, 3, 1) := by kernel_rfl
@[simp] theorem placeT_23_1 : placeT Try.prog 23 1 = some (1, 1) := by kernel_rfl
@[simp] theorem fldT_23_2 : fldT Try.prog 23 2 = some (2, 3, 1) := by kernel_rfl
@[simp] theorem placeT_23_2 : placeT Try.prog 23 2 = some (2, 1) := by kernel_rfl
@[simp] theorem fldT_23_3 : fldT Try.prog 23 3 = some (3, 3, 1) := by kernel_rfl
@[simp] theorem placeT_23_3 : placeT Try.prog 23 3 = some (3, 1) := by kernel_rfl
@[simp] theorem flatK_23 : flatK Try.prog 23 = some [.int, .int, .int, .int] := by kernel_rfl
@[simp] theorem zeroA_23 : zeroA Try.prog 23 = some [.int .i64 (0), .int .i64 (0), .int .i64 (0), .int .i64 (0)] := by kernel_rfl
@[simp] theorem fieldsOk_23 : fieldsOk Try.prog 23 = true := by kernel_rfl
@[simp] theorem tinfo_27 : tinfo Try.prog 27 = some (3, true) := by kernel_rfl
@[simp] theorem elemT_27 : elemT Try.prog 27 = some (.array 3, 3, 1) := by kernel_rfl
@[simp] theorem placeT_27 (i : Nat) : placeT Try.prog 27 i = some (i * 1, 1) := placeT_array elemT_27 i
@[simp] theorem zeroA_27 : zeroA Try.prog 27 = some [.int .i64 (0), .int .i64 (0), .int .i64 (0)] := by kernel_rfl
@[simp] theorem fieldsOk_27 : fieldsOk Try.prog 27 = true := by kernel_rfl
@[simp] theorem tinfo_28 : tinfo Try.prog 28 = some (12, true) := by kernel_rfl
@[simp] theorem elemT_28 : elemT Try.prog 28 = some (.array 4, 27, 3) := by kernel_rfl
@[simp] theorem placeT_28 (i : Nat) : placeT Try.prog 28 i = some (i * 3, 3) := placeT_array elemT_28 i
@[simp] theorem zeroA_28 : zeroA Try.prog 28 = some [.int .i64 (0), .int .i64 (0), .int .i64 (0), .int .i64 (0), .int .i64 (0), .int .i64 (0), .int .i64 (0), .int .i64 (0), .int .i64 (0), .int .i64 (0), .int .i64 (0), .int .i64 (0)] := by kernel_rfl
@[simp] theorem fieldsOk_28 : fieldsOk Try.prog 28 = true := by kernel_rfl
@[simp] theorem tinfo_29 : tinfo Try.prog 29 = some (1, false) := by kernel_rfl
@[simp] theorem zeroA_29 : zeroA Try.prog 29 = some [.nilp] := by kernel_rfl
@[simp] theorem isPtrT_29 : isPtrT Try.prog 29 = true := by kernel_rfl
@[simp] theorem tinfo_32 : tinfo Try.prog 32 = some (4, true) := by kernel_rfl
@[simp] theorem elemT_32 : elemT Try.prog 32 = some (.array 4, 9, 1) := by kernel_rfl
@[simp] theorem placeT_32 (i : Nat) : placeT Try.prog 32 i = some (i * 1, 1) := placeT_array elemT_32 i
@[simp] theorem zeroA_32 : zeroA Try.prog 32 = some [.str [], .str [], .str [], .str []] := by kernel_rfl
@[simp] theorem fieldsOk_32 : fieldsOk Try.prog 32 = true := by kernel_rfl
@[simp] theorem tinfo_35 : tinfo Try.prog 35 = some (1, false) := by kernel_rfl
@[simp] theorem elemT_35 : elemT Try.prog 35 = some (.slice, 3, 1) := by kernel_rfl
@[simp] theorem zeroA_35 : zeroA Try.prog 35 = some [.list 1 [] .nil] := by kernel_rfl
@[simp] theorem isSliceT_35 : isSliceT Try.prog 35 = true := by kernel_rfl
@[simp] theorem elSz_35 : elSz Try.prog 35 = some 1 := by kernel_rfl
@[simp] theorem tinfo_36 : tinfo Try.prog 36 = some (1, false) := by kernel_rfl
@[simp] theorem zeroA_36 : zeroA Try.prog 36 = some [.int .i64 (0)] := by kernel_rfl
@[simp] theorem tinfo_39 : tinfo Try.prog 39 = some (1, false) := by kernel_rfl
@[simp] theorem tinfo_44 : tinfo Try.prog 44 = some (7, true) := by kernel_rfl
@[simp] theorem fldT_44_0 : fldT Try.prog 44 0 = some (0, 23, 4) := by kernel_rfl
@[simp] theorem placeT_44_0 : placeT Try.prog 44 0 = some (0, 4) := by kernel_rfl
@[simp] theorem fldT_44_1 : fldT Try.prog 44 1 = some (4, 3, 1) := by kernel_rfl
@[simp] theorem placeT_44_1 : placeT Try.prog 44 1 = some (4, 1) := by kernel_rfl
@[simp] theorem fldT_44_2 : fldT Try.prog 44 2 = some (5, 3, 1) := by kernel_rfl
@[simp] theorem placeT_44_2 : placeT Try.prog 44 2 = some (5, 1) := by kernel_rfl
@[simp] theorem fldT_44_3 : fldT Try.prog 44 3 = some (6, 3, 1) := by kernel_rfl
@[simp] theorem placeT_44_3 : placeT Try.prog 44 3 = some (6, 1) := by kernel_rfl
@[simp] theorem flatK_44 : flatK Try.prog 44 = none := by kernel_rfl
@[simp] theorem zeroA_44 : zeroA Try.prog 44 = some [.int .i64 (0), .int .i64 (0), .int .i64 (0), .int .i64 (0), .int .i64 (0), .int .i64 (0), .int .i64 (0)] := by kernel_rfl
@[simp] theorem fieldsOk_44 : fieldsOk Try.prog 44 = true := by kernel_rfl
@[simp] theorem tinfo_54 : tinfo Try.prog 54 = some (1, false) := by kernel_rfl
@[simp] theorem zeroA_54 : zeroA Try.prog 54 = some [.int .u8 (0)] := by kernel_rfl
@[simp] theorem callable_2 : callable Try.prog 2 = true := by kernel_rfl
@[simp] theorem callable_3 : callable Try.prog 3 = true := by kernel_rfl
@[simp] theorem callable_4 : callable Try.prog 4 = true := by kernel_rfl
@[simp] theorem callable_5 : callable Try.prog 5 = true := by kernel_rfl
@[simp] theorem callable_6 : callable Try.prog 6 = true := by kernel_rfl
@[simp] theorem callable_7 : callable Try.prog 7 = true := by kernel_rfl
@[simp] theorem callable_8 : callable Try.prog 8 = true := by kernel_rfl
@[simp] theorem callable_9 : callable Try.prog 9 = true := by kernel_rfl
@[simp] theorem callable_10 : callable Try.prog 10 = true := by kernel_rfl
@[simp] theorem callable_11 : callable Try.prog 11 = true := by kernel_rfl
@[simp] theorem callable_12 : callable Try.prog 12 = true := by kernel_rfl
@[simp] theorem callable_13 : callable Try.prog 13 = true := by kernel_rfl
@[simp] theorem callable_14 : callable Try.prog 14 = true := by kernel_rfl
@[simp] theorem callable_15 : callable Try.prog 15 = true := by kernel_rfl
@[simp] theorem callable_16 : callable Try.prog 16 = true := by kernel_rfl
end Go.Proofs.Ytgphhfhnjacenaa
