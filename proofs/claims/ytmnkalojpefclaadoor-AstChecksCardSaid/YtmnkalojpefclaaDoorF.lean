/-
  Closed facts on the seat's program: its types and functions, for the abstract logic.
-/
import Derived.Test.YtmnkalojpefclaaDoorProg
import Derived.Test.YtmnkalojpefclaaDoorAL12
import Derived.KernelRfl
set_option linter.unusedSimpArgs false
set_option linter.unusedVariables false
namespace Go.Proofs.YtmnkalojpefclaaDoor
open Go Go.AL Go.Proofs
set_option maxRecDepth 100000
theorem follows : Tryd.prog.follows .mixedOrders = true := by kernel_rfl
@[simp] theorem tinfo_0 : tinfo Tryd.prog 0 = some (1, false) := by kernel_rfl
@[simp] theorem tinfo_2 : tinfo Tryd.prog 2 = some (1, false) := by kernel_rfl
@[simp] theorem zeroA_2 : zeroA Tryd.prog 2 = some [.int .i64 (0)] := by kernel_rfl
@[simp] theorem tinfo_3 : tinfo Tryd.prog 3 = some (1, false) := by kernel_rfl
@[simp] theorem zeroA_3 : zeroA Tryd.prog 3 = some [.int .i64 (0)] := by kernel_rfl
@[simp] theorem tinfo_4 : tinfo Tryd.prog 4 = some (1, false) := by kernel_rfl
@[simp] theorem zeroA_4 : zeroA Tryd.prog 4 = some [.bool false] := by kernel_rfl
@[simp] theorem isBoolT_4 : isBoolT Tryd.prog 4 = true := by kernel_rfl
@[simp] theorem tinfo_5 : tinfo Tryd.prog 5 = some (1, false) := by kernel_rfl
@[simp] theorem zeroA_5 : zeroA Tryd.prog 5 = some [.int .u8 (0)] := by kernel_rfl
@[simp] theorem convK_5_3 : convK Tryd.prog 5 3 = some (.int .i64) := by kernel_rfl
@[simp] theorem convK_5_21 : convK Tryd.prog 5 21 = some (.int .i32) := by kernel_rfl
@[simp] theorem convK_5_87 : convK Tryd.prog 5 87 = some (.int .u32) := by kernel_rfl
@[simp] theorem tinfo_6 : tinfo Tryd.prog 6 = some (1, false) := by kernel_rfl
@[simp] theorem zeroA_6 : zeroA Tryd.prog 6 = some [.int .u8 (0)] := by kernel_rfl
@[simp] theorem tinfo_8 : tinfo Tryd.prog 8 = some (4, true) := by kernel_rfl
@[simp] theorem fldT_8_0 : fldT Tryd.prog 8 0 = some (0, 2, 1) := by kernel_rfl
@[simp] theorem placeT_8_0 : placeT Tryd.prog 8 0 = some (0, 1) := by kernel_rfl
@[simp] theorem fldT_8_1 : fldT Tryd.prog 8 1 = some (1, 3, 1) := by kernel_rfl
@[simp] theorem placeT_8_1 : placeT Tryd.prog 8 1 = some (1, 1) := by kernel_rfl
@[simp] theorem fldT_8_2 : fldT Tryd.prog 8 2 = some (2, 4, 1) := by kernel_rfl
@[simp] theorem placeT_8_2 : placeT Tryd.prog 8 2 = some (2, 1) := by kernel_rfl
@[simp] theorem fldT_8_3 : fldT Tryd.prog 8 3 = some (3, 6, 1) := by kernel_rfl
@[simp] theorem placeT_8_3 : placeT Tryd.prog 8 3 = some (3, 1) := by kernel_rfl
@[simp] theorem flatK_8 : flatK Tryd.prog 8 = some [.int, .int, .bool, .int] := by kernel_rfl
@[simp] theorem zeroA_8 : zeroA Tryd.prog 8 = some [.int .i64 (0), .int .i64 (0), .bool false, .int .u8 (0)] := by kernel_rfl
@[simp] theorem fieldsOk_8 : fieldsOk Tryd.prog 8 = true := by kernel_rfl
@[simp] theorem tinfo_9 : tinfo Tryd.prog 9 = some (1, false) := by kernel_rfl
@[simp] theorem elemT_9 : elemT Tryd.prog 9 = some (.string, 0, 1) := by kernel_rfl
@[simp] theorem zeroA_9 : zeroA Tryd.prog 9 = some [.str []] := by kernel_rfl
@[simp] theorem tinfo_10 : tinfo Tryd.prog 10 = some (1, false) := by kernel_rfl
@[simp] theorem elemT_10 : elemT Tryd.prog 10 = some (.string, 0, 1) := by kernel_rfl
@[simp] theorem zeroA_10 : zeroA Tryd.prog 10 = some [.str []] := by kernel_rfl
@[simp] theorem tinfo_11 : tinfo Tryd.prog 11 = some (1, false) := by kernel_rfl
@[simp] theorem elemT_11 : elemT Tryd.prog 11 = some (.string, 0, 1) := by kernel_rfl
@[simp] theorem zeroA_11 : zeroA Tryd.prog 11 = some [.str []] := by kernel_rfl
@[simp] theorem tinfo_12 : tinfo Tryd.prog 12 = some (1, false) := by kernel_rfl
@[simp] theorem zeroA_12 : zeroA Tryd.prog 12 = some [.int .u64 (0)] := by kernel_rfl
@[simp] theorem tinfo_14 : tinfo Tryd.prog 14 = some (2, true) := by kernel_rfl
@[simp] theorem fldT_14_0 : fldT Tryd.prog 14 0 = some (0, 9, 1) := by kernel_rfl
@[simp] theorem placeT_14_0 : placeT Tryd.prog 14 0 = some (0, 1) := by kernel_rfl
@[simp] theorem fldT_14_1 : fldT Tryd.prog 14 1 = some (1, 12, 1) := by kernel_rfl
@[simp] theorem placeT_14_1 : placeT Tryd.prog 14 1 = some (1, 1) := by kernel_rfl
@[simp] theorem flatK_14 : flatK Tryd.prog 14 = none := by kernel_rfl
@[simp] theorem zeroA_14 : zeroA Tryd.prog 14 = some [.str [], .int .u64 (0)] := by kernel_rfl
@[simp] theorem fieldsOk_14 : fieldsOk Tryd.prog 14 = true := by kernel_rfl
@[simp] theorem tinfo_15 : tinfo Tryd.prog 15 = some (1, false) := by kernel_rfl
@[simp] theorem zeroA_15 : zeroA Tryd.prog 15 = some [.nilp] := by kernel_rfl
@[simp] theorem isPtrT_15 : isPtrT Tryd.prog 15 = true := by kernel_rfl
@[simp] theorem tinfo_16 : tinfo Tryd.prog 16 = some (1, false) := by kernel_rfl
@[simp] theorem zeroA_16 : zeroA Tryd.prog 16 = some [.nilp] := by kernel_rfl
@[simp] theorem isPtrT_16 : isPtrT Tryd.prog 16 = true := by kernel_rfl
@[simp] theorem tinfo_17 : tinfo Tryd.prog 17 = some (1, false) := by kernel_rfl
@[simp] theorem zeroA_17 : zeroA Tryd.prog 17 = some [.nilp] := by kernel_rfl
@[simp] theorem isPtrT_17 : isPtrT Tryd.prog 17 = true := by kernel_rfl
@[simp] theorem tinfo_19 : tinfo Tryd.prog 19 = some (1, true) := by kernel_rfl
@[simp] theorem fldT_19_0 : fldT Tryd.prog 19 0 = some (0, 17, 1) := by kernel_rfl
@[simp] theorem placeT_19_0 : placeT Tryd.prog 19 0 = some (0, 1) := by kernel_rfl
@[simp] theorem flatK_19 : flatK Tryd.prog 19 = none := by kernel_rfl
@[simp] theorem zeroA_19 : zeroA Tryd.prog 19 = some [.nilp] := by kernel_rfl
@[simp] theorem fieldsOk_19 : fieldsOk Tryd.prog 19 = true := by kernel_rfl
@[simp] theorem tinfo_21 : tinfo Tryd.prog 21 = some (1, false) := by kernel_rfl
@[simp] theorem zeroA_21 : zeroA Tryd.prog 21 = some [.int .i32 (0)] := by kernel_rfl
@[simp] theorem tinfo_22 : tinfo Tryd.prog 22 = some (1, false) := by kernel_rfl
@[simp] theorem elemT_22 : elemT Tryd.prog 22 = some (.slice, 37, 5) := by kernel_rfl
@[simp] theorem placeT_22 (i : Nat) : placeT Tryd.prog 22 i = some (i * 5, 5) := placeT_slice elemT_22 i
@[simp] theorem zeroA_22 : zeroA Tryd.prog 22 = some [.list 5 [] .nil] := by kernel_rfl
@[simp] theorem isSliceT_22 : isSliceT Tryd.prog 22 = true := by kernel_rfl
@[simp] theorem elSz_22 : elSz Tryd.prog 22 = some 5 := by kernel_rfl
@[simp] theorem elBytes_22 : elBytes Tryd.prog 22 = some 64 := by kernel_rfl
@[simp] theorem tinfo_24 : tinfo Tryd.prog 24 = some (1, true) := by kernel_rfl
@[simp] theorem fldT_24_0 : fldT Tryd.prog 24 0 = some (0, 22, 1) := by kernel_rfl
@[simp] theorem placeT_24_0 : placeT Tryd.prog 24 0 = some (0, 1) := by kernel_rfl
@[simp] theorem flatK_24 : flatK Tryd.prog 24 = none := by kernel_rfl
@[simp] theorem zeroA_24 : zeroA Tryd.prog 24 = some [.list 5 [] .nil] := by kernel_rfl
@[simp] theorem fieldsOk_24 : fieldsOk Tryd.prog 24 = true := by kernel_rfl
@[simp] theorem tinfo_27 : tinfo Tryd.prog 27 = some (1, false) := by kernel_rfl
@[simp] theorem tinfo_29 : tinfo Tryd.prog 29 = some (1, false) := by kernel_rfl
@[simp] theorem zeroA_29 : zeroA Tryd.prog 29 = some [.int .i64 (0)] := by kernel_rfl
@[simp] theorem tinfo_31 : tinfo Tryd.prog 31 = some (2, true) := by kernel_rfl
@[simp] theorem fldT_31_0 : fldT Tryd.prog 31 0 = some (0, 29, 1) := by kernel_rfl
@[simp] theorem placeT_31_0 : placeT Tryd.prog 31 0 = some (0, 1) := by kernel_rfl
@[simp] theorem fldT_31_1 : fldT Tryd.prog 31 1 = some (1, 3, 1) := by kernel_rfl
@[simp] theorem placeT_31_1 : placeT Tryd.prog 31 1 = some (1, 1) := by kernel_rfl
@[simp] theorem flatK_31 : flatK Tryd.prog 31 = some [.int, .int] := by kernel_rfl
@[simp] theorem zeroA_31 : zeroA Tryd.prog 31 = some [.int .i64 (0), .int .i64 (0)] := by kernel_rfl
@[simp] theorem fieldsOk_31 : fieldsOk Tryd.prog 31 = true := by kernel_rfl
@[simp] theorem tinfo_34 : tinfo Tryd.prog 34 = some (1, true) := by kernel_rfl
@[simp] theorem fldT_34_0 : fldT Tryd.prog 34 0 = some (0, 24, 1) := by kernel_rfl
@[simp] theorem placeT_34_0 : placeT Tryd.prog 34 0 = some (0, 1) := by kernel_rfl
@[simp] theorem flatK_34 : flatK Tryd.prog 34 = none := by kernel_rfl
@[simp] theorem zeroA_34 : zeroA Tryd.prog 34 = some [.list 5 [] .nil] := by kernel_rfl
@[simp] theorem fieldsOk_34 : fieldsOk Tryd.prog 34 = true := by kernel_rfl
@[simp] theorem tinfo_35 : tinfo Tryd.prog 35 = some (1, false) := by kernel_rfl
@[simp] theorem elemT_35 : elemT Tryd.prog 35 = some (.slice, 3, 1) := by kernel_rfl
@[simp] theorem placeT_35 (i : Nat) : placeT Tryd.prog 35 i = some (i * 1, 1) := placeT_slice elemT_35 i
@[simp] theorem zeroA_35 : zeroA Tryd.prog 35 = some [.list 1 [] .nil] := by kernel_rfl
@[simp] theorem isSliceT_35 : isSliceT Tryd.prog 35 = true := by kernel_rfl
@[simp] theorem elSz_35 : elSz Tryd.prog 35 = some 1 := by kernel_rfl
@[simp] theorem elBytes_35 : elBytes Tryd.prog 35 = some 8 := by kernel_rfl
@[simp] theorem tinfo_37 : tinfo Tryd.prog 37 = some (5, true) := by kernel_rfl
@[simp] theorem fldT_37_0 : fldT Tryd.prog 37 0 = some (0, 3, 1) := by kernel_rfl
@[simp] theorem placeT_37_0 : placeT Tryd.prog 37 0 = some (0, 1) := by kernel_rfl
@[simp] theorem fldT_37_1 : fldT Tryd.prog 37 1 = some (1, 3, 1) := by kernel_rfl
@[simp] theorem placeT_37_1 : placeT Tryd.prog 37 1 = some (1, 1) := by kernel_rfl
@[simp] theorem fldT_37_2 : fldT Tryd.prog 37 2 = some (2, 9, 1) := by kernel_rfl
@[simp] theorem placeT_37_2 : placeT Tryd.prog 37 2 = some (2, 1) := by kernel_rfl
@[simp] theorem fldT_37_3 : fldT Tryd.prog 37 3 = some (3, 2, 1) := by kernel_rfl
@[simp] theorem placeT_37_3 : placeT Tryd.prog 37 3 = some (3, 1) := by kernel_rfl
@[simp] theorem fldT_37_4 : fldT Tryd.prog 37 4 = some (4, 35, 1) := by kernel_rfl
@[simp] theorem placeT_37_4 : placeT Tryd.prog 37 4 = some (4, 1) := by kernel_rfl
@[simp] theorem flatK_37 : flatK Tryd.prog 37 = none := by kernel_rfl
@[simp] theorem zeroA_37 : zeroA Tryd.prog 37 = some [.int .i64 (0), .int .i64 (0), .str [], .int .i64 (0), .list 1 [] .nil] := by kernel_rfl
@[simp] theorem fieldsOk_37 : fieldsOk Tryd.prog 37 = true := by kernel_rfl
@[simp] theorem tinfo_38 : tinfo Tryd.prog 38 = some (1, false) := by kernel_rfl
@[simp] theorem tinfo_40 : tinfo Tryd.prog 40 = some (1, false) := by kernel_rfl
@[simp] theorem tinfo_42 : tinfo Tryd.prog 42 = some (1, false) := by kernel_rfl
@[simp] theorem tinfo_45 : tinfo Tryd.prog 45 = some (1, false) := by kernel_rfl
@[simp] theorem zeroA_45 : zeroA Tryd.prog 45 = some [.nilf] := by kernel_rfl
@[simp] theorem tinfo_57 : tinfo Tryd.prog 57 = some (1, false) := by kernel_rfl
@[simp] theorem elemT_57 : elemT Tryd.prog 57 = some (.slice, 4, 1) := by kernel_rfl
@[simp] theorem placeT_57 (i : Nat) : placeT Tryd.prog 57 i = some (i * 1, 1) := placeT_slice elemT_57 i
@[simp] theorem zeroA_57 : zeroA Tryd.prog 57 = some [.list 1 [] .nil] := by kernel_rfl
@[simp] theorem isSliceT_57 : isSliceT Tryd.prog 57 = true := by kernel_rfl
@[simp] theorem elSz_57 : elSz Tryd.prog 57 = some 1 := by kernel_rfl
@[simp] theorem elBytes_57 : elBytes Tryd.prog 57 = some 1 := by kernel_rfl
@[simp] theorem tinfo_60 : tinfo Tryd.prog 60 = some (1, false) := by kernel_rfl
@[simp] theorem zeroA_60 : zeroA Tryd.prog 60 = some [.nilp] := by kernel_rfl
@[simp] theorem isPtrT_60 : isPtrT Tryd.prog 60 = true := by kernel_rfl
@[simp] theorem tinfo_63 : tinfo Tryd.prog 63 = some (1, false) := by kernel_rfl
@[simp] theorem elemT_63 : elemT Tryd.prog 63 = some (.slice, 9, 1) := by kernel_rfl
@[simp] theorem placeT_63 (i : Nat) : placeT Tryd.prog 63 i = some (i * 1, 1) := placeT_slice elemT_63 i
@[simp] theorem zeroA_63 : zeroA Tryd.prog 63 = some [.list 1 [] .nil] := by kernel_rfl
@[simp] theorem isSliceT_63 : isSliceT Tryd.prog 63 = true := by kernel_rfl
@[simp] theorem elSz_63 : elSz Tryd.prog 63 = some 1 := by kernel_rfl
@[simp] theorem elBytes_63 : elBytes Tryd.prog 63 = some 16 := by kernel_rfl
@[simp] theorem tinfo_66 : tinfo Tryd.prog 66 = some (1, false) := by kernel_rfl
@[simp] theorem elemT_66 : elemT Tryd.prog 66 = some (.slice, 63, 1) := by kernel_rfl
@[simp] theorem placeT_66 (i : Nat) : placeT Tryd.prog 66 i = some (i * 1, 1) := placeT_slice elemT_66 i
@[simp] theorem zeroA_66 : zeroA Tryd.prog 66 = some [.list 1 [] .nil] := by kernel_rfl
@[simp] theorem isSliceT_66 : isSliceT Tryd.prog 66 = true := by kernel_rfl
@[simp] theorem elSz_66 : elSz Tryd.prog 66 = some 1 := by kernel_rfl
@[simp] theorem elBytes_66 : elBytes Tryd.prog 66 = some 24 := by kernel_rfl
@[simp] theorem tinfo_71 : tinfo Tryd.prog 71 = some (1, false) := by kernel_rfl
@[simp] theorem tinfo_73 : tinfo Tryd.prog 73 = some (1, false) := by kernel_rfl
@[simp] theorem tinfo_82 : tinfo Tryd.prog 82 = some (1, false) := by kernel_rfl
@[simp] theorem tinfo_87 : tinfo Tryd.prog 87 = some (1, false) := by kernel_rfl
@[simp] theorem zeroA_87 : zeroA Tryd.prog 87 = some [.int .u32 (0)] := by kernel_rfl
@[simp] theorem tinfo_88 : tinfo Tryd.prog 88 = some (1, false) := by kernel_rfl
@[simp] theorem tinfo_90 : tinfo Tryd.prog 90 = some (256, true) := by kernel_rfl
@[simp] theorem elemT_90 : elemT Tryd.prog 90 = some (.array 256, 5, 1) := by kernel_rfl
@[simp] theorem placeT_90 (i : Nat) : placeT Tryd.prog 90 i = some (i * 1, 1) := placeT_array elemT_90 i
@[simp] theorem zeroA_90 : zeroA Tryd.prog 90 = some [.int .u8 (0), .int .u8 (0), .int .u8 (0), .int .u8 (0), .int .u8 (0), .int .u8 (0), .int .u8 (0), .int .u8 (0), .int .u8 (0), .int .u8 (0), .int .u8 (0), .int .u8 (0), .int .u8 (0), .int .u8 (0), .int .u8 (0), .int .u8 (0), .int .u8 (0), .int .u8 (0), .int .u8 (0), .int .u8 (0), .int .u8 (0), .int .u8 (0), .int .u8 (0), .int .u8 (0), .int .u8 (0), .int .u8 (0), .int .u8 (0), .int .u8 (0), .int .u8 (0), .int .u8 (0), .int .u8 (0), .int .u8 (0), .int .u8 (0), .int .u8 (0), .int .u8 (0), .int .u8 (0), .int .u8 (0), .int .u8 (0), .int .u8 (0), .int .u8 (0), .int .u8 (0), .int .u8 (0), .int .u8 (0), .int .u8 (0), .int .u8 (0), .int .u8 (0), .int .u8 (0), .int .u8 (0), .int .u8 (0), .int .u8 (0), .int .u8 (0), .int .u8 (0), .int .u8 (0), .int .u8 (0), .int .u8 (0), .int .u8 (0), .int .u8 (0), .int .u8 (0), .int .u8 (0), .int .u8 (0), .int .u8 (0), .int .u8 (0), .int .u8 (0), .int .u8 (0), .int .u8 (0), .int .u8 (0), .int .u8 (0), .int .u8 (0), .int .u8 (0), .int .u8 (0), .int .u8 (0), .int .u8 (0), .int .u8 (0), .int .u8 (0), .int .u8 (0), .int .u8 (0), .int .u8 (0), .int .u8 (0), .int .u8 (0), .int .u8 (0), .int .u8 (0), .int .u8 (0), .int .u8 (0), .int .u8 (0), .int .u8 (0), .int .u8 (0), .int .u8 (0), .int .u8 (0), .int .u8 (0), .int .u8 (0), .int .u8 (0), .int .u8 (0), .int .u8 (0), .int .u8 (0), .int .u8 (0), .int .u8 (0), .int .u8 (0), .int .u8 (0), .int .u8 (0), .int .u8 (0), .int .u8 (0), .int .u8 (0), .int .u8 (0), .int .u8 (0), .int .u8 (0), .int .u8 (0), .int .u8 (0), .int .u8 (0), .int .u8 (0), .int .u8 (0), .int .u8 (0), .int .u8 (0), .int .u8 (0), .int .u8 (0), .int .u8 (0), .int .u8 (0), .int .u8 (0), .int .u8 (0), .int .u8 (0), .int .u8 (0), .int .u8 (0), .int .u8 (0), .int .u8 (0), .int .u8 (0), .int .u8 (0), .int .u8 (0), .int .u8 (0), .int .u8 (0), .int .u8 (0), .int .u8 (0), .int .u8 (0), .int .u8 (0), .int .u8 (0), .int .u8 (0), .int .u8 (0), .int .u8 (0), .int .u8 (0), .int .u8 (0), .int .u8 (0), .int .u8 (0), .int .u8 (0), .int .u8 (0), .int .u8 (0), .int .u8 (0), .int .u8 (0), .int .u8 (0), .int .u8 (0), .int .u8 (0), .int .u8 (0), .int .u8 (0), .int .u8 (0), .int .u8 (0), .int .u8 (0), .int .u8 (0), .int .u8 (0), .int .u8 (0), .int .u8 (0), .int .u8 (0), .int .u8 (0), .int .u8 (0), .int .u8 (0), .int .u8 (0), .int .u8 (0), .int .u8 (0), .int .u8 (0), .int .u8 (0), .int .u8 (0), .int .u8 (0), .int .u8 (0), .int .u8 (0), .int .u8 (0), .int .u8 (0), .int .u8 (0), .int .u8 (0), .int .u8 (0), .int .u8 (0), .int .u8 (0), .int .u8 (0), .int .u8 (0), .int .u8 (0), .int .u8 (0), .int .u8 (0), .int .u8 (0), .int .u8 (0), .int .u8 (0), .int .u8 (0), .int .u8 (0), .int .u8 (0), .int .u8 (0), .int .u8 (0), .int .u8 (0), .int .u8 (0), .int .u8 (0), .int .u8 (0), .int .u8 (0), .int .u8 (0), .int .u8 (0), .int .u8 (0), .int .u8 (0), .int .u8 (0), .int .u8 (0), .int .u8 (0), .int .u8 (0), .int .u8 (0), .int .u8 (0), .int .u8 (0), .int .u8 (0), .int .u8 (0), .int .u8 (0), .int .u8 (0), .int .u8 (0), .int .u8 (0), .int .u8 (0), .int .u8 (0), .int .u8 (0), .int .u8 (0), .int .u8 (0), .int .u8 (0), .int .u8 (0), .int .u8 (0), .int .u8 (0), .int .u8 (0), .int .u8 (0), .int .u8 (0), .int .u8 (0), .int .u8 (0), .int .u8 (0), .int .u8 (0), .int .u8 (0), .int .u8 (0), .int .u8 (0), .int .u8 (0), .int .u8 (0), .int .u8 (0), .int .u8 (0), .int .u8 (0), .int .u8 (0), .int .u8 (0), .int .u8 (0), .int .u8 (0), .int .u8 (0), .int .u8 (0), .int .u8 (0), .int .u8 (0), .int .u8 (0), .int .u8 (0), .int .u8 (0), .int .u8 (0), .int .u8 (0), .int .u8 (0), .int .u8 (0), .int .u8 (0), .int .u8 (0), .int .u8 (0), .int .u8 (0), .int .u8 (0)] := by kernel_rfl
@[simp] theorem fieldsOk_90 : fieldsOk Tryd.prog 90 = true := by kernel_rfl
@[simp] theorem tinfo_92 : tinfo Tryd.prog 92 = some (2, true) := by kernel_rfl
@[simp] theorem fldT_92_0 : fldT Tryd.prog 92 0 = some (0, 5, 1) := by kernel_rfl
@[simp] theorem placeT_92_0 : placeT Tryd.prog 92 0 = some (0, 1) := by kernel_rfl
@[simp] theorem fldT_92_1 : fldT Tryd.prog 92 1 = some (1, 5, 1) := by kernel_rfl
@[simp] theorem placeT_92_1 : placeT Tryd.prog 92 1 = some (1, 1) := by kernel_rfl
@[simp] theorem flatK_92 : flatK Tryd.prog 92 = some [.int, .int] := by kernel_rfl
@[simp] theorem zeroA_92 : zeroA Tryd.prog 92 = some [.int .u8 (0), .int .u8 (0)] := by kernel_rfl
@[simp] theorem fieldsOk_92 : fieldsOk Tryd.prog 92 = true := by kernel_rfl
@[simp] theorem tinfo_93 : tinfo Tryd.prog 93 = some (32, true) := by kernel_rfl
@[simp] theorem elemT_93 : elemT Tryd.prog 93 = some (.array 16, 92, 2) := by kernel_rfl
@[simp] theorem placeT_93 (i : Nat) : placeT Tryd.prog 93 i = some (i * 2, 2) := placeT_array elemT_93 i
@[simp] theorem zeroA_93 : zeroA Tryd.prog 93 = some [.int .u8 (0), .int .u8 (0), .int .u8 (0), .int .u8 (0), .int .u8 (0), .int .u8 (0), .int .u8 (0), .int .u8 (0), .int .u8 (0), .int .u8 (0), .int .u8 (0), .int .u8 (0), .int .u8 (0), .int .u8 (0), .int .u8 (0), .int .u8 (0), .int .u8 (0), .int .u8 (0), .int .u8 (0), .int .u8 (0), .int .u8 (0), .int .u8 (0), .int .u8 (0), .int .u8 (0), .int .u8 (0), .int .u8 (0), .int .u8 (0), .int .u8 (0), .int .u8 (0), .int .u8 (0), .int .u8 (0), .int .u8 (0)] := by kernel_rfl
@[simp] theorem fieldsOk_93 : fieldsOk Tryd.prog 93 = true := by kernel_rfl
@[simp] theorem tinfo_102 : tinfo Tryd.prog 102 = some (1, false) := by kernel_rfl
@[simp] theorem zeroA_102 : zeroA Tryd.prog 102 = some [.int .u8 (0)] := by kernel_rfl
@[simp] theorem callable_2 : callable Tryd.prog 2 = true := by kernel_rfl
@[simp] theorem callable_3 : callable Tryd.prog 3 = true := by kernel_rfl
@[simp] theorem callable_4 : callable Tryd.prog 4 = true := by kernel_rfl
@[simp] theorem callable_5 : callable Tryd.prog 5 = true := by kernel_rfl
@[simp] theorem callable_6 : callable Tryd.prog 6 = true := by kernel_rfl
@[simp] theorem callable_7 : callable Tryd.prog 7 = true := by kernel_rfl
@[simp] theorem callable_8 : callable Tryd.prog 8 = true := by kernel_rfl
@[simp] theorem callable_9 : callable Tryd.prog 9 = true := by kernel_rfl
@[simp] theorem callable_10 : callable Tryd.prog 10 = true := by kernel_rfl
@[simp] theorem callable_11 : callable Tryd.prog 11 = true := by kernel_rfl
@[simp] theorem callable_12 : callable Tryd.prog 12 = true := by kernel_rfl
@[simp] theorem callable_13 : callable Tryd.prog 13 = true := by kernel_rfl
@[simp] theorem callable_14 : callable Tryd.prog 14 = true := by kernel_rfl
@[simp] theorem callable_15 : callable Tryd.prog 15 = true := by kernel_rfl
@[simp] theorem callable_16 : callable Tryd.prog 16 = true := by kernel_rfl
@[simp] theorem callable_17 : callable Tryd.prog 17 = true := by kernel_rfl
@[simp] theorem callable_18 : callable Tryd.prog 18 = true := by kernel_rfl
@[simp] theorem callable_19 : callable Tryd.prog 19 = true := by kernel_rfl
@[simp] theorem callable_20 : callable Tryd.prog 20 = true := by kernel_rfl
@[simp] theorem callable_21 : callable Tryd.prog 21 = true := by kernel_rfl
@[simp] theorem callable_22 : callable Tryd.prog 22 = true := by kernel_rfl
@[simp] theorem callable_23 : callable Tryd.prog 23 = true := by kernel_rfl
@[simp] theorem callable_24 : callable Tryd.prog 24 = true := by kernel_rfl
@[simp] theorem callable_25 : callable Tryd.prog 25 = true := by kernel_rfl
@[simp] theorem callable_26 : callable Tryd.prog 26 = true := by kernel_rfl
@[simp] theorem callable_27 : callable Tryd.prog 27 = true := by kernel_rfl
@[simp] theorem callable_28 : callable Tryd.prog 28 = true := by kernel_rfl
@[simp] theorem callable_29 : callable Tryd.prog 29 = true := by kernel_rfl
@[simp] theorem callable_30 : callable Tryd.prog 30 = true := by kernel_rfl
@[simp] theorem callable_31 : callable Tryd.prog 31 = true := by kernel_rfl
@[simp] theorem callable_32 : callable Tryd.prog 32 = true := by kernel_rfl
@[simp] theorem callable_33 : callable Tryd.prog 33 = true := by kernel_rfl
@[simp] theorem callable_34 : callable Tryd.prog 34 = true := by kernel_rfl
@[simp] theorem callable_35 : callable Tryd.prog 35 = true := by kernel_rfl
@[simp] theorem callable_36 : callable Tryd.prog 36 = true := by kernel_rfl
@[simp] theorem callable_37 : callable Tryd.prog 37 = true := by kernel_rfl
@[simp] theorem callable_38 : callable Tryd.prog 38 = true := by kernel_rfl
@[simp] theorem callable_39 : callable Tryd.prog 39 = true := by kernel_rfl
@[simp] theorem callable_40 : callable Tryd.prog 40 = true := by kernel_rfl
@[simp] theorem callable_41 : callable Tryd.prog 41 = true := by kernel_rfl
@[simp] theorem callable_42 : callable Tryd.prog 42 = true := by kernel_rfl
@[simp] theorem callable_43 : callable Tryd.prog 43 = true := by kernel_rfl
@[simp] theorem callable_44 : callable Tryd.prog 44 = true := by kernel_rfl
@[simp] theorem callable_45 : callable Tryd.prog 45 = true := by kernel_rfl
@[simp] theorem callable_46 : callable Tryd.prog 46 = true := by kernel_rfl
@[simp] theorem callable_47 : callable Tryd.prog 47 = true := by kernel_rfl
@[simp] theorem callable_48 : callable Tryd.prog 48 = true := by kernel_rfl
@[simp] theorem callable_49 : callable Tryd.prog 49 = true := by kernel_rfl
@[simp] theorem callable_50 : callable Tryd.prog 50 = true := by kernel_rfl
@[simp] theorem callable_51 : callable Tryd.prog 51 = true := by kernel_rfl
@[simp] theorem callable_52 : callable Tryd.prog 52 = true := by kernel_rfl
@[simp] theorem callable_53 : callable Tryd.prog 53 = true := by kernel_rfl
@[simp] theorem callable_54 : callable Tryd.prog 54 = true := by kernel_rfl
@[simp] theorem callable_55 : callable Tryd.prog 55 = true := by kernel_rfl
@[simp] theorem callable_56 : callable Tryd.prog 56 = true := by kernel_rfl
@[simp] theorem callable_57 : callable Tryd.prog 57 = true := by kernel_rfl
@[simp] theorem callable_58 : callable Tryd.prog 58 = true := by kernel_rfl
@[simp] theorem callable_59 : callable Tryd.prog 59 = true := by kernel_rfl
@[simp] theorem callable_60 : callable Tryd.prog 60 = true := by kernel_rfl
@[simp] theorem callable_61 : callable Tryd.prog 61 = true := by kernel_rfl
@[simp] theorem callable_62 : callable Tryd.prog 62 = true := by kernel_rfl
@[simp] theorem callable_63 : callable Tryd.prog 63 = true := by kernel_rfl
@[simp] theorem callable_64 : callable Tryd.prog 64 = true := by kernel_rfl
@[simp] theorem callable_65 : callable Tryd.prog 65 = true := by kernel_rfl
@[simp] theorem callable_66 : callable Tryd.prog 66 = true := by kernel_rfl
@[simp] theorem callable_67 : callable Tryd.prog 67 = true := by kernel_rfl
@[simp] theorem callable_69 : callable Tryd.prog 69 = true := by kernel_rfl
@[simp] theorem callable_71 : callable Tryd.prog 71 = true := by kernel_rfl
@[simp] theorem callable_72 : callable Tryd.prog 72 = true := by kernel_rfl
@[simp] theorem callable_73 : callable Tryd.prog 73 = true := by kernel_rfl
@[simp] theorem callable_75 : callable Tryd.prog 75 = true := by kernel_rfl
@[simp] theorem callable_97 : callable Tryd.prog 97 = true := by kernel_rfl
end Go.Proofs.YtmnkalojpefclaaDoor
