/-
  Closed facts on the seat's program: its types and functions, for the abstract logic.
-/
import Derived.Test.YtgcpgoggngkbjaaDoorProg
import Derived.Test.YtgcpgoggngkbjaaDoorAL12
import Derived.KernelRfl
set_option linter.unusedSimpArgs false
set_option linter.unusedVariables false
namespace Go.Proofs.YtgcpgoggngkbjaaDoor
open Go Go.AL Go.Proofs
set_option maxRecDepth 100000
theorem follows : Tryd.prog.follows .mixedOrders = true := by kernel_rfl
@[simp] theorem tinfo_0 : tinfo Tryd.prog 0 = some (1, false) := by kernel_rfl
@[simp] theorem tinfo_2 : tinfo Tryd.prog 2 = some (1, false) := by kernel_rfl
@[simp] theorem zeroA_2 : zeroA Tryd.prog 2 = some [.int .i64 (0)] := by kernel_rfl
@[simp] theorem convK_2_95 : convK Tryd.prog 2 95 = some (.int .u64) := by kernel_rfl
@[simp] theorem tinfo_3 : tinfo Tryd.prog 3 = some (1, false) := by kernel_rfl
@[simp] theorem zeroA_3 : zeroA Tryd.prog 3 = some [.int .i64 (0)] := by kernel_rfl
@[simp] theorem convK_3_95 : convK Tryd.prog 3 95 = some (.int .u64) := by kernel_rfl
@[simp] theorem convK_3_109 : convK Tryd.prog 3 109 = some (.int .u64) := by kernel_rfl
@[simp] theorem tinfo_4 : tinfo Tryd.prog 4 = some (1, false) := by kernel_rfl
@[simp] theorem zeroA_4 : zeroA Tryd.prog 4 = some [.bool false] := by kernel_rfl
@[simp] theorem isBoolT_4 : isBoolT Tryd.prog 4 = true := by kernel_rfl
@[simp] theorem tinfo_5 : tinfo Tryd.prog 5 = some (1, false) := by kernel_rfl
@[simp] theorem zeroA_5 : zeroA Tryd.prog 5 = some [.int .u8 (0)] := by kernel_rfl
@[simp] theorem convK_5_3 : convK Tryd.prog 5 3 = some (.int .i64) := by kernel_rfl
@[simp] theorem convK_5_21 : convK Tryd.prog 5 21 = some (.int .i32) := by kernel_rfl
@[simp] theorem convK_5_107 : convK Tryd.prog 5 107 = some (.int .u32) := by kernel_rfl
@[simp] theorem tinfo_6 : tinfo Tryd.prog 6 = some (1, false) := by kernel_rfl
@[simp] theorem zeroA_6 : zeroA Tryd.prog 6 = some [.int .u8 (0)] := by kernel_rfl
@[simp] theorem tinfo_8 : tinfo Tryd.prog 8 = some (4, true) := by kernel_rfl
@[simp] theorem fldT_8_0 : fldT Tryd.prog 8 0 = some (0, 2, 1) := by kernel_rfl
@[simp] theorem placeT_8_0 : placeT Tryd.prog 8 0 = some (0, 1) := by kernel_rfl
@[simp] theorem fldT_8_1 : fldT Tryd.prog 8 1 = some (1, 3, 1) := by kernel_rfl
@[simp] theorem placeT_8_1 : placeT Tryd.prog 8 1 = some (1, 1) := by kernel_rfl
@[simp] theorem fldT_8_2 : fldT Tryd.prog 8 2 = some (2, 4, 1) := by kernel_rfl
@[simp] theorem placeT_8_2 : placeT Tryd.prog 8 2 = some (2, 1) := by kernel_rfl
@[simp] theorem fldT_8_3 : fldT Tryd.prog 8 3 = some (3, 6, 1) := by kernel_rfl
@[simp] theorem placeT_8_3 : placeT Tryd.prog 8 3 = some (3, 1) := by kernel_rfl
@[simp] theorem flatK_8 : flatK Tryd.prog 8 = some [.int, .int, .bool, .int] := by kernel_rfl
@[simp] theorem zeroA_8 : zeroA Tryd.prog 8 = some [.int .i64 (0), .int .i64 (0), .bool false, .int .u8 (0)] := by kernel_rfl
@[simp] theorem fieldsOk_8 : fieldsOk Tryd.prog 8 = true := by kernel_rfl
@[simp] theorem tinfo_9 : tinfo Tryd.prog 9 = some (1, false) := by kernel_rfl
@[simp] theorem elemT_9 : elemT Tryd.prog 9 = some (.string, 0, 1) := by kernel_rfl
@[simp] theorem zeroA_9 : zeroA Tryd.prog 9 = some [.str []] := by kernel_rfl
@[simp] theorem tinfo_10 : tinfo Tryd.prog 10 = some (1, false) := by kernel_rfl
@[simp] theorem elemT_10 : elemT Tryd.prog 10 = some (.string, 0, 1) := by kernel_rfl
@[simp] theorem zeroA_10 : zeroA Tryd.prog 10 = some [.str []] := by kernel_rfl
@[simp] theorem tinfo_11 : tinfo Tryd.prog 11 = some (1, false) := by kernel_rfl
@[simp] theorem elemT_11 : elemT Tryd.prog 11 = some (.string, 0, 1) := by kernel_rfl
@[simp] theorem zeroA_11 : zeroA Tryd.prog 11 = some [.str []] := by kernel_rfl
@[simp] theorem tinfo_12 : tinfo Tryd.prog 12 = some (1, false) := by kernel_rfl
@[simp] theorem zeroA_12 : zeroA Tryd.prog 12 = some [.int .u64 (0)] := by kernel_rfl
@[simp] theorem tinfo_14 : tinfo Tryd.prog 14 = some (2, true) := by kernel_rfl
@[simp] theorem fldT_14_0 : fldT Tryd.prog 14 0 = some (0, 9, 1) := by kernel_rfl
@[simp] theorem placeT_14_0 : placeT Tryd.prog 14 0 = some (0, 1) := by kernel_rfl
@[simp] theorem fldT_14_1 : fldT Tryd.prog 14 1 = some (1, 12, 1) := by kernel_rfl
@[simp] theorem placeT_14_1 : placeT Tryd.prog 14 1 = some (1, 1) := by kernel_rfl
@[simp] theorem flatK_14 : flatK Tryd.prog 14 = none := by kernel_rfl
@[simp] theorem zeroA_14 : zeroA Tryd.prog 14 = some [.str [], .int .u64 (0)] := by kernel_rfl
@[simp] theorem fieldsOk_14 : fieldsOk Tryd.prog 14 = true := by kernel_rfl
@[simp] theorem tinfo_15 : tinfo Tryd.prog 15 = some (1, false) := by kernel_rfl
@[simp] theorem zeroA_15 : zeroA Tryd.prog 15 = some [.nilp] := by kernel_rfl
@[simp] theorem isPtrT_15 : isPtrT Tryd.prog 15 = true := by kernel_rfl
@[simp] theorem tinfo_16 : tinfo Tryd.prog 16 = some (1, false) := by kernel_rfl
@[simp] theorem zeroA_16 : zeroA Tryd.prog 16 = some [.nilp] := by kernel_rfl
@[simp] theorem isPtrT_16 : isPtrT Tryd.prog 16 = true := by kernel_rfl
@[simp] theorem tinfo_17 : tinfo Tryd.prog 17 = some (1, false) := by kernel_rfl
@[simp] theorem zeroA_17 : zeroA Tryd.prog 17 = some [.nilp] := by kernel_rfl
@[simp] theorem isPtrT_17 : isPtrT Tryd.prog 17 = true := by kernel_rfl
@[simp] theorem tinfo_19 : tinfo Tryd.prog 19 = some (1, true) := by kernel_rfl
@[simp] theorem fldT_19_0 : fldT Tryd.prog 19 0 = some (0, 17, 1) := by kernel_rfl
@[simp] theorem placeT_19_0 : placeT Tryd.prog 19 0 = some (0, 1) := by kernel_rfl
@[simp] theorem flatK_19 : flatK Tryd.prog 19 = none := by kernel_rfl
@[simp] theorem zeroA_19 : zeroA Tryd.prog 19 = some [.nilp] := by kernel_rfl
@[simp] theorem fieldsOk_19 : fieldsOk Tryd.prog 19 = true := by kernel_rfl
@[simp] theorem tinfo_20 : tinfo Tryd.prog 20 = some (1, false) := by kernel_rfl
@[simp] theorem zeroA_20 : zeroA Tryd.prog 20 = some [.any] := by kernel_rfl
@[simp] theorem tinfo_21 : tinfo Tryd.prog 21 = some (1, false) := by kernel_rfl
@[simp] theorem zeroA_21 : zeroA Tryd.prog 21 = some [.int .i32 (0)] := by kernel_rfl
@[simp] theorem tinfo_22 : tinfo Tryd.prog 22 = some (1, false) := by kernel_rfl
@[simp] theorem elemT_22 : elemT Tryd.prog 22 = some (.slice, 37, 9) := by kernel_rfl
@[simp] theorem placeT_22 (i : Nat) : placeT Tryd.prog 22 i = some (i * 9, 9) := placeT_slice elemT_22 i
@[simp] theorem zeroA_22 : zeroA Tryd.prog 22 = some [.list 9 [] .nil] := by kernel_rfl
@[simp] theorem isSliceT_22 : isSliceT Tryd.prog 22 = true := by kernel_rfl
@[simp] theorem elSz_22 : elSz Tryd.prog 22 = some 9 := by kernel_rfl
@[simp] theorem elBytes_22 : elBytes Tryd.prog 22 = some 144 := by kernel_rfl
@[simp] theorem tinfo_24 : tinfo Tryd.prog 24 = some (1, true) := by kernel_rfl
@[simp] theorem fldT_24_0 : fldT Tryd.prog 24 0 = some (0, 22, 1) := by kernel_rfl
@[simp] theorem placeT_24_0 : placeT Tryd.prog 24 0 = some (0, 1) := by kernel_rfl
@[simp] theorem flatK_24 : flatK Tryd.prog 24 = none := by kernel_rfl
@[simp] theorem zeroA_24 : zeroA Tryd.prog 24 = some [.list 9 [] .nil] := by kernel_rfl
@[simp] theorem fieldsOk_24 : fieldsOk Tryd.prog 24 = true := by kernel_rfl
@[simp] theorem tinfo_27 : tinfo Tryd.prog 27 = some (1, false) := by kernel_rfl
@[simp] theorem zeroA_27 : zeroA Tryd.prog 27 = some [.int .i64 (0)] := by kernel_rfl
@[simp] theorem tinfo_29 : tinfo Tryd.prog 29 = some (2, true) := by kernel_rfl
@[simp] theorem fldT_29_0 : fldT Tryd.prog 29 0 = some (0, 27, 1) := by kernel_rfl
@[simp] theorem placeT_29_0 : placeT Tryd.prog 29 0 = some (0, 1) := by kernel_rfl
@[simp] theorem fldT_29_1 : fldT Tryd.prog 29 1 = some (1, 3, 1) := by kernel_rfl
@[simp] theorem placeT_29_1 : placeT Tryd.prog 29 1 = some (1, 1) := by kernel_rfl
@[simp] theorem flatK_29 : flatK Tryd.prog 29 = some [.int, .int] := by kernel_rfl
@[simp] theorem zeroA_29 : zeroA Tryd.prog 29 = some [.int .i64 (0), .int .i64 (0)] := by kernel_rfl
@[simp] theorem fieldsOk_29 : fieldsOk Tryd.prog 29 = true := by kernel_rfl
@[simp] theorem tinfo_32 : tinfo Tryd.prog 32 = some (1, false) := by kernel_rfl
@[simp] theorem elemT_32 : elemT Tryd.prog 32 = some (.slice, 48, 4) := by kernel_rfl
@[simp] theorem placeT_32 (i : Nat) : placeT Tryd.prog 32 i = some (i * 4, 4) := placeT_slice elemT_32 i
@[simp] theorem zeroA_32 : zeroA Tryd.prog 32 = some [.list 4 [] .nil] := by kernel_rfl
@[simp] theorem isSliceT_32 : isSliceT Tryd.prog 32 = true := by kernel_rfl
@[simp] theorem elSz_32 : elSz Tryd.prog 32 = some 4 := by kernel_rfl
@[simp] theorem elBytes_32 : elBytes Tryd.prog 32 = some 32 := by kernel_rfl
@[simp] theorem tinfo_33 : tinfo Tryd.prog 33 = some (1, false) := by kernel_rfl
@[simp] theorem elemT_33 : elemT Tryd.prog 33 = some (.slice, 50, 3) := by kernel_rfl
@[simp] theorem placeT_33 (i : Nat) : placeT Tryd.prog 33 i = some (i * 3, 3) := placeT_slice elemT_33 i
@[simp] theorem zeroA_33 : zeroA Tryd.prog 33 = some [.list 3 [] .nil] := by kernel_rfl
@[simp] theorem isSliceT_33 : isSliceT Tryd.prog 33 = true := by kernel_rfl
@[simp] theorem elSz_33 : elSz Tryd.prog 33 = some 3 := by kernel_rfl
@[simp] theorem elBytes_33 : elBytes Tryd.prog 33 = some 32 := by kernel_rfl
@[simp] theorem tinfo_34 : tinfo Tryd.prog 34 = some (1, false) := by kernel_rfl
@[simp] theorem elemT_34 : elemT Tryd.prog 34 = some (.slice, 62, 2) := by kernel_rfl
@[simp] theorem placeT_34 (i : Nat) : placeT Tryd.prog 34 i = some (i * 2, 2) := placeT_slice elemT_34 i
@[simp] theorem zeroA_34 : zeroA Tryd.prog 34 = some [.list 2 [] .nil] := by kernel_rfl
@[simp] theorem isSliceT_34 : isSliceT Tryd.prog 34 = true := by kernel_rfl
@[simp] theorem elSz_34 : elSz Tryd.prog 34 = some 2 := by kernel_rfl
@[simp] theorem elBytes_34 : elBytes Tryd.prog 34 = some 16 := by kernel_rfl
@[simp] theorem tinfo_35 : tinfo Tryd.prog 35 = some (1, false) := by kernel_rfl
@[simp] theorem elemT_35 : elemT Tryd.prog 35 = some (.slice, 39, 4) := by kernel_rfl
@[simp] theorem placeT_35 (i : Nat) : placeT Tryd.prog 35 i = some (i * 4, 4) := placeT_slice elemT_35 i
@[simp] theorem zeroA_35 : zeroA Tryd.prog 35 = some [.list 4 [] .nil] := by kernel_rfl
@[simp] theorem isSliceT_35 : isSliceT Tryd.prog 35 = true := by kernel_rfl
@[simp] theorem elSz_35 : elSz Tryd.prog 35 = some 4 := by kernel_rfl
@[simp] theorem elBytes_35 : elBytes Tryd.prog 35 = some 32 := by kernel_rfl
@[simp] theorem tinfo_37 : tinfo Tryd.prog 37 = some (9, true) := by kernel_rfl
@[simp] theorem fldT_37_0 : fldT Tryd.prog 37 0 = some (0, 32, 1) := by kernel_rfl
@[simp] theorem placeT_37_0 : placeT Tryd.prog 37 0 = some (0, 1) := by kernel_rfl
@[simp] theorem fldT_37_1 : fldT Tryd.prog 37 1 = some (1, 33, 1) := by kernel_rfl
@[simp] theorem placeT_37_1 : placeT Tryd.prog 37 1 = some (1, 1) := by kernel_rfl
@[simp] theorem fldT_37_2 : fldT Tryd.prog 37 2 = some (2, 3, 1) := by kernel_rfl
@[simp] theorem placeT_37_2 : placeT Tryd.prog 37 2 = some (2, 1) := by kernel_rfl
@[simp] theorem fldT_37_3 : fldT Tryd.prog 37 3 = some (3, 3, 1) := by kernel_rfl
@[simp] theorem placeT_37_3 : placeT Tryd.prog 37 3 = some (3, 1) := by kernel_rfl
@[simp] theorem fldT_37_4 : fldT Tryd.prog 37 4 = some (4, 3, 1) := by kernel_rfl
@[simp] theorem placeT_37_4 : placeT Tryd.prog 37 4 = some (4, 1) := by kernel_rfl
@[simp] theorem fldT_37_5 : fldT Tryd.prog 37 5 = some (5, 34, 1) := by kernel_rfl
@[simp] theorem placeT_37_5 : placeT Tryd.prog 37 5 = some (5, 1) := by kernel_rfl
@[simp] theorem fldT_37_6 : fldT Tryd.prog 37 6 = some (6, 35, 1) := by kernel_rfl
@[simp] theorem placeT_37_6 : placeT Tryd.prog 37 6 = some (6, 1) := by kernel_rfl
@[simp] theorem fldT_37_7 : fldT Tryd.prog 37 7 = some (7, 4, 1) := by kernel_rfl
@[simp] theorem placeT_37_7 : placeT Tryd.prog 37 7 = some (7, 1) := by kernel_rfl
@[simp] theorem fldT_37_8 : fldT Tryd.prog 37 8 = some (8, 9, 1) := by kernel_rfl
@[simp] theorem placeT_37_8 : placeT Tryd.prog 37 8 = some (8, 1) := by kernel_rfl
@[simp] theorem flatK_37 : flatK Tryd.prog 37 = none := by kernel_rfl
@[simp] theorem zeroA_37 : zeroA Tryd.prog 37 = some [.list 4 [] .nil, .list 3 [] .nil, .int .i64 (0), .int .i64 (0), .int .i64 (0), .list 2 [] .nil, .list 4 [] .nil, .bool false, .str []] := by kernel_rfl
@[simp] theorem fieldsOk_37 : fieldsOk Tryd.prog 37 = true := by kernel_rfl
@[simp] theorem tinfo_39 : tinfo Tryd.prog 39 = some (4, true) := by kernel_rfl
@[simp] theorem fldT_39_0 : fldT Tryd.prog 39 0 = some (0, 3, 1) := by kernel_rfl
@[simp] theorem placeT_39_0 : placeT Tryd.prog 39 0 = some (0, 1) := by kernel_rfl
@[simp] theorem fldT_39_1 : fldT Tryd.prog 39 1 = some (1, 3, 1) := by kernel_rfl
@[simp] theorem placeT_39_1 : placeT Tryd.prog 39 1 = some (1, 1) := by kernel_rfl
@[simp] theorem fldT_39_2 : fldT Tryd.prog 39 2 = some (2, 3, 1) := by kernel_rfl
@[simp] theorem placeT_39_2 : placeT Tryd.prog 39 2 = some (2, 1) := by kernel_rfl
@[simp] theorem fldT_39_3 : fldT Tryd.prog 39 3 = some (3, 3, 1) := by kernel_rfl
@[simp] theorem placeT_39_3 : placeT Tryd.prog 39 3 = some (3, 1) := by kernel_rfl
@[simp] theorem flatK_39 : flatK Tryd.prog 39 = some [.int, .int, .int, .int] := by kernel_rfl
@[simp] theorem zeroA_39 : zeroA Tryd.prog 39 = some [.int .i64 (0), .int .i64 (0), .int .i64 (0), .int .i64 (0)] := by kernel_rfl
@[simp] theorem fieldsOk_39 : fieldsOk Tryd.prog 39 = true := by kernel_rfl
@[simp] theorem tinfo_40 : tinfo Tryd.prog 40 = some (1, false) := by kernel_rfl
@[simp] theorem tinfo_44 : tinfo Tryd.prog 44 = some (1, false) := by kernel_rfl
@[simp] theorem elemT_44 : elemT Tryd.prog 44 = some (.slice, 9, 1) := by kernel_rfl
@[simp] theorem placeT_44 (i : Nat) : placeT Tryd.prog 44 i = some (i * 1, 1) := placeT_slice elemT_44 i
@[simp] theorem zeroA_44 : zeroA Tryd.prog 44 = some [.list 1 [] .nil] := by kernel_rfl
@[simp] theorem isSliceT_44 : isSliceT Tryd.prog 44 = true := by kernel_rfl
@[simp] theorem elSz_44 : elSz Tryd.prog 44 = some 1 := by kernel_rfl
@[simp] theorem elBytes_44 : elBytes Tryd.prog 44 = some 16 := by kernel_rfl
@[simp] theorem tinfo_48 : tinfo Tryd.prog 48 = some (4, true) := by kernel_rfl
@[simp] theorem fldT_48_0 : fldT Tryd.prog 48 0 = some (0, 3, 1) := by kernel_rfl
@[simp] theorem placeT_48_0 : placeT Tryd.prog 48 0 = some (0, 1) := by kernel_rfl
@[simp] theorem fldT_48_1 : fldT Tryd.prog 48 1 = some (1, 3, 1) := by kernel_rfl
@[simp] theorem placeT_48_1 : placeT Tryd.prog 48 1 = some (1, 1) := by kernel_rfl
@[simp] theorem fldT_48_2 : fldT Tryd.prog 48 2 = some (2, 3, 1) := by kernel_rfl
@[simp] theorem placeT_48_2 : placeT Tryd.prog 48 2 = some (2, 1) := by kernel_rfl
@[simp] theorem fldT_48_3 : fldT Tryd.prog 48 3 = some (3, 3, 1) := by kernel_rfl
@[simp] theorem placeT_48_3 : placeT Tryd.prog 48 3 = some (3, 1) := by kernel_rfl
@[simp] theorem flatK_48 : flatK Tryd.prog 48 = some [.int, .int, .int, .int] := by kernel_rfl
@[simp] theorem zeroA_48 : zeroA Tryd.prog 48 = some [.int .i64 (0), .int .i64 (0), .int .i64 (0), .int .i64 (0)] := by kernel_rfl
@[simp] theorem fieldsOk_48 : fieldsOk Tryd.prog 48 = true := by kernel_rfl
@[simp] theorem tinfo_50 : tinfo Tryd.prog 50 = some (3, true) := by kernel_rfl
@[simp] theorem fldT_50_0 : fldT Tryd.prog 50 0 = some (0, 3, 1) := by kernel_rfl
@[simp] theorem placeT_50_0 : placeT Tryd.prog 50 0 = some (0, 1) := by kernel_rfl
@[simp] theorem fldT_50_1 : fldT Tryd.prog 50 1 = some (1, 2, 1) := by kernel_rfl
@[simp] theorem placeT_50_1 : placeT Tryd.prog 50 1 = some (1, 1) := by kernel_rfl
@[simp] theorem fldT_50_2 : fldT Tryd.prog 50 2 = some (2, 9, 1) := by kernel_rfl
@[simp] theorem placeT_50_2 : placeT Tryd.prog 50 2 = some (2, 1) := by kernel_rfl
@[simp] theorem flatK_50 : flatK Tryd.prog 50 = some [.int, .int, .str] := by kernel_rfl
@[simp] theorem zeroA_50 : zeroA Tryd.prog 50 = some [.int .i64 (0), .int .i64 (0), .str []] := by kernel_rfl
@[simp] theorem fieldsOk_50 : fieldsOk Tryd.prog 50 = true := by kernel_rfl
@[simp] theorem tinfo_57 : tinfo Tryd.prog 57 = some (1, false) := by kernel_rfl
@[simp] theorem zeroA_57 : zeroA Tryd.prog 57 = some [.nilp] := by kernel_rfl
@[simp] theorem isPtrT_57 : isPtrT Tryd.prog 57 = true := by kernel_rfl
@[simp] theorem tinfo_62 : tinfo Tryd.prog 62 = some (2, true) := by kernel_rfl
@[simp] theorem fldT_62_0 : fldT Tryd.prog 62 0 = some (0, 4, 1) := by kernel_rfl
@[simp] theorem placeT_62_0 : placeT Tryd.prog 62 0 = some (0, 1) := by kernel_rfl
@[simp] theorem fldT_62_1 : fldT Tryd.prog 62 1 = some (1, 3, 1) := by kernel_rfl
@[simp] theorem placeT_62_1 : placeT Tryd.prog 62 1 = some (1, 1) := by kernel_rfl
@[simp] theorem flatK_62 : flatK Tryd.prog 62 = some [.bool, .int] := by kernel_rfl
@[simp] theorem zeroA_62 : zeroA Tryd.prog 62 = some [.bool false, .int .i64 (0)] := by kernel_rfl
@[simp] theorem fieldsOk_62 : fieldsOk Tryd.prog 62 = true := by kernel_rfl
@[simp] theorem tinfo_64 : tinfo Tryd.prog 64 = some (1, false) := by kernel_rfl
@[simp] theorem zeroA_64 : zeroA Tryd.prog 64 = some [.nilp] := by kernel_rfl
@[simp] theorem isPtrT_64 : isPtrT Tryd.prog 64 = true := by kernel_rfl
@[simp] theorem tinfo_65 : tinfo Tryd.prog 65 = some (1, false) := by kernel_rfl
@[simp] theorem elemT_65 : elemT Tryd.prog 65 = some (.slice, 5, 1) := by kernel_rfl
@[simp] theorem placeT_65 (i : Nat) : placeT Tryd.prog 65 i = some (i * 1, 1) := placeT_slice elemT_65 i
@[simp] theorem zeroA_65 : zeroA Tryd.prog 65 = some [.list 1 [] .nil] := by kernel_rfl
@[simp] theorem isSliceT_65 : isSliceT Tryd.prog 65 = true := by kernel_rfl
@[simp] theorem elSz_65 : elSz Tryd.prog 65 = some 1 := by kernel_rfl
@[simp] theorem elBytes_65 : elBytes Tryd.prog 65 = some 1 := by kernel_rfl
@[simp] theorem convK_65_9 : convK Tryd.prog 65 9 = some .b2s := by kernel_rfl
@[simp] theorem tinfo_67 : tinfo Tryd.prog 67 = some (2, true) := by kernel_rfl
@[simp] theorem fldT_67_0 : fldT Tryd.prog 67 0 = some (0, 64, 1) := by kernel_rfl
@[simp] theorem placeT_67_0 : placeT Tryd.prog 67 0 = some (0, 1) := by kernel_rfl
@[simp] theorem fldT_67_1 : fldT Tryd.prog 67 1 = some (1, 65, 1) := by kernel_rfl
@[simp] theorem placeT_67_1 : placeT Tryd.prog 67 1 = some (1, 1) := by kernel_rfl
@[simp] theorem flatK_67 : flatK Tryd.prog 67 = none := by kernel_rfl
@[simp] theorem zeroA_67 : zeroA Tryd.prog 67 = some [.nilp, .list 1 [] .nil] := by kernel_rfl
@[simp] theorem fieldsOk_67 : fieldsOk Tryd.prog 67 = true := by kernel_rfl
@[simp] theorem tinfo_70 : tinfo Tryd.prog 70 = some (1, false) := by kernel_rfl
@[simp] theorem zeroA_70 : zeroA Tryd.prog 70 = some [.any] := by kernel_rfl
@[simp] theorem tinfo_71 : tinfo Tryd.prog 71 = some (1, false) := by kernel_rfl
@[simp] theorem tinfo_80 : tinfo Tryd.prog 80 = some (1, false) := by kernel_rfl
@[simp] theorem zeroA_80 : zeroA Tryd.prog 80 = some [.nilp] := by kernel_rfl
@[simp] theorem isPtrT_80 : isPtrT Tryd.prog 80 = true := by kernel_rfl
@[simp] theorem tinfo_82 : tinfo Tryd.prog 82 = some (3, true) := by kernel_rfl
@[simp] theorem elemT_82 : elemT Tryd.prog 82 = some (.array 3, 3, 1) := by kernel_rfl
@[simp] theorem placeT_82 (i : Nat) : placeT Tryd.prog 82 i = some (i * 1, 1) := placeT_array elemT_82 i
@[simp] theorem zeroA_82 : zeroA Tryd.prog 82 = some [.int .i64 (0), .int .i64 (0), .int .i64 (0)] := by kernel_rfl
@[simp] theorem fieldsOk_82 : fieldsOk Tryd.prog 82 = true := by kernel_rfl
@[simp] theorem tinfo_86 : tinfo Tryd.prog 86 = some (1, false) := by kernel_rfl
@[simp] theorem zeroA_86 : zeroA Tryd.prog 86 = some [.nilf] := by kernel_rfl
@[simp] theorem tinfo_88 : tinfo Tryd.prog 88 = some (1, false) := by kernel_rfl
@[simp] theorem zeroA_88 : zeroA Tryd.prog 88 = some [.nilp] := by kernel_rfl
@[simp] theorem tinfo_94 : tinfo Tryd.prog 94 = some (24, true) := by kernel_rfl
@[simp] theorem elemT_94 : elemT Tryd.prog 94 = some (.array 24, 5, 1) := by kernel_rfl
@[simp] theorem placeT_94 (i : Nat) : placeT Tryd.prog 94 i = some (i * 1, 1) := placeT_array elemT_94 i
@[simp] theorem zeroA_94 : zeroA Tryd.prog 94 = some [.int .u8 (0), .int .u8 (0), .int .u8 (0), .int .u8 (0), .int .u8 (0), .int .u8 (0), .int .u8 (0), .int .u8 (0), .int .u8 (0), .int .u8 (0), .int .u8 (0), .int .u8 (0), .int .u8 (0), .int .u8 (0), .int .u8 (0), .int .u8 (0), .int .u8 (0), .int .u8 (0), .int .u8 (0), .int .u8 (0), .int .u8 (0), .int .u8 (0), .int .u8 (0), .int .u8 (0)] := by kernel_rfl
@[simp] theorem fieldsOk_94 : fieldsOk Tryd.prog 94 = true := by kernel_rfl
@[simp] theorem tinfo_95 : tinfo Tryd.prog 95 = some (1, false) := by kernel_rfl
@[simp] theorem zeroA_95 : zeroA Tryd.prog 95 = some [.int .u64 (0)] := by kernel_rfl
@[simp] theorem convK_95_5 : convK Tryd.prog 95 5 = some (.int .u8) := by kernel_rfl
@[simp] theorem convK_95_107 : convK Tryd.prog 95 107 = some (.int .u32) := by kernel_rfl
@[simp] theorem tinfo_98 : tinfo Tryd.prog 98 = some (1, false) := by kernel_rfl
@[simp] theorem tinfo_101 : tinfo Tryd.prog 101 = some (1, false) := by kernel_rfl
@[simp] theorem tinfo_106 : tinfo Tryd.prog 106 = some (20, true) := by kernel_rfl
@[simp] theorem elemT_106 : elemT Tryd.prog 106 = some (.array 20, 95, 1) := by kernel_rfl
@[simp] theorem placeT_106 (i : Nat) : placeT Tryd.prog 106 i = some (i * 1, 1) := placeT_array elemT_106 i
@[simp] theorem zeroA_106 : zeroA Tryd.prog 106 = some [.int .u64 (0), .int .u64 (0), .int .u64 (0), .int .u64 (0), .int .u64 (0), .int .u64 (0), .int .u64 (0), .int .u64 (0), .int .u64 (0), .int .u64 (0), .int .u64 (0), .int .u64 (0), .int .u64 (0), .int .u64 (0), .int .u64 (0), .int .u64 (0), .int .u64 (0), .int .u64 (0), .int .u64 (0), .int .u64 (0)] := by kernel_rfl
@[simp] theorem fieldsOk_106 : fieldsOk Tryd.prog 106 = true := by kernel_rfl
@[simp] theorem tinfo_107 : tinfo Tryd.prog 107 = some (1, false) := by kernel_rfl
@[simp] theorem zeroA_107 : zeroA Tryd.prog 107 = some [.int .u32 (0)] := by kernel_rfl
@[simp] theorem convK_107_5 : convK Tryd.prog 107 5 = some (.int .u8) := by kernel_rfl
@[simp] theorem tinfo_108 : tinfo Tryd.prog 108 = some (65, true) := by kernel_rfl
@[simp] theorem elemT_108 : elemT Tryd.prog 108 = some (.array 65, 5, 1) := by kernel_rfl
@[simp] theorem placeT_108 (i : Nat) : placeT Tryd.prog 108 i = some (i * 1, 1) := placeT_array elemT_108 i
@[simp] theorem zeroA_108 : zeroA Tryd.prog 108 = some [.int .u8 (0), .int .u8 (0), .int .u8 (0), .int .u8 (0), .int .u8 (0), .int .u8 (0), .int .u8 (0), .int .u8 (0), .int .u8 (0), .int .u8 (0), .int .u8 (0), .int .u8 (0), .int .u8 (0), .int .u8 (0), .int .u8 (0), .int .u8 (0), .int .u8 (0), .int .u8 (0), .int .u8 (0), .int .u8 (0), .int .u8 (0), .int .u8 (0), .int .u8 (0), .int .u8 (0), .int .u8 (0), .int .u8 (0), .int .u8 (0), .int .u8 (0), .int .u8 (0), .int .u8 (0), .int .u8 (0), .int .u8 (0), .int .u8 (0), .int .u8 (0), .int .u8 (0), .int .u8 (0), .int .u8 (0), .int .u8 (0), .int .u8 (0), .int .u8 (0), .int .u8 (0), .int .u8 (0), .int .u8 (0), .int .u8 (0), .int .u8 (0), .int .u8 (0), .int .u8 (0), .int .u8 (0), .int .u8 (0), .int .u8 (0), .int .u8 (0), .int .u8 (0), .int .u8 (0), .int .u8 (0), .int .u8 (0), .int .u8 (0), .int .u8 (0), .int .u8 (0), .int .u8 (0), .int .u8 (0), .int .u8 (0), .int .u8 (0), .int .u8 (0), .int .u8 (0), .int .u8 (0)] := by kernel_rfl
@[simp] theorem fieldsOk_108 : fieldsOk Tryd.prog 108 = true := by kernel_rfl
@[simp] theorem tinfo_109 : tinfo Tryd.prog 109 = some (1, false) := by kernel_rfl
@[simp] theorem zeroA_109 : zeroA Tryd.prog 109 = some [.int .u64 (0)] := by kernel_rfl
@[simp] theorem convK_109_107 : convK Tryd.prog 109 107 = some (.int .u32) := by kernel_rfl
@[simp] theorem tinfo_112 : tinfo Tryd.prog 112 = some (256, true) := by kernel_rfl
@[simp] theorem elemT_112 : elemT Tryd.prog 112 = some (.array 256, 5, 1) := by kernel_rfl
@[simp] theorem placeT_112 (i : Nat) : placeT Tryd.prog 112 i = some (i * 1, 1) := placeT_array elemT_112 i
@[simp] theorem zeroA_112 : zeroA Tryd.prog 112 = some [.int .u8 (0), .int .u8 (0), .int .u8 (0), .int .u8 (0), .int .u8 (0), .int .u8 (0), .int .u8 (0), .int .u8 (0), .int .u8 (0), .int .u8 (0), .int .u8 (0), .int .u8 (0), .int .u8 (0), .int .u8 (0), .int .u8 (0), .int .u8 (0), .int .u8 (0), .int .u8 (0), .int .u8 (0), .int .u8 (0), .int .u8 (0), .int .u8 (0), .int .u8 (0), .int .u8 (0), .int .u8 (0), .int .u8 (0), .int .u8 (0), .int .u8 (0), .int .u8 (0), .int .u8 (0), .int .u8 (0), .int .u8 (0), .int .u8 (0), .int .u8 (0), .int .u8 (0), .int .u8 (0), .int .u8 (0), .int .u8 (0), .int .u8 (0), .int .u8 (0), .int .u8 (0), .int .u8 (0), .int .u8 (0), .int .u8 (0), .int .u8 (0), .int .u8 (0), .int .u8 (0), .int .u8 (0), .int .u8 (0), .int .u8 (0), .int .u8 (0), .int .u8 (0), .int .u8 (0), .int .u8 (0), .int .u8 (0), .int .u8 (0), .int .u8 (0), .int .u8 (0), .int .u8 (0), .int .u8 (0), .int .u8 (0), .int .u8 (0), .int .u8 (0), .int .u8 (0), .int .u8 (0), .int .u8 (0), .int .u8 (0), .int .u8 (0), .int .u8 (0), .int .u8 (0), .int .u8 (0), .int .u8 (0), .int .u8 (0), .int .u8 (0), .int .u8 (0), .int .u8 (0), .int .u8 (0), .int .u8 (0), .int .u8 (0), .int .u8 (0), .int .u8 (0), .int .u8 (0), .int .u8 (0), .int .u8 (0), .int .u8 (0), .int .u8 (0), .int .u8 (0), .int .u8 (0), .int .u8 (0), .int .u8 (0), .int .u8 (0), .int .u8 (0), .int .u8 (0), .int .u8 (0), .int .u8 (0), .int .u8 (0), .int .u8 (0), .int .u8 (0), .int .u8 (0), .int .u8 (0), .int .u8 (0), .int .u8 (0), .int .u8 (0), .int .u8 (0), .int .u8 (0), .int .u8 (0), .int .u8 (0), .int .u8 (0), .int .u8 (0), .int .u8 (0), .int .u8 (0), .int .u8 (0), .int .u8 (0), .int .u8 (0), .int .u8 (0), .int .u8 (0), .int .u8 (0), .int .u8 (0), .int .u8 (0), .int .u8 (0), .int .u8 (0), .int .u8 (0), .int .u8 (0), .int .u8 (0), .int .u8 (0), .int .u8 (0), .int .u8 (0), .int .u8 (0), .int .u8 (0), .int .u8 (0), .int .u8 (0), .int .u8 (0), .int .u8 (0), .int .u8 (0), .int .u8 (0), .int .u8 (0), .int .u8 (0), .int .u8 (0), .int .u8 (0), .int .u8 (0), .int .u8 (0), .int .u8 (0), .int .u8 (0), .int .u8 (0), .int .u8 (0), .int .u8 (0), .int .u8 (0), .int .u8 (0), .int .u8 (0), .int .u8 (0), .int .u8 (0), .int .u8 (0), .int .u8 (0), .int .u8 (0), .int .u8 (0), .int .u8 (0), .int .u8 (0), .int .u8 (0), .int .u8 (0), .int .u8 (0), .int .u8 (0), .int .u8 (0), .int .u8 (0), .int .u8 (0), .int .u8 (0), .int .u8 (0), .int .u8 (0), .int .u8 (0), .int .u8 (0), .int .u8 (0), .int .u8 (0), .int .u8 (0), .int .u8 (0), .int .u8 (0), .int .u8 (0), .int .u8 (0), .int .u8 (0), .int .u8 (0), .int .u8 (0), .int .u8 (0), .int .u8 (0), .int .u8 (0), .int .u8 (0), .int .u8 (0), .int .u8 (0), .int .u8 (0), .int .u8 (0), .int .u8 (0), .int .u8 (0), .int .u8 (0), .int .u8 (0), .int .u8 (0), .int .u8 (0), .int .u8 (0), .int .u8 (0), .int .u8 (0), .int .u8 (0), .int .u8 (0), .int .u8 (0), .int .u8 (0), .int .u8 (0), .int .u8 (0), .int .u8 (0), .int .u8 (0), .int .u8 (0), .int .u8 (0), .int .u8 (0), .int .u8 (0), .int .u8 (0), .int .u8 (0), .int .u8 (0), .int .u8 (0), .int .u8 (0), .int .u8 (0), .int .u8 (0), .int .u8 (0), .int .u8 (0), .int .u8 (0), .int .u8 (0), .int .u8 (0), .int .u8 (0), .int .u8 (0), .int .u8 (0), .int .u8 (0), .int .u8 (0), .int .u8 (0), .int .u8 (0), .int .u8 (0), .int .u8 (0), .int .u8 (0), .int .u8 (0), .int .u8 (0), .int .u8 (0), .int .u8 (0), .int .u8 (0), .int .u8 (0), .int .u8 (0), .int .u8 (0), .int .u8 (0), .int .u8 (0), .int .u8 (0), .int .u8 (0), .int .u8 (0), .int .u8 (0), .int .u8 (0), .int .u8 (0), .int .u8 (0), .int .u8 (0), .int .u8 (0), .int .u8 (0), .int .u8 (0), .int .u8 (0), .int .u8 (0), .int .u8 (0), .int .u8 (0), .int .u8 (0)] := by kernel_rfl
@[simp] theorem fieldsOk_112 : fieldsOk Tryd.prog 112 = true := by kernel_rfl
@[simp] theorem tinfo_114 : tinfo Tryd.prog 114 = some (2, true) := by kernel_rfl
@[simp] theorem fldT_114_0 : fldT Tryd.prog 114 0 = some (0, 5, 1) := by kernel_rfl
@[simp] theorem placeT_114_0 : placeT Tryd.prog 114 0 = some (0, 1) := by kernel_rfl
@[simp] theorem fldT_114_1 : fldT Tryd.prog 114 1 = some (1, 5, 1) := by kernel_rfl
@[simp] theorem placeT_114_1 : placeT Tryd.prog 114 1 = some (1, 1) := by kernel_rfl
@[simp] theorem flatK_114 : flatK Tryd.prog 114 = some [.int, .int] := by kernel_rfl
@[simp] theorem zeroA_114 : zeroA Tryd.prog 114 = some [.int .u8 (0), .int .u8 (0)] := by kernel_rfl
@[simp] theorem fieldsOk_114 : fieldsOk Tryd.prog 114 = true := by kernel_rfl
@[simp] theorem tinfo_115 : tinfo Tryd.prog 115 = some (32, true) := by kernel_rfl
@[simp] theorem elemT_115 : elemT Tryd.prog 115 = some (.array 16, 114, 2) := by kernel_rfl
@[simp] theorem placeT_115 (i : Nat) : placeT Tryd.prog 115 i = some (i * 2, 2) := placeT_array elemT_115 i
@[simp] theorem zeroA_115 : zeroA Tryd.prog 115 = some [.int .u8 (0), .int .u8 (0), .int .u8 (0), .int .u8 (0), .int .u8 (0), .int .u8 (0), .int .u8 (0), .int .u8 (0), .int .u8 (0), .int .u8 (0), .int .u8 (0), .int .u8 (0), .int .u8 (0), .int .u8 (0), .int .u8 (0), .int .u8 (0), .int .u8 (0), .int .u8 (0), .int .u8 (0), .int .u8 (0), .int .u8 (0), .int .u8 (0), .int .u8 (0), .int .u8 (0), .int .u8 (0), .int .u8 (0), .int .u8 (0), .int .u8 (0), .int .u8 (0), .int .u8 (0), .int .u8 (0), .int .u8 (0)] := by kernel_rfl
@[simp] theorem fieldsOk_115 : fieldsOk Tryd.prog 115 = true := by kernel_rfl
@[simp] theorem tinfo_116 : tinfo Tryd.prog 116 = some (1, false) := by kernel_rfl
@[simp] theorem tinfo_118 : tinfo Tryd.prog 118 = some (32, true) := by kernel_rfl
@[simp] theorem elemT_118 : elemT Tryd.prog 118 = some (.array 32, 5, 1) := by kernel_rfl
@[simp] theorem placeT_118 (i : Nat) : placeT Tryd.prog 118 i = some (i * 1, 1) := placeT_array elemT_118 i
@[simp] theorem zeroA_118 : zeroA Tryd.prog 118 = some [.int .u8 (0), .int .u8 (0), .int .u8 (0), .int .u8 (0), .int .u8 (0), .int .u8 (0), .int .u8 (0), .int .u8 (0), .int .u8 (0), .int .u8 (0), .int .u8 (0), .int .u8 (0), .int .u8 (0), .int .u8 (0), .int .u8 (0), .int .u8 (0), .int .u8 (0), .int .u8 (0), .int .u8 (0), .int .u8 (0), .int .u8 (0), .int .u8 (0), .int .u8 (0), .int .u8 (0), .int .u8 (0), .int .u8 (0), .int .u8 (0), .int .u8 (0), .int .u8 (0), .int .u8 (0), .int .u8 (0), .int .u8 (0)] := by kernel_rfl
@[simp] theorem fieldsOk_118 : fieldsOk Tryd.prog 118 = true := by kernel_rfl
@[simp] theorem tinfo_119 : tinfo Tryd.prog 119 = some (64, true) := by kernel_rfl
@[simp] theorem elemT_119 : elemT Tryd.prog 119 = some (.array 64, 5, 1) := by kernel_rfl
@[simp] theorem placeT_119 (i : Nat) : placeT Tryd.prog 119 i = some (i * 1, 1) := placeT_array elemT_119 i
@[simp] theorem zeroA_119 : zeroA Tryd.prog 119 = some [.int .u8 (0), .int .u8 (0), .int .u8 (0), .int .u8 (0), .int .u8 (0), .int .u8 (0), .int .u8 (0), .int .u8 (0), .int .u8 (0), .int .u8 (0), .int .u8 (0), .int .u8 (0), .int .u8 (0), .int .u8 (0), .int .u8 (0), .int .u8 (0), .int .u8 (0), .int .u8 (0), .int .u8 (0), .int .u8 (0), .int .u8 (0), .int .u8 (0), .int .u8 (0), .int .u8 (0), .int .u8 (0), .int .u8 (0), .int .u8 (0), .int .u8 (0), .int .u8 (0), .int .u8 (0), .int .u8 (0), .int .u8 (0), .int .u8 (0), .int .u8 (0), .int .u8 (0), .int .u8 (0), .int .u8 (0), .int .u8 (0), .int .u8 (0), .int .u8 (0), .int .u8 (0), .int .u8 (0), .int .u8 (0), .int .u8 (0), .int .u8 (0), .int .u8 (0), .int .u8 (0), .int .u8 (0), .int .u8 (0), .int .u8 (0), .int .u8 (0), .int .u8 (0), .int .u8 (0), .int .u8 (0), .int .u8 (0), .int .u8 (0), .int .u8 (0), .int .u8 (0), .int .u8 (0), .int .u8 (0), .int .u8 (0), .int .u8 (0), .int .u8 (0), .int .u8 (0)] := by kernel_rfl
@[simp] theorem fieldsOk_119 : fieldsOk Tryd.prog 119 = true := by kernel_rfl
@[simp] theorem tinfo_127 : tinfo Tryd.prog 127 = some (1, false) := by kernel_rfl
@[simp] theorem zeroA_127 : zeroA Tryd.prog 127 = some [.int .u8 (0)] := by kernel_rfl
@[simp] theorem callable_2 : callable Tryd.prog 2 = true := by kernel_rfl
@[simp] theorem callable_3 : callable Tryd.prog 3 = true := by kernel_rfl
@[simp] theorem callable_4 : callable Tryd.prog 4 = true := by kernel_rfl
@[simp] theorem callable_5 : callable Tryd.prog 5 = true := by kernel_rfl
@[simp] theorem callable_6 : callable Tryd.prog 6 = true := by kernel_rfl
@[simp] theorem callable_7 : callable Tryd.prog 7 = true := by kernel_rfl
@[simp] theorem callable_8 : callable Tryd.prog 8 = true := by kernel_rfl
@[simp] theorem callable_9 : callable Tryd.prog 9 = true := by kernel_rfl
@[simp] theorem callable_10 : callable Tryd.prog 10 = true := by kernel_rfl
@[simp] theorem callable_11 : callable Tryd.prog 11 = true := by kernel_rfl
@[simp] theorem callable_12 : callable Tryd.prog 12 = true := by kernel_rfl
@[simp] theorem callable_13 : callable Tryd.prog 13 = true := by kernel_rfl
@[simp] theorem callable_14 : callable Tryd.prog 14 = true := by kernel_rfl
@[simp] theorem callable_15 : callable Tryd.prog 15 = true := by kernel_rfl
@[simp] theorem callable_16 : callable Tryd.prog 16 = true := by kernel_rfl
@[simp] theorem callable_17 : callable Tryd.prog 17 = true := by kernel_rfl
@[simp] theorem callable_18 : callable Tryd.prog 18 = true := by kernel_rfl
@[simp] theorem callable_19 : callable Tryd.prog 19 = true := by kernel_rfl
@[simp] theorem callable_20 : callable Tryd.prog 20 = true := by kernel_rfl
@[simp] theorem callable_21 : callable Tryd.prog 21 = true := by kernel_rfl
@[simp] theorem callable_22 : callable Tryd.prog 22 = true := by kernel_rfl
@[simp] theorem callable_23 : callable Tryd.prog 23 = true := by kernel_rfl
@[simp] theorem callable_24 : callable Tryd.prog 24 = true := by kernel_rfl
@[simp] theorem callable_25 : callable Tryd.prog 25 = true := by kernel_rfl
@[simp] theorem callable_26 : callable Tryd.prog 26 = true := by kernel_rfl
@[simp] theorem callable_27 : callable Tryd.prog 27 = true := by kernel_rfl
@[simp] theorem callable_28 : callable Tryd.prog 28 = true := by kernel_rfl
@[simp] theorem callable_29 : callable Tryd.prog 29 = true := by kernel_rfl
@[simp] theorem callable_30 : callable Tryd.prog 30 = true := by kernel_rfl
@[simp] theorem callable_31 : callable Tryd.prog 31 = true := by kernel_rfl
@[simp] theorem callable_32 : callable Tryd.prog 32 = true := by kernel_rfl
@[simp] theorem callable_33 : callable Tryd.prog 33 = true := by kernel_rfl
@[simp] theorem callable_34 : callable Tryd.prog 34 = true := by kernel_rfl
@[simp] theorem callable_35 : callable Tryd.prog 35 = true := by kernel_rfl
@[simp] theorem callable_36 : callable Tryd.prog 36 = true := by kernel_rfl
@[simp] theorem callable_37 : callable Tryd.prog 37 = true := by kernel_rfl
@[simp] theorem callable_38 : callable Tryd.prog 38 = true := by kernel_rfl
@[simp] theorem callable_39 : callable Tryd.prog 39 = true := by kernel_rfl
@[simp] theorem callable_40 : callable Tryd.prog 40 = true := by kernel_rfl
@[simp] theorem callable_41 : callable Tryd.prog 41 = true := by kernel_rfl
@[simp] theorem callable_42 : callable Tryd.prog 42 = true := by kernel_rfl
@[simp] theorem callable_45 : callable Tryd.prog 45 = true := by kernel_rfl
@[simp] theorem callable_46 : callable Tryd.prog 46 = true := by kernel_rfl
@[simp] theorem callable_47 : callable Tryd.prog 47 = true := by kernel_rfl
@[simp] theorem callable_48 : callable Tryd.prog 48 = true := by kernel_rfl
@[simp] theorem callable_49 : callable Tryd.prog 49 = true := by kernel_rfl
@[simp] theorem callable_50 : callable Tryd.prog 50 = true := by kernel_rfl
@[simp] theorem callable_51 : callable Tryd.prog 51 = true := by kernel_rfl
@[simp] theorem callable_52 : callable Tryd.prog 52 = true := by kernel_rfl
@[simp] theorem callable_53 : callable Tryd.prog 53 = true := by kernel_rfl
@[simp] theorem callable_54 : callable Tryd.prog 54 = true := by kernel_rfl
@[simp] theorem callable_56 : callable Tryd.prog 56 = true := by kernel_rfl
@[simp] theorem callable_57 : callable Tryd.prog 57 = true := by kernel_rfl
@[simp] theorem callable_58 : callable Tryd.prog 58 = true := by kernel_rfl
@[simp] theorem callable_59 : callable Tryd.prog 59 = true := by kernel_rfl
@[simp] theorem callable_60 : callable Tryd.prog 60 = true := by kernel_rfl
@[simp] theorem callable_61 : callable Tryd.prog 61 = true := by kernel_rfl
@[simp] theorem callable_62 : callable Tryd.prog 62 = true := by kernel_rfl
@[simp] theorem callable_63 : callable Tryd.prog 63 = true := by kernel_rfl
@[simp] theorem callable_65 : callable Tryd.prog 65 = true := by kernel_rfl
@[simp] theorem callable_66 : callable Tryd.prog 66 = true := by kernel_rfl
@[simp] theorem callable_67 : callable Tryd.prog 67 = true := by kernel_rfl
@[simp] theorem callable_68 : callable Tryd.prog 68 = true := by kernel_rfl
@[simp] theorem callable_70 : callable Tryd.prog 70 = true := by kernel_rfl
@[simp] theorem callable_96 : callable Tryd.prog 96 = true := by kernel_rfl
end Go.Proofs.YtgcpgoggngkbjaaDoor
