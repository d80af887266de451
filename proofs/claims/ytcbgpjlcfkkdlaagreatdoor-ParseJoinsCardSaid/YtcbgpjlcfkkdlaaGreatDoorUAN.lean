import Derived.Test.YtcbgpjlcfkkdlaaGreatDoorProg
import Derived.Test.YtcbgpjlcfkkdlaaGreatDoorUAG
import Derived.KernelRfl
set_option linter.unusedSimpArgs false
set_option linter.unusedVariables false
set_option maxRecDepth 100000
set_option maxHeartbeats 16000000
namespace Go.Proofs.YtcbgpjlcfkkdlaaGreatDoor
open Go Go.AL Go.Proofs
set_option maxRecDepth 100000
theorem follows : Tryz.prog.follows .mixedOrders = true := by kernel_rfl
@[simp] theorem tinfo_2 : tinfo Tryz.prog 2 = some (1, false) := by kernel_rfl
@[simp] theorem tinfo_3 : tinfo Tryz.prog 3 = some (1, false) := by kernel_rfl
@[simp] theorem zeroA_3 : zeroA Tryz.prog 3 = some [.int .i64 (0)] := by kernel_rfl
@[simp] theorem convK_3_5 : convK Tryz.prog 3 5 = some (.int .u8) := by kernel_rfl
@[simp] theorem convK_3_112 : convK Tryz.prog 3 112 = some (.int .u64) := by kernel_rfl
@[simp] theorem tinfo_4 : tinfo Tryz.prog 4 = some (1, false) := by kernel_rfl
@[simp] theorem zeroA_4 : zeroA Tryz.prog 4 = some [.bool false] := by kernel_rfl
@[simp] theorem isBoolT_4 : isBoolT Tryz.prog 4 = true := by kernel_rfl
@[simp] theorem zeroA_5 : zeroA Tryz.prog 5 = some [.int .u8 (0)] := by kernel_rfl
@[simp] theorem convK_5_2 : convK Tryz.prog 5 2 = some (.int .i64) := by kernel_rfl
@[simp] theorem convK_5_3 : convK Tryz.prog 5 3 = some (.int .i64) := by kernel_rfl
@[simp] theorem tinfo_9 : tinfo Tryz.prog 9 = some (1, false) := by kernel_rfl
@[simp] theorem elemT_9 : elemT Tryz.prog 9 = some (.string, 0, 1) := by kernel_rfl
@[simp] theorem tinfo_23 : tinfo Tryz.prog 23 = some (1, false) := by kernel_rfl
@[simp] theorem elemT_23 : elemT Tryz.prog 23 = some (.slice, 43, 5) := by kernel_rfl
@[simp] theorem placeT_23 (i : Nat) : placeT Tryz.prog 23 i = some (i * 5, 5) := placeT_slice elemT_23 i
@[simp] theorem isSliceT_23 : isSliceT Tryz.prog 23 = true := by kernel_rfl
@[simp] theorem elSz_23 : elSz Tryz.prog 23 = some 5 := by kernel_rfl
@[simp] theorem elBytes_23 : elBytes Tryz.prog 23 = some 64 := by kernel_rfl
@[simp] theorem tinfo_25 : tinfo Tryz.prog 25 = some (1, true) := by kernel_rfl
@[simp] theorem fldT_25_0 : fldT Tryz.prog 25 0 = some (0, 23, 1) := by kernel_rfl
@[simp] theorem placeT_25_0 : placeT Tryz.prog 25 0 = some (0, 1) := by kernel_rfl
@[simp] theorem zeroA_25 : zeroA Tryz.prog 25 = some [.list 5 [] .nil] := by kernel_rfl
@[simp] theorem fieldsOk_25 : fieldsOk Tryz.prog 25 = true := by kernel_rfl
@[simp] theorem tinfo_26 : tinfo Tryz.prog 26 = some (1, false) := by kernel_rfl
@[simp] theorem tinfo_28 : tinfo Tryz.prog 28 = some (2, true) := by kernel_rfl
@[simp] theorem fldT_28_0 : fldT Tryz.prog 28 0 = some (0, 26, 1) := by kernel_rfl
@[simp] theorem placeT_28_0 : placeT Tryz.prog 28 0 = some (0, 1) := by kernel_rfl
@[simp] theorem fldT_28_1 : fldT Tryz.prog 28 1 = some (1, 3, 1) := by kernel_rfl
@[simp] theorem placeT_28_1 : placeT Tryz.prog 28 1 = some (1, 1) := by kernel_rfl
@[simp] theorem flatK_28 : flatK Tryz.prog 28 = some [.int, .int] := by kernel_rfl
@[simp] theorem zeroA_28 : zeroA Tryz.prog 28 = some [.int .i64 (0), .int .i64 (0)] := by kernel_rfl
@[simp] theorem fieldsOk_28 : fieldsOk Tryz.prog 28 = true := by kernel_rfl
@[simp] theorem tinfo_31 : tinfo Tryz.prog 31 = some (1, false) := by kernel_rfl
@[simp] theorem elemT_31 : elemT Tryz.prog 31 = some (.slice, 36, 5) := by kernel_rfl
@[simp] theorem placeT_31 (i : Nat) : placeT Tryz.prog 31 i = some (i * 5, 5) := placeT_slice elemT_31 i
@[simp] theorem elSz_31 : elSz Tryz.prog 31 = some 5 := by kernel_rfl
@[simp] theorem elBytes_31 : elBytes Tryz.prog 31 = some 48 := by kernel_rfl
@[simp] theorem tinfo_36 : tinfo Tryz.prog 36 = some (5, true) := by kernel_rfl
@[simp] theorem fldT_36_0 : fldT Tryz.prog 36 0 = some (0, 3, 1) := by kernel_rfl
@[simp] theorem placeT_36_0 : placeT Tryz.prog 36 0 = some (0, 1) := by kernel_rfl
@[simp] theorem fldT_36_1 : fldT Tryz.prog 36 1 = some (1, 3, 1) := by kernel_rfl
@[simp] theorem placeT_36_1 : placeT Tryz.prog 36 1 = some (1, 1) := by kernel_rfl
@[simp] theorem fldT_36_2 : fldT Tryz.prog 36 2 = some (2, 9, 1) := by kernel_rfl
@[simp] theorem placeT_36_2 : placeT Tryz.prog 36 2 = some (2, 1) := by kernel_rfl
@[simp] theorem fldT_36_3 : fldT Tryz.prog 36 3 = some (3, 2, 1) := by kernel_rfl
@[simp] theorem placeT_36_3 : placeT Tryz.prog 36 3 = some (3, 1) := by kernel_rfl
@[simp] theorem fldT_36_4 : fldT Tryz.prog 36 4 = some (4, 4, 1) := by kernel_rfl
@[simp] theorem placeT_36_4 : placeT Tryz.prog 36 4 = some (4, 1) := by kernel_rfl
@[simp] theorem zeroA_36 : zeroA Tryz.prog 36 = some [.int .i64 (0), .int .i64 (0), .str [], .int .i64 (0), .bool false] := by kernel_rfl
@[simp] theorem fieldsOk_36 : fieldsOk Tryz.prog 36 = true := by kernel_rfl
@[simp] theorem tinfo_38 : tinfo Tryz.prog 38 = some (1, false) := by kernel_rfl
@[simp] theorem elemT_38 : elemT Tryz.prog 38 = some (.slice, 9, 1) := by kernel_rfl
@[simp] theorem elemT_40 : elemT Tryz.prog 40 = some (.slice, 5, 1) := by kernel_rfl
@[simp] theorem placeT_40 (i : Nat) : placeT Tryz.prog 40 i = some (i * 1, 1) := placeT_slice elemT_40 i
@[simp] theorem elBytes_40 : elBytes Tryz.prog 40 = some 1 := by kernel_rfl
@[simp] theorem tinfo_41 : tinfo Tryz.prog 41 = some (1, false) := by kernel_rfl
@[simp] theorem elemT_41 : elemT Tryz.prog 41 = some (.slice, 3, 1) := by kernel_rfl
@[simp] theorem placeT_41 (i : Nat) : placeT Tryz.prog 41 i = some (i * 1, 1) := placeT_slice elemT_41 i
@[simp] theorem isSliceT_41 : isSliceT Tryz.prog 41 = true := by kernel_rfl
@[simp] theorem elSz_41 : elSz Tryz.prog 41 = some 1 := by kernel_rfl
@[simp] theorem elBytes_41 : elBytes Tryz.prog 41 = some 8 := by kernel_rfl
@[simp] theorem tinfo_43 : tinfo Tryz.prog 43 = some (5, true) := by kernel_rfl
@[simp] theorem fldT_43_0 : fldT Tryz.prog 43 0 = some (0, 3, 1) := by kernel_rfl
@[simp] theorem placeT_43_0 : placeT Tryz.prog 43 0 = some (0, 1) := by kernel_rfl
@[simp] theorem fldT_43_1 : fldT Tryz.prog 43 1 = some (1, 3, 1) := by kernel_rfl
@[simp] theorem placeT_43_1 : placeT Tryz.prog 43 1 = some (1, 1) := by kernel_rfl
@[simp] theorem fldT_43_2 : fldT Tryz.prog 43 2 = some (2, 9, 1) := by kernel_rfl
@[simp] theorem placeT_43_2 : placeT Tryz.prog 43 2 = some (2, 1) := by kernel_rfl
@[simp] theorem fldT_43_3 : fldT Tryz.prog 43 3 = some (3, 2, 1) := by kernel_rfl
@[simp] theorem placeT_43_3 : placeT Tryz.prog 43 3 = some (3, 1) := by kernel_rfl
@[simp] theorem fldT_43_4 : fldT Tryz.prog 43 4 = some (4, 41, 1) := by kernel_rfl
@[simp] theorem placeT_43_4 : placeT Tryz.prog 43 4 = some (4, 1) := by kernel_rfl
@[simp] theorem zeroA_43 : zeroA Tryz.prog 43 = some [.int .i64 (0), .int .i64 (0), .str [], .int .i64 (0), .list 1 [] .nil] := by kernel_rfl
@[simp] theorem fieldsOk_43 : fieldsOk Tryz.prog 43 = true := by kernel_rfl
@[simp] theorem fldT_56_0 : fldT Tryz.prog 56 0 = some (0, 25, 1) := by kernel_rfl
@[simp] theorem fldT_58_0 : fldT Tryz.prog 58 0 = some (0, 31, 1) := by kernel_rfl
@[simp] theorem placeT_58_0 : placeT Tryz.prog 58 0 = some (0, 1) := by kernel_rfl
@[simp] theorem fldT_58_1 : fldT Tryz.prog 58 1 = some (1, 3, 1) := by kernel_rfl
@[simp] theorem fldT_58_2 : fldT Tryz.prog 58 2 = some (2, 3, 1) := by kernel_rfl
@[simp] theorem fldT_58_3 : fldT Tryz.prog 58 3 = some (3, 56, 1) := by kernel_rfl
@[simp] theorem fldT_58_4 : fldT Tryz.prog 58 4 = some (4, 41, 1) := by kernel_rfl
@[simp] theorem fldT_58_5 : fldT Tryz.prog 58 5 = some (5, 28, 2) := by kernel_rfl
@[simp] theorem zeroA_58 : zeroA Tryz.prog 58 = some [.list 5 [] .nil, .int .i64 (0), .int .i64 (0), .list 5 [] .nil, .list 1 [] .nil, .int .i64 (0), .int .i64 (0)] := by kernel_rfl
@[simp] theorem fieldsOk_58 : fieldsOk Tryz.prog 58 = true := by kernel_rfl
@[simp] theorem fldT_66_0 : fldT Tryz.prog 66 0 = some (0, 9, 1) := by kernel_rfl
@[simp] theorem placeT_66_0 : placeT Tryz.prog 66 0 = some (0, 1) := by kernel_rfl
@[simp] theorem fldT_66_1 : fldT Tryz.prog 66 1 = some (1, 3, 1) := by kernel_rfl
@[simp] theorem fldT_66_2 : fldT Tryz.prog 66 2 = some (2, 4, 1) := by kernel_rfl
@[simp] theorem fldT_66_3 : fldT Tryz.prog 66 3 = some (3, 38, 1) := by kernel_rfl
@[simp] theorem placeT_66_3 : placeT Tryz.prog 66 3 = some (3, 1) := by kernel_rfl
@[simp] theorem zeroA_66 : zeroA Tryz.prog 66 = some [.str [], .int .i64 (0), .bool false, .list 1 [] .nil] := by kernel_rfl
@[simp] theorem fieldsOk_66 : fieldsOk Tryz.prog 66 = true := by kernel_rfl
@[simp] theorem elemT_71 : elemT Tryz.prog 71 = some (.slice, 4, 1) := by kernel_rfl
@[simp] theorem elBytes_71 : elBytes Tryz.prog 71 = some 1 := by kernel_rfl
@[simp] theorem convK_112_2 : convK Tryz.prog 112 2 = some (.int .i64) := by kernel_rfl
@[simp] theorem callable_8 : callable Tryz.prog 8 = true := by kernel_rfl
@[simp] theorem callable_9 : callable Tryz.prog 9 = true := by kernel_rfl
@[simp] theorem callable_10 : callable Tryz.prog 10 = true := by kernel_rfl
@[simp] theorem callable_11 : callable Tryz.prog 11 = true := by kernel_rfl
@[simp] theorem callable_13 : callable Tryz.prog 13 = true := by kernel_rfl
@[simp] theorem callable_16 : callable Tryz.prog 16 = true := by kernel_rfl
@[simp] theorem callable_19 : callable Tryz.prog 19 = true := by kernel_rfl
@[simp] theorem callable_20 : callable Tryz.prog 20 = true := by kernel_rfl
@[simp] theorem callable_21 : callable Tryz.prog 21 = true := by kernel_rfl
@[simp] theorem callable_22 : callable Tryz.prog 22 = true := by kernel_rfl
@[simp] theorem callable_23 : callable Tryz.prog 23 = true := by kernel_rfl
@[simp] theorem callable_24 : callable Tryz.prog 24 = true := by kernel_rfl
@[simp] theorem callable_25 : callable Tryz.prog 25 = true := by kernel_rfl
@[simp] theorem callable_26 : callable Tryz.prog 26 = true := by kernel_rfl
@[simp] theorem callable_27 : callable Tryz.prog 27 = true := by kernel_rfl
@[simp] theorem callable_28 : callable Tryz.prog 28 = true := by kernel_rfl
@[simp] theorem callable_29 : callable Tryz.prog 29 = true := by kernel_rfl
@[simp] theorem callable_30 : callable Tryz.prog 30 = true := by kernel_rfl
@[simp] theorem callable_35 : callable Tryz.prog 35 = true := by kernel_rfl
@[simp] theorem callable_43 : callable Tryz.prog 43 = true := by kernel_rfl
@[simp] theorem callable_44 : callable Tryz.prog 44 = true := by kernel_rfl
@[simp] theorem callable_45 : callable Tryz.prog 45 = true := by kernel_rfl
@[simp] theorem callable_46 : callable Tryz.prog 46 = true := by kernel_rfl
@[simp] theorem callable_47 : callable Tryz.prog 47 = true := by kernel_rfl
@[simp] theorem callable_48 : callable Tryz.prog 48 = true := by kernel_rfl
@[simp] theorem callable_49 : callable Tryz.prog 49 = true := by kernel_rfl
@[simp] theorem callable_50 : callable Tryz.prog 50 = true := by kernel_rfl
@[simp] theorem callable_51 : callable Tryz.prog 51 = true := by kernel_rfl
@[simp] theorem callable_52 : callable Tryz.prog 52 = true := by kernel_rfl
@[simp] theorem callable_53 : callable Tryz.prog 53 = true := by kernel_rfl
@[simp] theorem callable_55 : callable Tryz.prog 55 = true := by kernel_rfl
@[simp] theorem callable_56 : callable Tryz.prog 56 = true := by kernel_rfl
@[simp] theorem callable_57 : callable Tryz.prog 57 = true := by kernel_rfl
@[simp] theorem callable_58 : callable Tryz.prog 58 = true := by kernel_rfl
@[simp] theorem callable_59 : callable Tryz.prog 59 = true := by kernel_rfl
@[simp] theorem callable_60 : callable Tryz.prog 60 = true := by kernel_rfl
@[simp] theorem callable_61 : callable Tryz.prog 61 = true := by kernel_rfl
@[simp] theorem callable_62 : callable Tryz.prog 62 = true := by kernel_rfl
@[simp] theorem callable_63 : callable Tryz.prog 63 = true := by kernel_rfl
@[simp] theorem callable_64 : callable Tryz.prog 64 = true := by kernel_rfl
@[simp] theorem callable_65 : callable Tryz.prog 65 = true := by kernel_rfl
@[simp] theorem callable_66 : callable Tryz.prog 66 = true := by kernel_rfl
@[simp] theorem callable_67 : callable Tryz.prog 67 = true := by kernel_rfl
@[simp] theorem callable_68 : callable Tryz.prog 68 = true := by kernel_rfl
@[simp] theorem callable_69 : callable Tryz.prog 69 = true := by kernel_rfl
@[simp] theorem callable_70 : callable Tryz.prog 70 = true := by kernel_rfl
@[simp] theorem callable_71 : callable Tryz.prog 71 = true := by kernel_rfl
@[simp] theorem callable_72 : callable Tryz.prog 72 = true := by kernel_rfl
@[simp] theorem callable_74 : callable Tryz.prog 74 = true := by kernel_rfl
@[simp] theorem callable_79 : callable Tryz.prog 79 = true := by kernel_rfl
@[simp] theorem callable_80 : callable Tryz.prog 80 = true := by kernel_rfl
@[simp] theorem callable_81 : callable Tryz.prog 81 = true := by kernel_rfl
@[simp] theorem callable_82 : callable Tryz.prog 82 = true := by kernel_rfl
@[simp] theorem callable_83 : callable Tryz.prog 83 = true := by kernel_rfl
@[simp] theorem callable_84 : callable Tryz.prog 84 = true := by kernel_rfl
@[simp] theorem callable_85 : callable Tryz.prog 85 = true := by kernel_rfl
@[simp] theorem callable_86 : callable Tryz.prog 86 = true := by kernel_rfl
@[simp] theorem callable_87 : callable Tryz.prog 87 = true := by kernel_rfl
@[simp] theorem callable_88 : callable Tryz.prog 88 = true := by kernel_rfl
@[simp] theorem callable_89 : callable Tryz.prog 89 = true := by kernel_rfl
@[simp] theorem callable_90 : callable Tryz.prog 90 = true := by kernel_rfl
@[simp] theorem callable_91 : callable Tryz.prog 91 = true := by kernel_rfl
@[simp] theorem callable_92 : callable Tryz.prog 92 = true := by kernel_rfl
@[simp] theorem callable_97 : callable Tryz.prog 97 = true := by kernel_rfl
@[simp] theorem callable_98 : callable Tryz.prog 98 = true := by kernel_rfl
@[simp] theorem callable_99 : callable Tryz.prog 99 = true := by kernel_rfl
@[simp] theorem callable_100 : callable Tryz.prog 100 = true := by kernel_rfl
@[simp] theorem callable_101 : callable Tryz.prog 101 = true := by kernel_rfl
@[simp] theorem callable_102 : callable Tryz.prog 102 = true := by kernel_rfl
@[simp] theorem callable_103 : callable Tryz.prog 103 = true := by kernel_rfl
@[simp] theorem callable_104 : callable Tryz.prog 104 = true := by kernel_rfl
@[simp] theorem callable_105 : callable Tryz.prog 105 = true := by kernel_rfl
@[simp] theorem callable_106 : callable Tryz.prog 106 = true := by kernel_rfl
@[simp] theorem callable_107 : callable Tryz.prog 107 = true := by kernel_rfl
@[simp] theorem callable_109 : callable Tryz.prog 109 = true := by kernel_rfl
@[simp] theorem callable_110 : callable Tryz.prog 110 = true := by kernel_rfl
@[simp] theorem callable_111 : callable Tryz.prog 111 = true := by kernel_rfl
@[simp] theorem callable_115 : callable Tryz.prog 115 = true := by kernel_rfl
@[simp] theorem callable_116 : callable Tryz.prog 116 = true := by kernel_rfl
@[simp] theorem callable_117 : callable Tryz.prog 117 = true := by kernel_rfl
@[simp] theorem callable_118 : callable Tryz.prog 118 = true := by kernel_rfl
@[simp] theorem callable_119 : callable Tryz.prog 119 = true := by kernel_rfl
@[simp] theorem callable_120 : callable Tryz.prog 120 = true := by kernel_rfl
@[simp] theorem callable_121 : callable Tryz.prog 121 = true := by kernel_rfl
@[simp] theorem callable_122 : callable Tryz.prog 122 = true := by kernel_rfl
@[simp] theorem callable_123 : callable Tryz.prog 123 = true := by kernel_rfl
@[simp] theorem callable_124 : callable Tryz.prog 124 = true := by kernel_rfl
@[simp] theorem callable_125 : callable Tryz.prog 125 = true := by kernel_rfl
@[simp] theorem callable_126 : callable Tryz.prog 126 = true := by kernel_rfl
@[simp] theorem callable_127 : callable Tryz.prog 127 = true := by kernel_rfl
@[simp] theorem callable_128 : callable Tryz.prog 128 = true := by kernel_rfl
@[simp] theorem callable_141 : callable Tryz.prog 141 = true := by kernel_rfl
@[simp] theorem callable_143 : callable Tryz.prog 143 = true := by kernel_rfl
@[simp] theorem callable_144 : callable Tryz.prog 144 = true := by kernel_rfl
@[simp] theorem callable_145 : callable Tryz.prog 145 = true := by kernel_rfl
@[simp] theorem callable_146 : callable Tryz.prog 146 = true := by kernel_rfl
@[simp] theorem callable_147 : callable Tryz.prog 147 = true := by kernel_rfl
@[simp] theorem callable_152 : callable Tryz.prog 152 = true := by kernel_rfl
@[simp] theorem callable_153 : callable Tryz.prog 153 = true := by kernel_rfl
@[simp] theorem callable_155 : callable Tryz.prog 155 = true := by kernel_rfl
@[simp] theorem callable_156 : callable Tryz.prog 156 = true := by kernel_rfl
@[simp] theorem callable_158 : callable Tryz.prog 158 = true := by kernel_rfl
end Go.Proofs.YtcbgpjlcfkkdlaaGreatDoor

