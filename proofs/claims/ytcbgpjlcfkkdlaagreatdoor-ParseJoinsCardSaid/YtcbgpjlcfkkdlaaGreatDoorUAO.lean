import Derived.Shelf.Strings.Builder1
import Derived.Shelf.Strings.Builder2
import Derived.Shelf.Strings.Trim
import Derived.Shelf.Small.Utf8
import Derived.Shelf.Small.Strs
import Derived.Shelf.Small.Wraps
import Derived.Shelf.Strings.BuilderF
import Derived.Shelf.Strings.BuilderK
import Derived.Shelf.Utf8.RuneCount
import Derived.Shelf.Strings.Builder2Cap
import Derived.Shelf.Strings.Search1
import Derived.Shelf.Strings.Search2
import Derived.Shelf.Strings.Search3
import Derived.Shelf.Strings.Cut
import Derived.Shelf.Strings.Count
import Derived.Shelf.LaysM
import Derived.Shelf.Strings.Shaped
import Derived.Shelf.Strings.Prefix
import Derived.Shelf.Strings.Split
import Derived.Shelf.Strings.SplitShaped
import Derived.Shelf.Unicode.Decode
import Derived.Shelf.Strings.Runes
import Derived.Shelf.Strings.RuneCount
import Derived.Shelf.Strings.AsciiSet
import Derived.Shelf.Strings.Explode
import Derived.Shelf.Bits.Mul64
import Derived.Shelf.Strings.Repeat
import Derived.Shelf.Unicode.DecodeSlow
import Derived.Shelf.Unicode.DecodeAny
import Derived.Shelf.Strings.BuilderCap
import Derived.Shelf.Slices.Turned
import Derived.Ground.Names2Prog
import Derived.Shelf.Slices.Clone
import Derived.Ground.SlgnProg
import Derived.Shelf.SlicesE.Clone
import Derived.Test.YtcbgpjlcfkkdlaaGreatDoorProg
set_option linter.unusedSimpArgs false
set_option linter.unusedVariables false
set_option maxRecDepth 100000
set_option maxHeartbeats 16000000
namespace Go.Proofs
open Go.Shelf
def Tryz.lays161_ren : Go.Shelf.Ren := ⟨fun | 161 => 101 | 231 => 137 | 227 => 138 | 233 => 139 | 235 => 140 | 228 => 150 | 197 => 130 | 151 => 151 | 260 => 148 | 152 => 154 | 137 => 55 | 119 => 157 | 224 => 134 | 225 => 133 | 217 => 95 | 266 => 132 | n => n, fun | 9 => 9 | 4 => 4 | 3 => 3 | 5 => 5 | 117 => 146 | 116 => 145 | 0 => 0 | 124 => 149 | 105 => 141 | 21 => 21 | 119 => 160 | 46 => 79 | 139 => 163 | 138 => 162 | n => n, fun | 3 => 1 | 4 => 2 | n => n⟩
theorem Tryz.lays161 : Go.Proofs.Lays.n161 Tryz.prog Tryz.lays161_ren := {
 mixed := by kernel_rfl
 f119 := Tryz.func157.trans (congrArg some (by kernel_rfl))
 f137 := Tryz.func55.trans (congrArg some (by kernel_rfl))
 f151 := Tryz.func151.trans (congrArg some (by kernel_rfl))
 f152 := Tryz.func154.trans (congrArg some (by kernel_rfl))
 f161 := Tryz.func101.trans (congrArg some (by kernel_rfl))
 f197 := Tryz.func130.trans (congrArg some (by kernel_rfl))
 f217 := Tryz.func95.trans (congrArg some (by kernel_rfl))
 f224 := Tryz.func134.trans (congrArg some (by kernel_rfl))
 f225 := Tryz.func133.trans (congrArg some (by kernel_rfl))
 f227 := Tryz.func138.trans (congrArg some (by kernel_rfl))
 f228 := Tryz.func150.trans (congrArg some (by kernel_rfl))
 f231 := Tryz.func137.trans (congrArg some (by kernel_rfl))
 f233 := Tryz.func139.trans (congrArg some (by kernel_rfl))
 f235 := Tryz.func140.trans (congrArg some (by kernel_rfl))
 f260 := Tryz.func148.trans (congrArg some (by kernel_rfl))
 f266 := Tryz.func132.trans (congrArg some (by kernel_rfl))
 t0 := Tryz.underlying0
 a0 := Tryz.isAgg0
 z0 := Tryz.sizeOf0
 v0 := Tryz.zeroValue0
 t3 := Tryz.underlying3
 a3 := Tryz.isAgg3
 z3 := Tryz.sizeOf3
 v3 := Tryz.zeroValue3
 t4 := Tryz.underlying4
 a4 := Tryz.isAgg4
 z4 := Tryz.sizeOf4
 v4 := Tryz.zeroValue4
 t5 := Tryz.underlying5
 a5 := Tryz.isAgg5
 z5 := Tryz.sizeOf5
 v5 := Tryz.zeroValue5
 t9 := Tryz.underlying9
 a9 := Tryz.isAgg9
 z9 := Tryz.sizeOf9
 v9 := Tryz.zeroValue9
 t21 := Tryz.underlying21
 a21 := Tryz.isAgg21
 z21 := Tryz.sizeOf21
 v21 := Tryz.zeroValue21
 t46 := Tryz.underlying79
 a46 := Tryz.isAgg79
 z46 := Tryz.sizeOf79
 v46 := Tryz.zeroValue79
 t105 := Tryz.underlying141
 a105 := Tryz.isAgg141
 z105 := Tryz.sizeOf141
 v105 := Tryz.zeroValue141
 t116 := Tryz.underlying145
 a116 := Tryz.isAgg145
 z116 := Tryz.sizeOf145
 t117 := Tryz.underlying146
 a117 := Tryz.isAgg146
 z117 := Tryz.sizeOf146
 v117 := Tryz.zeroValue146
 t119 := Tryz.underlying160
 a119 := Tryz.isAgg160
 z119 := Tryz.sizeOf160
 t124 := Tryz.underlying149
 a124 := Tryz.isAgg149
 z124 := Tryz.sizeOf149
 v124 := Tryz.zeroValue149
 t138 := Tryz.underlying162
 a138 := Tryz.isAgg162
 z138 := Tryz.sizeOf162
 v138 := Tryz.zeroValue162
 t139 := Tryz.underlying163
 a139 := Tryz.isAgg163
 z139 := Tryz.sizeOf163
 v139 := Tryz.zeroValue163
 g3 := by kernel_rfl
 g4 := by kernel_rfl }
open Go.RowKit in
theorem Tryz.strings_TrimLeft_one (s : ByteArray) (c : UInt8) (hc : c.toNat < 128) (w : World) :
  Calls Tryz.prog 101 #[.string s, .string ⟨#[c]⟩] w fun e w' => e = .returned (.string ⟨(Lib.trimLeftB s.data.toList c).toArray⟩) ∧ w' = w := Any.strings_TrimLeft_one Tryz.lays161 s c hc w
def Tryz.lays137_ren : Go.Shelf.Ren := ⟨fun | 137 => 55 | 217 => 95 | 266 => 132 | n => n, fun | 9 => 9 | 5 => 5 | 3 => 3 | n => n, fun | n => n⟩
theorem Tryz.lays137 : Go.Proofs.Lays.n137 Tryz.prog Tryz.lays137_ren := {
 mixed := by kernel_rfl
 f137 := Tryz.func55.trans (congrArg some (by kernel_rfl))
 f217 := Tryz.func95.trans (congrArg some (by kernel_rfl))
 f266 := Tryz.func132.trans (congrArg some (by kernel_rfl))
 t3 := Tryz.underlying3
 a3 := Tryz.isAgg3
 z3 := Tryz.sizeOf3
 v3 := Tryz.zeroValue3
 t5 := Tryz.underlying5
 a5 := Tryz.isAgg5
 z5 := Tryz.sizeOf5
 v5 := Tryz.zeroValue5
 t9 := Tryz.underlying9
 a9 := Tryz.isAgg9
 z9 := Tryz.sizeOf9
 v9 := Tryz.zeroValue9 }
open Go.RowKit in
theorem Tryz.strings_IndexByte (s : ByteArray) (c : Int) (w : World) :
  Calls Tryz.prog 55 #[.string s, .int .u8 c] w fun e w' => e = .returned (.int .i64 (Lib.indexByte s.data.toList c.toNat.toUInt8)) ∧ w' = w := Any.strings_IndexByte Tryz.lays137 s c w
def Tryz.lays210_ren : Go.Shelf.Ren := ⟨fun | 210 => 136 | 206 => 75 | n => n, fun | 9 => 9 | 4 => 4 | 3 => 3 | n => n, fun | n => n⟩
def Tryz.lays103_ren : Go.Shelf.Ren := ⟨fun | 103 => 100 | 210 => 136 | 206 => 75 | n => n, fun | 9 => 9 | 4 => 4 | 24 => 124 | 3 => 3 | n => n, fun | n => n⟩
theorem Tryz.lays103 : Go.Proofs.Lays.n103 Tryz.prog Tryz.lays103_ren := {
 mixed := by kernel_rfl
 f103 := Tryz.func100.trans (congrArg some (by kernel_rfl))
 f206 := Tryz.func75.trans (congrArg some (by kernel_rfl))
 f210 := Tryz.func136.trans (congrArg some (by kernel_rfl))
 t3 := Tryz.underlying3
 a3 := Tryz.isAgg3
 z3 := Tryz.sizeOf3
 v3 := Tryz.zeroValue3
 t4 := Tryz.underlying4
 a4 := Tryz.isAgg4
 z4 := Tryz.sizeOf4
 v4 := Tryz.zeroValue4
 t9 := Tryz.underlying9
 a9 := Tryz.isAgg9
 z9 := Tryz.sizeOf9
 v9 := Tryz.zeroValue9
 t24 := Tryz.underlying124
 a24 := Tryz.isAgg124
 z24 := Tryz.sizeOf124
 v24 := Tryz.zeroValue124 }
open Go.RowKit in
theorem Tryz.strings_CutPrefix (s p : ByteArray) (w : World) :
  Calls Tryz.prog 100 #[.string s, .string p] w fun e w' => e = .returned (.tuple #[.string ⟨(Lib.trimPrefix s.data.toList p.data.toList).toArray⟩, .bool (Lib.hasPrefix s.data.toList p.data.toList)]) ∧ w' = w := Any.strings_CutPrefix Tryz.lays103 s p w
def Tryz.lays219_ren : Go.Shelf.Ren := ⟨fun | 219 => 96 | 217 => 95 | 225 => 133 | 224 => 134 | 267 => 135 | 266 => 132 | 314 => 149 | n => n, fun | 9 => 9 | 3 => 3 | 4 => 4 | 5 => 5 | 46 => 79 | 146 => 110 | 51 => 109 | n => n, fun | 1 => 0 | n => n⟩
def Tryz.lays143_ren : Go.Shelf.Ren := ⟨fun | 143 => 56 | 219 => 96 | 217 => 95 | 225 => 133 | 224 => 134 | 267 => 135 | 266 => 132 | 314 => 149 | n => n, fun | 9 => 9 | 3 => 3 | 4 => 4 | 5 => 5 | 46 => 79 | 146 => 110 | 51 => 109 | n => n, fun | 1 => 0 | n => n⟩
theorem Tryz.lays143 : Go.Proofs.Lays.n143 Tryz.prog Tryz.lays143_ren := {
 mixed := by kernel_rfl
 f143 := Tryz.func56.trans (congrArg some (by kernel_rfl))
 f217 := Tryz.func95.trans (congrArg some (by kernel_rfl))
 f219 := Tryz.func96.trans (congrArg some (by kernel_rfl))
 f224 := Tryz.func134.trans (congrArg some (by kernel_rfl))
 f225 := Tryz.func133.trans (congrArg some (by kernel_rfl))
 f266 := Tryz.func132.trans (congrArg some (by kernel_rfl))
 f267 := Tryz.func135.trans (congrArg some (by kernel_rfl))
 f314 := Tryz.func149.trans (congrArg some (by kernel_rfl))
 t3 := Tryz.underlying3
 a3 := Tryz.isAgg3
 z3 := Tryz.sizeOf3
 v3 := Tryz.zeroValue3
 t4 := Tryz.underlying4
 a4 := Tryz.isAgg4
 z4 := Tryz.sizeOf4
 v4 := Tryz.zeroValue4
 t5 := Tryz.underlying5
 a5 := Tryz.isAgg5
 z5 := Tryz.sizeOf5
 v5 := Tryz.zeroValue5
 t9 := Tryz.underlying9
 a9 := Tryz.isAgg9
 z9 := Tryz.sizeOf9
 v9 := Tryz.zeroValue9
 t46 := Tryz.underlying79
 a46 := Tryz.isAgg79
 z46 := Tryz.sizeOf79
 v46 := Tryz.zeroValue79
 t51 := Tryz.underlying109
 a51 := Tryz.isAgg109
 z51 := Tryz.sizeOf109
 v51 := Tryz.zeroValue109
 t146 := Tryz.underlying110
 a146 := Tryz.isAgg110
 z146 := Tryz.sizeOf110
 v146 := Tryz.zeroValue110
 g1 := by kernel_rfl }
open Go.RowKit Go.Lib in
theorem Tryz.strings_Index (s sub : ByteArray) (m : Int) (w : World) (hs : s.size < 4294967281) (hm : w.cell? ⟨0, 0, none⟩ = some (.int .i64 m)) :
  Calls Tryz.prog 56 #[.string s, .string sub] w fun e w' => e = .returned (.int .i64 (Lib.index s.data.toList sub.data.toList)) ∧ w' = w := Any.strings_Index Tryz.lays143 s sub m w hs hm
def Tryz.lays144_ren : Go.Shelf.Ren := ⟨fun | 144 => 57 | 143 => 56 | 219 => 96 | 217 => 95 | 225 => 133 | 224 => 134 | 267 => 135 | 266 => 132 | 314 => 149 | n => n, fun | 9 => 9 | 4 => 4 | 3 => 3 | 5 => 5 | 46 => 79 | 146 => 110 | 51 => 109 | n => n, fun | 1 => 0 | n => n⟩
theorem Tryz.lays144 : Go.Proofs.Lays.n144 Tryz.prog Tryz.lays144_ren := {
 mixed := by kernel_rfl
 f143 := Tryz.func56.trans (congrArg some (by kernel_rfl))
 f144 := Tryz.func57.trans (congrArg some (by kernel_rfl))
 f217 := Tryz.func95.trans (congrArg some (by kernel_rfl))
 f219 := Tryz.func96.trans (congrArg some (by kernel_rfl))
 f224 := Tryz.func134.trans (congrArg some (by kernel_rfl))
 f225 := Tryz.func133.trans (congrArg some (by kernel_rfl))
 f266 := Tryz.func132.trans (congrArg some (by kernel_rfl))
 f267 := Tryz.func135.trans (congrArg some (by kernel_rfl))
 f314 := Tryz.func149.trans (congrArg some (by kernel_rfl))
 t3 := Tryz.underlying3
 a3 := Tryz.isAgg3
 z3 := Tryz.sizeOf3
 v3 := Tryz.zeroValue3
 t4 := Tryz.underlying4
 a4 := Tryz.isAgg4
 z4 := Tryz.sizeOf4
 v4 := Tryz.zeroValue4
 t5 := Tryz.underlying5
 a5 := Tryz.isAgg5
 z5 := Tryz.sizeOf5
 v5 := Tryz.zeroValue5
 t9 := Tryz.underlying9
 a9 := Tryz.isAgg9
 z9 := Tryz.sizeOf9
 v9 := Tryz.zeroValue9
 t46 := Tryz.underlying79
 a46 := Tryz.isAgg79
 z46 := Tryz.sizeOf79
 v46 := Tryz.zeroValue79
 t51 := Tryz.underlying109
 a51 := Tryz.isAgg109
 z51 := Tryz.sizeOf109
 v51 := Tryz.zeroValue109
 t146 := Tryz.underlying110
 a146 := Tryz.isAgg110
 z146 := Tryz.sizeOf110
 v146 := Tryz.zeroValue110
 g1 := by kernel_rfl }
open Go.RowKit Go.Lib in
theorem Tryz.strings_Contains (s sub : ByteArray) (m : Int) (w : World) (hs : s.size < 4294967281) (hm : w.cell? ⟨0, 0, none⟩ = some (.int .i64 m)) :
  Calls Tryz.prog 57 #[.string s, .string sub] w fun e w' => e = .returned (.bool (Lib.contains s.data.toList sub.data.toList)) ∧ w' = w := Any.strings_Contains Tryz.lays144 s sub m w hs hm
def Tryz.lays145_ren : Go.Shelf.Ren := ⟨fun | 145 => 69 | 220 => 108 | 219 => 96 | 217 => 95 | 225 => 133 | 224 => 134 | 267 => 135 | 266 => 132 | 314 => 149 | n => n, fun | 9 => 9 | 4 => 4 | 59 => 104 | 3 => 3 | 5 => 5 | 46 => 79 | 146 => 110 | 51 => 109 | n => n, fun | 1 => 0 | n => n⟩
theorem Tryz.lays145 : Go.Proofs.Lays.n145 Tryz.prog Tryz.lays145_ren := {
 mixed := by kernel_rfl
 f145 := Tryz.func69.trans (congrArg some (by kernel_rfl))
 f217 := Tryz.func95.trans (congrArg some (by kernel_rfl))
 f219 := Tryz.func96.trans (congrArg some (by kernel_rfl))
 f220 := Tryz.func108.trans (congrArg some (by kernel_rfl))
 f224 := Tryz.func134.trans (congrArg some (by kernel_rfl))
 f225 := Tryz.func133.trans (congrArg some (by kernel_rfl))
 f266 := Tryz.func132.trans (congrArg some (by kernel_rfl))
 f267 := Tryz.func135.trans (congrArg some (by kernel_rfl))
 f314 := Tryz.func149.trans (congrArg some (by kernel_rfl))
 t3 := Tryz.underlying3
 a3 := Tryz.isAgg3
 z3 := Tryz.sizeOf3
 v3 := Tryz.zeroValue3
 t4 := Tryz.underlying4
 a4 := Tryz.isAgg4
 z4 := Tryz.sizeOf4
 v4 := Tryz.zeroValue4
 t5 := Tryz.underlying5
 a5 := Tryz.isAgg5
 z5 := Tryz.sizeOf5
 v5 := Tryz.zeroValue5
 t9 := Tryz.underlying9
 a9 := Tryz.isAgg9
 z9 := Tryz.sizeOf9
 v9 := Tryz.zeroValue9
 t46 := Tryz.underlying79
 a46 := Tryz.isAgg79
 z46 := Tryz.sizeOf79
 v46 := Tryz.zeroValue79
 t51 := Tryz.underlying109
 a51 := Tryz.isAgg109
 z51 := Tryz.sizeOf109
 v51 := Tryz.zeroValue109
 t59 := Tryz.underlying104
 a59 := Tryz.isAgg104
 z59 := Tryz.sizeOf104
 v59 := Tryz.zeroValue104
 t146 := Tryz.underlying110
 a146 := Tryz.isAgg110
 z146 := Tryz.sizeOf110
 v146 := Tryz.zeroValue110
 g1 := by kernel_rfl }
open Go.RowKit Go.Lib in
theorem Tryz.strings_Cut (s sep : ByteArray) (m : Int) (w : World) (hs : s.size < 4294967281) (hm : w.cell? ⟨0, 0, none⟩ = some (.int .i64 m)) :
  Calls Tryz.prog 69 #[.string s, .string sep] w fun e w' => e = .returned (.tuple #[.string ⟨(Lib.cut s.data.toList sep.data.toList).1.toArray⟩, .string ⟨(Lib.cut s.data.toList sep.data.toList).2.1.toArray⟩, .bool (Lib.cut s.data.toList sep.data.toList).2.2]) ∧ ∃ n, w' = w.drewN n := Any.strings_Cut Tryz.lays145 s sep m w hs hm
def Tryz.laysM144_ren : Go.Shelf.Ren := ⟨fun | 144 => 57 | 143 => 56 | 219 => 96 | 217 => 95 | 225 => 133 | 224 => 134 | 267 => 135 | 266 => 132 | 314 => 149 | n => n, fun | 9 => 9 | 4 => 4 | 3 => 3 | 5 => 5 | 46 => 79 | 146 => 110 | 51 => 109 | n => n, fun | 1 => 0 | n => n⟩
theorem Tryz.laysM144 : Go.Proofs.LaysM.n144 Tryz.prog Tryz.laysM144_ren := {
 mixed := by kernel_rfl
 f143 := Tryz.func56.trans (congrArg some (by kernel_rfl))
 f144 := Tryz.func57.trans (congrArg some (by kernel_rfl))
 f217 := Tryz.func95.trans (congrArg some (by kernel_rfl))
 f219 := Tryz.func96.trans (congrArg some (by kernel_rfl))
 f224 := Tryz.func134.trans (congrArg some (by kernel_rfl))
 f225 := Tryz.func133.trans (congrArg some (by kernel_rfl))
 f266 := Tryz.func132.trans (congrArg some (by kernel_rfl))
 f267 := Tryz.func135.trans (congrArg some (by kernel_rfl))
 f314 := Tryz.func149.trans (congrArg some (by kernel_rfl))
 t3 := Tryz.underlying3
 a3 := Tryz.isAgg3
 z3 := Tryz.sizeOf3
 v3 := Tryz.zeroValue3
 t4 := Tryz.underlying4
 a4 := Tryz.isAgg4
 z4 := Tryz.sizeOf4
 v4 := Tryz.zeroValue4
 t5 := Tryz.underlying5
 a5 := Tryz.isAgg5
 z5 := Tryz.sizeOf5
 v5 := Tryz.zeroValue5
 t9 := Tryz.underlying9
 a9 := Tryz.isAgg9
 z9 := Tryz.sizeOf9
 v9 := Tryz.zeroValue9
 t46 := Tryz.underlying79
 a46 := Tryz.isAgg79
 z46 := Tryz.sizeOf79
 v46 := Tryz.zeroValue79
 t51 := Tryz.underlying109
 a51 := Tryz.isAgg109
 z51 := Tryz.sizeOf109
 v51 := Tryz.zeroValue109
 t146 := Tryz.underlying110
 a146 := Tryz.isAgg110
 z146 := Tryz.sizeOf110
 v146 := Tryz.zeroValue110
 g1 := by kernel_rfl
 i3 := by kernel_rfl
 i4 := by kernel_rfl
 i5 := by kernel_rfl
 i9 := by kernel_rfl
 i46 := by kernel_rfl
 i51 := by kernel_rfl
 i146 := by kernel_rfl
 m1 := by kernel_rfl
 s1_3 := fun w h => Go.Proofs.cell_of_shapedOpen_int (zero := #[.int .i64 0]) (t := 3) h (of_decide_eq_true (by kernel_rfl)) (by kernel_rfl) rfl (by kernel_rfl) (by kernel_rfl) Tryz.underlying3 }
def Tryz.lays99_ren : Go.Shelf.Ren := ⟨fun | 99 => 35 | 206 => 75 | n => n, fun | 9 => 9 | 4 => 4 | 3 => 3 | n => n, fun | n => n⟩
theorem Tryz.lays99 : Go.Proofs.Lays.n99 Tryz.prog Tryz.lays99_ren := {
 mixed := by kernel_rfl
 f99 := Tryz.func35.trans (congrArg some (by kernel_rfl))
 f206 := Tryz.func75.trans (congrArg some (by kernel_rfl))
 t3 := Tryz.underlying3
 a3 := Tryz.isAgg3
 z3 := Tryz.sizeOf3
 v3 := Tryz.zeroValue3
 t4 := Tryz.underlying4
 a4 := Tryz.isAgg4
 z4 := Tryz.sizeOf4
 v4 := Tryz.zeroValue4
 t9 := Tryz.underlying9
 a9 := Tryz.isAgg9
 z9 := Tryz.sizeOf9
 v9 := Tryz.zeroValue9 }
open Go.RowKit Go.Lib in
theorem Tryz.strings_HasPrefix (s p : ByteArray) (w : World) :
  Calls Tryz.prog 35 #[.string s, .string p] w fun e w' => e = .returned (.bool (Lib.hasPrefix s.data.toList p.data.toList)) ∧ w' = w := Any.strings_HasPrefix Tryz.lays99 s p w
def Tryz.lays221_ren : Go.Shelf.Ren := ⟨fun | 221 => 54 | 268 => 93 | 138 => 94 | 143 => 56 | 195 => 129 | 197 => 130 | 218 => 131 | 219 => 96 | 260 => 148 | 217 => 95 | 225 => 133 | 224 => 134 | 267 => 135 | 266 => 132 | 314 => 149 | n => n, fun | 9 => 9 | 3 => 3 | 31 => 38 | 4 => 4 | 0 => 0 | 105 => 141 | 21 => 21 | 5 => 5 | 46 => 79 | 119 => 160 | 139 => 163 | 138 => 162 | 146 => 110 | 51 => 109 | n => n, fun | 1 => 0 | 3 => 1 | 4 => 2 | n => n⟩
def Tryz.lays146_ren : Go.Shelf.Ren := ⟨fun | 146 => 25 | 221 => 54 | 268 => 93 | 138 => 94 | 143 => 56 | 195 => 129 | 197 => 130 | 218 => 131 | 219 => 96 | 260 => 148 | 217 => 95 | 225 => 133 | 224 => 134 | 267 => 135 | 266 => 132 | 314 => 149 | n => n, fun | 9 => 9 | 31 => 38 | 3 => 3 | 4 => 4 | 0 => 0 | 105 => 141 | 21 => 21 | 5 => 5 | 46 => 79 | 119 => 160 | 139 => 163 | 138 => 162 | 146 => 110 | 51 => 109 | n => n, fun | 1 => 0 | 3 => 1 | 4 => 2 | n => n⟩
theorem Tryz.lays146 : Go.Proofs.Lays.n146 Tryz.prog Tryz.lays146_ren := {
 mixed := by kernel_rfl
 f138 := Tryz.func94.trans (congrArg some (by kernel_rfl))
 f143 := Tryz.func56.trans (congrArg some (by kernel_rfl))
 f146 := Tryz.func25.trans (congrArg some (by kernel_rfl))
 f195 := Tryz.func129.trans (congrArg some (by kernel_rfl))
 f197 := Tryz.func130.trans (congrArg some (by kernel_rfl))
 f217 := Tryz.func95.trans (congrArg some (by kernel_rfl))
 f218 := Tryz.func131.trans (congrArg some (by kernel_rfl))
 f219 := Tryz.func96.trans (congrArg some (by kernel_rfl))
 f221 := Tryz.func54.trans (congrArg some (by kernel_rfl))
 f224 := Tryz.func134.trans (congrArg some (by kernel_rfl))
 f225 := Tryz.func133.trans (congrArg some (by kernel_rfl))
 f260 := Tryz.func148.trans (congrArg some (by kernel_rfl))
 f266 := Tryz.func132.trans (congrArg some (by kernel_rfl))
 f267 := Tryz.func135.trans (congrArg some (by kernel_rfl))
 f268 := Tryz.func93.trans (congrArg some (by kernel_rfl))
 f314 := Tryz.func149.trans (congrArg some (by kernel_rfl))
 t0 := Tryz.underlying0
 a0 := Tryz.isAgg0
 z0 := Tryz.sizeOf0
 v0 := Tryz.zeroValue0
 t3 := Tryz.underlying3
 a3 := Tryz.isAgg3
 z3 := Tryz.sizeOf3
 v3 := Tryz.zeroValue3
 t4 := Tryz.underlying4
 a4 := Tryz.isAgg4
 z4 := Tryz.sizeOf4
 v4 := Tryz.zeroValue4
 t5 := Tryz.underlying5
 a5 := Tryz.isAgg5
 z5 := Tryz.sizeOf5
 v5 := Tryz.zeroValue5
 t9 := Tryz.underlying9
 a9 := Tryz.isAgg9
 z9 := Tryz.sizeOf9
 v9 := Tryz.zeroValue9
 t21 := Tryz.underlying21
 a21 := Tryz.isAgg21
 z21 := Tryz.sizeOf21
 v21 := Tryz.zeroValue21
 t31 := Tryz.underlying38
 a31 := Tryz.isAgg38
 z31 := Tryz.sizeOf38
 v31 := Tryz.zeroValue38
 t46 := Tryz.underlying79
 a46 := Tryz.isAgg79
 z46 := Tryz.sizeOf79
 v46 := Tryz.zeroValue79
 t51 := Tryz.underlying109
 a51 := Tryz.isAgg109
 z51 := Tryz.sizeOf109
 v51 := Tryz.zeroValue109
 t105 := Tryz.underlying141
 a105 := Tryz.isAgg141
 z105 := Tryz.sizeOf141
 v105 := Tryz.zeroValue141
 t119 := Tryz.underlying160
 a119 := Tryz.isAgg160
 z119 := Tryz.sizeOf160
 t138 := Tryz.underlying162
 a138 := Tryz.isAgg162
 z138 := Tryz.sizeOf162
 v138 := Tryz.zeroValue162
 t139 := Tryz.underlying163
 a139 := Tryz.isAgg163
 z139 := Tryz.sizeOf163
 v139 := Tryz.zeroValue163
 t146 := Tryz.underlying110
 a146 := Tryz.isAgg110
 z146 := Tryz.sizeOf110
 v146 := Tryz.zeroValue110
 g1 := by kernel_rfl
 g3 := by kernel_rfl
 g4 := by kernel_rfl }
open Go.RowKit Go.Lib in
theorem Tryz.strings_Split (s sep : ByteArray) (m : Int) (w : World) (hs : s.size < 4294967281) (hm : w.cell? ⟨0, 0, none⟩ = some (.int .i64 m)) (h1 : 1 ≤ sep.size) :
  Calls Tryz.prog 25 #[.string s, .string sep] w fun e w' =>
   e = .returned (.slice (some ⟨w.heap.size, 0, none⟩) (Lib.countB s sep + 1) (Lib.countB s sep + 1)) ∧ w' = w.alloc (.cells ((Lib.splitB sep 0 (Lib.countB s sep) s).map Value.string).toArray 9) := Any.strings_Split Tryz.lays146 (by kernel_rfl) s sep m w hs hm h1
def Tryz.lays264_ren : Go.Shelf.Ren := ⟨fun | 264 => 74 | n => n, fun | 53 => 112 | 46 => 79 | n => n, fun | n => n⟩
theorem Tryz.lays264 : Go.Proofs.Lays.n264 Tryz.prog Tryz.lays264_ren := {
 mixed := by kernel_rfl
 f264 := Tryz.func74.trans (congrArg some (by kernel_rfl))
 t46 := Tryz.underlying79
 a46 := Tryz.isAgg79
 z46 := Tryz.sizeOf79
 v46 := Tryz.zeroValue79
 t53 := Tryz.underlying112
 a53 := Tryz.isAgg112
 z53 := Tryz.sizeOf112
 v53 := Tryz.zeroValue112 }
open Go.RowKit Go.Lib in
theorem Tryz.bits_Mul64 (x y : Nat) (hx : x < 18446744073709551616) (hy : y < 18446744073709551616) (w : World) :
  Calls Tryz.prog 74 #[.int .u64 x, .int .u64 y] w fun e w' => e = .returned (.tuple #[.int .u64 ((x * y / 18446744073709551616 : Nat) : Int), .int .u64 ((x * y % 18446744073709551616 : Nat) : Int)]) ∧ w' = w := Any.bits_Mul64 Tryz.lays264 x y hx hy w
def Tryz.lays105_ren : Go.Shelf.Ren := ⟨fun | 105 => 16 | 212 => 34 | 99 => 35 | 165 => 36 | 166 => 37 | 170 => 38 | 169 => 39 | 263 => 73 | 264 => 74 | 206 => 75 | 240 => 76 | 241 => 77 | 276 => 112 | 277 => 113 | n => n, fun | 9 => 9 | 3 => 3 | 4 => 4 | 20 => 20 | 0 => 0 | 46 => 79 | 109 => 80 | 5 => 5 | 72 => 84 | 76 => 88 | 51 => 109 | 146 => 110 | 53 => 112 | 148 => 113 | 70 => 82 | 37 => 40 | 75 => 87 | 127 => 115 | 164 => 133 | 80 => 90 | n => n, fun | n => n⟩
theorem Tryz.lays105 : Go.Proofs.Lays.n105 Tryz.prog Tryz.lays105_ren := {
 mixed := by kernel_rfl
 f99 := Tryz.func35.trans (congrArg some (by kernel_rfl))
 f105 := Tryz.func16.trans (congrArg some (by kernel_rfl))
 f165 := Tryz.func36.trans (congrArg some (by kernel_rfl))
 f166 := Tryz.func37.trans (congrArg some (by kernel_rfl))
 f169 := Tryz.func39.trans (congrArg some (by kernel_rfl))
 f170 := Tryz.func38.trans (congrArg some (by kernel_rfl))
 f206 := Tryz.func75.trans (congrArg some (by kernel_rfl))
 f212 := Tryz.func34.trans (congrArg some (by kernel_rfl))
 f240 := Tryz.func76.trans (congrArg some (by kernel_rfl))
 f241 := Tryz.func77.trans (congrArg some (by kernel_rfl))
 f263 := Tryz.func73.trans (congrArg some (by kernel_rfl))
 f264 := Tryz.func74.trans (congrArg some (by kernel_rfl))
 f276 := Tryz.func112.trans (congrArg some (by kernel_rfl))
 f277 := Tryz.func113.trans (congrArg some (by kernel_rfl))
 t0 := Tryz.underlying0
 a0 := Tryz.isAgg0
 z0 := Tryz.sizeOf0
 v0 := Tryz.zeroValue0
 t3 := Tryz.underlying3
 a3 := Tryz.isAgg3
 z3 := Tryz.sizeOf3
 v3 := Tryz.zeroValue3
 t4 := Tryz.underlying4
 a4 := Tryz.isAgg4
 z4 := Tryz.sizeOf4
 v4 := Tryz.zeroValue4
 t5 := Tryz.underlying5
 a5 := Tryz.isAgg5
 z5 := Tryz.sizeOf5
 v5 := Tryz.zeroValue5
 t9 := Tryz.underlying9
 a9 := Tryz.isAgg9
 z9 := Tryz.sizeOf9
 v9 := Tryz.zeroValue9
 t20 := Tryz.underlying20
 a20 := Tryz.isAgg20
 z20 := Tryz.sizeOf20
 v20 := Tryz.zeroValue20
 t37 := Tryz.underlying40
 a37 := Tryz.isAgg40
 z37 := Tryz.sizeOf40
 v37 := Tryz.zeroValue40
 t46 := Tryz.underlying79
 a46 := Tryz.isAgg79
 z46 := Tryz.sizeOf79
 v46 := Tryz.zeroValue79
 t51 := Tryz.underlying109
 a51 := Tryz.isAgg109
 z51 := Tryz.sizeOf109
 v51 := Tryz.zeroValue109
 t53 := Tryz.underlying112
 a53 := Tryz.isAgg112
 z53 := Tryz.sizeOf112
 v53 := Tryz.zeroValue112
 t70 := Tryz.underlying82
 a70 := Tryz.isAgg82
 z70 := Tryz.sizeOf82
 v70 := Tryz.zeroValue82
 t72 := Tryz.underlying84
 a72 := Tryz.isAgg84
 z72 := Tryz.sizeOf84
 v72 := Tryz.zeroValue84
 t75 := Tryz.underlying87
 a75 := Tryz.isAgg87
 z75 := Tryz.sizeOf87
 v75 := Tryz.zeroValue87
 t76 := Tryz.underlying88
 a76 := Tryz.isAgg88
 z76 := Tryz.sizeOf88
 v76 := Tryz.zeroValue88
 t109 := Tryz.underlying80
 a109 := Tryz.isAgg80
 z109 := Tryz.sizeOf80
 v109 := Tryz.zeroValue80
 t127 := Tryz.underlying115
 a127 := Tryz.isAgg115
 z127 := Tryz.sizeOf115
 v127 := Tryz.zeroValue115
 t146 := Tryz.underlying110
 a146 := Tryz.isAgg110
 z146 := Tryz.sizeOf110
 v146 := Tryz.zeroValue110
 t148 := Tryz.underlying113
 a148 := Tryz.isAgg113
 z148 := Tryz.sizeOf113
 v148 := Tryz.zeroValue113
 t164 := Tryz.underlying133
 a164 := Tryz.isAgg133
 z164 := Tryz.sizeOf133
 v164 := Tryz.zeroValue133 }
theorem Tryz.Builder_Extra_105 : Builder.Extra Tryz.prog Tryz.lays105_ren := {
 sizeBuilder := by kernel_rfl
 liesBuilder := by kernel_rfl
 t5 := Tryz.underlying5
 a5 := Tryz.isAgg5
 z5 := Tryz.sizeOf5
 v5 := Tryz.zeroValue5
 infoByte := by kernel_rfl
 cellsByte := by kernel_rfl
 sizeByte := by kernel_rfl
 neB5 := by decide }
open Go.RowKit Go.Lib in
theorem Tryz.strings_Repeat (s : ByteArray) (c : Nat) (w : World) (hc : c ≤ 9223372036854775807) (hlen : s.size * c ≤ 140737488355328) :
  Calls Tryz.prog 16 #[.string s, .int .i64 c] w fun e w' => e = .returned (.string ⟨(Lib.repeatL s.data.toList c).toArray⟩) ∧ Below w.heap.size w w' := Any.strings_Repeat Tryz.lays105 Tryz.Builder_Extra_105 s c w hc hlen
end Go.Proofs

