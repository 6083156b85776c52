/- The kit's contracts of strings.CutPrefix and of the search for one byte, laid at this program (printed by the kit's lay-shelf.mjs and lay-plain.mjs, turned by shelf.py). -/
import Derived.Shelf.Small.Wraps
import Derived.Shelf.Strings.Search2
import Derived.Shelf.LaysM
import Derived.Test.YtdmgceckmciifaaProg
set_option linter.unusedVariables false
set_option linter.unusedSimpArgs false
namespace Go.Proofs.Ytdmgceckmciifaa
open Go.Shelf Go.RowKit

def lays103_ren : Go.Shelf.Ren := ⟨fun | 103 => 91 | 210 => 121 | 206 => 127 | n => n, fun | 9 => 9 | 4 => 4 | 24 => 84 | 3 => 3 | n => n, fun | n => n⟩
theorem lays103 : Go.Proofs.Lays.n103 Try.prog lays103_ren := {
  mixed := by kernel_rfl
  f103 := Try.func91.trans (congrArg some (by kernel_rfl))
  f206 := Try.func127.trans (congrArg some (by kernel_rfl))
  f210 := Try.func121.trans (congrArg some (by kernel_rfl))
  t3 := Try.underlying3
  a3 := Try.isAgg3
  z3 := Try.sizeOf3
  v3 := Try.zeroValue3
  t4 := Try.underlying4
  a4 := Try.isAgg4
  z4 := Try.sizeOf4
  v4 := Try.zeroValue4
  t9 := Try.underlying9
  a9 := Try.isAgg9
  z9 := Try.sizeOf9
  v9 := Try.zeroValue9
  t24 := Try.underlying84
  a24 := Try.isAgg84
  z24 := Try.sizeOf84
  v24 := Try.zeroValue84 }
def lays219_ren : Go.Shelf.Ren := ⟨fun | 219 => 128 | 217 => 129 | 225 => 130 | 224 => 131 | 267 => 132 | 266 => 133 | 314 => 134 | n => n, fun | 9 => 9 | 3 => 3 | 4 => 4 | 5 => 5 | 46 => 117 | 146 => 130 | 51 => 38 | n => n, fun | 1 => 0 | n => n⟩
theorem lays219 : Go.Proofs.Lays.n219 Try.prog lays219_ren := {
  mixed := by kernel_rfl
  f217 := Try.func129.trans (congrArg some (by kernel_rfl))
  f219 := Try.func128.trans (congrArg some (by kernel_rfl))
  f224 := Try.func131.trans (congrArg some (by kernel_rfl))
  f225 := Try.func130.trans (congrArg some (by kernel_rfl))
  f266 := Try.func133.trans (congrArg some (by kernel_rfl))
  f267 := Try.func132.trans (congrArg some (by kernel_rfl))
  f314 := Try.func134.trans (congrArg some (by kernel_rfl))
  t3 := Try.underlying3
  a3 := Try.isAgg3
  z3 := Try.sizeOf3
  v3 := Try.zeroValue3
  t4 := Try.underlying4
  a4 := Try.isAgg4
  z4 := Try.sizeOf4
  v4 := Try.zeroValue4
  t5 := Try.underlying5
  a5 := Try.isAgg5
  z5 := Try.sizeOf5
  v5 := Try.zeroValue5
  t9 := Try.underlying9
  a9 := Try.isAgg9
  z9 := Try.sizeOf9
  v9 := Try.zeroValue9
  t46 := Try.underlying117
  a46 := Try.isAgg117
  z46 := Try.sizeOf117
  v46 := Try.zeroValue117
  t51 := Try.underlying38
  a51 := Try.isAgg38
  z51 := Try.sizeOf38
  v51 := Try.zeroValue38
  t146 := Try.underlying130
  a146 := Try.isAgg130
  z146 := Try.sizeOf130
  v146 := Try.zeroValue130
  g1 := by kernel_rfl }
theorem cutprefix_lib (s p : ByteArray) (w : World) :
    Calls Try.prog 91 #[.string s, .string p] w fun e w' => e = .returned (.tuple #[.string ⟨(Lib.trimPrefix s.data.toList p.data.toList).toArray⟩, .bool (Lib.hasPrefix s.data.toList p.data.toList)]) ∧ w' = w := Any.strings_CutPrefix lays103 s p w
theorem index_one_lib (s : ByteArray) (c : UInt8) (w : World) :
    Calls Try.prog 128 #[.string s, .string ⟨#[c]⟩] w fun e w' => e = .returned (.int .i64 (Lib.indexByte s.data.toList c)) ∧ w' = w := Any.stringslite_Index_one lays219 s c w
end Go.Proofs.Ytdmgceckmciifaa
