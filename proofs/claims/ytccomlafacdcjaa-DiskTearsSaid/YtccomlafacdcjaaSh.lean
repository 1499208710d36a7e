/-
  strings.Repeat at the disk seat, out of the library.
-/
import Derived.Shelf.Strings.Repeat
import Derived.Test.YtccomlafacdcjaaProg
namespace Go.Proofs
open Go.Shelf
def Try.lays105_ren : Go.Shelf.Ren := ⟨fun | 105 => 46 | 212 => 49 | 99 => 50 | 165 => 51 | 166 => 52 | 170 => 53 | 169 => 54 | 263 => 55 | 264 => 56 | 206 => 57 | 240 => 58 | 241 => 59 | 276 => 60 | 277 => 61 | n => n, fun | 9 => 9 | 3 => 3 | 4 => 4 | 20 => 20 | 0 => 0 | 46 => 93 | 109 => 94 | 5 => 5 | 72 => 99 | 76 => 103 | 51 => 106 | 146 => 107 | 53 => 109 | 148 => 110 | 70 => 97 | 37 => 91 | 75 => 102 | 127 => 112 | 164 => 113 | 80 => 105 | n => n, fun | n => n⟩
theorem Try.lays105 : Go.Proofs.Lays.n105 Try.prog Try.lays105_ren := {
  mixed := by kernel_rfl
  f99 := Try.func50.trans (congrArg some (by kernel_rfl))
  f105 := Try.func46.trans (congrArg some (by kernel_rfl))
  f165 := Try.func51.trans (congrArg some (by kernel_rfl))
  f166 := Try.func52.trans (congrArg some (by kernel_rfl))
  f169 := Try.func54.trans (congrArg some (by kernel_rfl))
  f170 := Try.func53.trans (congrArg some (by kernel_rfl))
  f206 := Try.func57.trans (congrArg some (by kernel_rfl))
  f212 := Try.func49.trans (congrArg some (by kernel_rfl))
  f240 := Try.func58.trans (congrArg some (by kernel_rfl))
  f241 := Try.func59.trans (congrArg some (by kernel_rfl))
  f263 := Try.func55.trans (congrArg some (by kernel_rfl))
  f264 := Try.func56.trans (congrArg some (by kernel_rfl))
  f276 := Try.func60.trans (congrArg some (by kernel_rfl))
  f277 := Try.func61.trans (congrArg some (by kernel_rfl))
  t0 := Try.underlying0
  a0 := Try.isAgg0
  z0 := Try.sizeOf0
  v0 := Try.zeroValue0
  t3 := Try.underlying3
  a3 := Try.isAgg3
  z3 := Try.sizeOf3
  v3 := Try.zeroValue3
  t4 := Try.underlying4
  a4 := Try.isAgg4
  z4 := Try.sizeOf4
  v4 := Try.zeroValue4
  t5 := Try.underlying5
  a5 := Try.isAgg5
  z5 := Try.sizeOf5
  v5 := Try.zeroValue5
  t9 := Try.underlying9
  a9 := Try.isAgg9
  z9 := Try.sizeOf9
  v9 := Try.zeroValue9
  t20 := Try.underlying20
  a20 := Try.isAgg20
  z20 := Try.sizeOf20
  v20 := Try.zeroValue20
  t37 := Try.underlying91
  a37 := Try.isAgg91
  z37 := Try.sizeOf91
  v37 := Try.zeroValue91
  t46 := Try.underlying93
  a46 := Try.isAgg93
  z46 := Try.sizeOf93
  v46 := Try.zeroValue93
  t51 := Try.underlying106
  a51 := Try.isAgg106
  z51 := Try.sizeOf106
  v51 := Try.zeroValue106
  t53 := Try.underlying109
  a53 := Try.isAgg109
  z53 := Try.sizeOf109
  v53 := Try.zeroValue109
  t70 := Try.underlying97
  a70 := Try.isAgg97
  z70 := Try.sizeOf97
  v70 := Try.zeroValue97
  t72 := Try.underlying99
  a72 := Try.isAgg99
  z72 := Try.sizeOf99
  v72 := Try.zeroValue99
  t75 := Try.underlying102
  a75 := Try.isAgg102
  z75 := Try.sizeOf102
  v75 := Try.zeroValue102
  t76 := Try.underlying103
  a76 := Try.isAgg103
  z76 := Try.sizeOf103
  v76 := Try.zeroValue103
  t109 := Try.underlying94
  a109 := Try.isAgg94
  z109 := Try.sizeOf94
  v109 := Try.zeroValue94
  t127 := Try.underlying112
  a127 := Try.isAgg112
  z127 := Try.sizeOf112
  v127 := Try.zeroValue112
  t146 := Try.underlying107
  a146 := Try.isAgg107
  z146 := Try.sizeOf107
  v146 := Try.zeroValue107
  t148 := Try.underlying110
  a148 := Try.isAgg110
  z148 := Try.sizeOf110
  v148 := Try.zeroValue110
  t164 := Try.underlying113
  a164 := Try.isAgg113
  z164 := Try.sizeOf113
  v164 := Try.zeroValue113 }
theorem Try.Builder_Extra_105 : Builder.Extra Try.prog Try.lays105_ren := {
  sizeBuilder := by kernel_rfl
  liesBuilder := by kernel_rfl
  t5 := Try.underlying5
  a5 := Try.isAgg5
  z5 := Try.sizeOf5
  v5 := Try.zeroValue5
  infoByte := by kernel_rfl
  cellsByte := by kernel_rfl
  sizeByte := by kernel_rfl
  neB5 := by decide }
open Go.RowKit Go.Lib in
/-- **strings.Repeat: count ≥ 0, the result within one allocation: count copies of s.** (LAID: no walk: one application.) -/
theorem Try.strings_Repeat (s : ByteArray) (c : Nat) (w : World) (hc : c ≤ 9223372036854775807) (hlen : s.size * c ≤ 140737488355328) :
    Calls Try.prog 46 #[.string s, .int .i64 c] w fun e w' => e = .returned (.string ⟨(Lib.repeatL s.data.toList c).toArray⟩) ∧ Below w.heap.size w w' := Any.strings_Repeat Try.lays105 Try.Builder_Extra_105 s c w hc hlen
end Go.Proofs
