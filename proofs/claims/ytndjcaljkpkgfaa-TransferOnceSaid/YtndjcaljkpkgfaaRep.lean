/- strings.Repeat: the contract of the library, laid at this program. -/
import Derived.Shelf.Strings.Repeat
import Derived.Test.YtndjcaljkpkgfaaProg
namespace Go.Proofs.Ytndjcaljkpkgfaa
open Go.Shelf
set_option linter.unusedVariables false
def rep105_ren : Go.Shelf.Ren := ⟨fun | 105 => 32 | 212 => 34 | 99 => 35 | 165 => 36 | 166 => 30 | 170 => 28 | 169 => 29 | 263 => 38 | 264 => 39 | 206 => 40 | 240 => 33 | 241 => 41 | 276 => 37 | 277 => 42 | n => n, fun | 9 => 9 | 3 => 3 | 4 => 4 | 20 => 20 | 0 => 0 | 46 => 78 | 109 => 79 | 5 => 5 | 72 => 65 | 76 => 72 | 51 => 85 | 146 => 86 | 53 => 88 | 148 => 89 | 70 => 62 | 37 => 63 | 75 => 71 | 127 => 77 | 164 => 83 | 80 => 69 | n => n, fun | n => n⟩
theorem rep105 : Go.Proofs.Lays.n105 Try.prog rep105_ren := {
  mixed := by kernel_rfl
  f99 := Try.func35.trans (congrArg some (by kernel_rfl))
  f105 := Try.func32.trans (congrArg some (by kernel_rfl))
  f165 := Try.func36.trans (congrArg some (by kernel_rfl))
  f166 := Try.func30.trans (congrArg some (by kernel_rfl))
  f169 := Try.func29.trans (congrArg some (by kernel_rfl))
  f170 := Try.func28.trans (congrArg some (by kernel_rfl))
  f206 := Try.func40.trans (congrArg some (by kernel_rfl))
  f212 := Try.func34.trans (congrArg some (by kernel_rfl))
  f240 := Try.func33.trans (congrArg some (by kernel_rfl))
  f241 := Try.func41.trans (congrArg some (by kernel_rfl))
  f263 := Try.func38.trans (congrArg some (by kernel_rfl))
  f264 := Try.func39.trans (congrArg some (by kernel_rfl))
  f276 := Try.func37.trans (congrArg some (by kernel_rfl))
  f277 := Try.func42.trans (congrArg some (by kernel_rfl))
  t0 := Try.underlying0
  a0 := Try.isAgg0
  z0 := Try.sizeOf0
  v0 := Try.zeroValue0
  t3 := Try.underlying3
  a3 := Try.isAgg3
  z3 := Try.sizeOf3
  v3 := Try.zeroValue3
  t4 := Try.underlying4
  a4 := Try.isAgg4
  z4 := Try.sizeOf4
  v4 := Try.zeroValue4
  t5 := Try.underlying5
  a5 := Try.isAgg5
  z5 := Try.sizeOf5
  v5 := Try.zeroValue5
  t9 := Try.underlying9
  a9 := Try.isAgg9
  z9 := Try.sizeOf9
  v9 := Try.zeroValue9
  t20 := Try.underlying20
  a20 := Try.isAgg20
  z20 := Try.sizeOf20
  v20 := Try.zeroValue20
  t37 := Try.underlying63
  a37 := Try.isAgg63
  z37 := Try.sizeOf63
  v37 := Try.zeroValue63
  t46 := Try.underlying78
  a46 := Try.isAgg78
  z46 := Try.sizeOf78
  v46 := Try.zeroValue78
  t51 := Try.underlying85
  a51 := Try.isAgg85
  z51 := Try.sizeOf85
  v51 := Try.zeroValue85
  t53 := Try.underlying88
  a53 := Try.isAgg88
  z53 := Try.sizeOf88
  v53 := Try.zeroValue88
  t70 := Try.underlying62
  a70 := Try.isAgg62
  z70 := Try.sizeOf62
  v70 := Try.zeroValue62
  t72 := Try.underlying65
  a72 := Try.isAgg65
  z72 := Try.sizeOf65
  v72 := Try.zeroValue65
  t75 := Try.underlying71
  a75 := Try.isAgg71
  z75 := Try.sizeOf71
  v75 := Try.zeroValue71
  t76 := Try.underlying72
  a76 := Try.isAgg72
  z76 := Try.sizeOf72
  v76 := Try.zeroValue72
  t109 := Try.underlying79
  a109 := Try.isAgg79
  z109 := Try.sizeOf79
  v109 := Try.zeroValue79
  t127 := Try.underlying77
  a127 := Try.isAgg77
  z127 := Try.sizeOf77
  v127 := Try.zeroValue77
  t146 := Try.underlying86
  a146 := Try.isAgg86
  z146 := Try.sizeOf86
  v146 := Try.zeroValue86
  t148 := Try.underlying89
  a148 := Try.isAgg89
  z148 := Try.sizeOf89
  v148 := Try.zeroValue89
  t164 := Try.underlying83
  a164 := Try.isAgg83
  z164 := Try.sizeOf83
  v164 := Try.zeroValue83 }
theorem rep105_extra : Builder.Extra Try.prog rep105_ren := {
  sizeBuilder := by kernel_rfl
  liesBuilder := by kernel_rfl
  t5 := Try.underlying5
  a5 := Try.isAgg5
  z5 := Try.sizeOf5
  v5 := Try.zeroValue5
  infoByte := by kernel_rfl
  cellsByte := by kernel_rfl
  sizeByte := by kernel_rfl
  neB5 := by decide }
open Go.RowKit Go.Lib in
/-- **strings.Repeat: count ≥ 0, the result within one allocation: count copies of s.** (LAID: no walk: one application.) -/
theorem strings_Repeat (s : ByteArray) (c : Nat) (w : World) (hc : c ≤ 9223372036854775807) (hlen : s.size * c ≤ 140737488355328) :
    Calls Try.prog 32 #[.string s, .int .i64 c] w fun e w' => e = .returned (.string ⟨(Lib.repeatL s.data.toList c).toArray⟩) ∧ Below w.heap.size w w' := Any.strings_Repeat rep105 rep105_extra s c w hc hlen
end Go.Proofs.Ytndjcaljkpkgfaa
