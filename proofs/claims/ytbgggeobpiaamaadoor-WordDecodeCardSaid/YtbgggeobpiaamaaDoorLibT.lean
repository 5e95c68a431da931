/- makeASCIISet and asciiSet.contains of package strings, laid at this program. -/
import Derived.Shelf.Small.Strs
import Derived.Shelf.Strings.Search1
import Derived.Shelf.Strings.Search2
import Derived.Shelf.Strings.Search3
import Derived.Shelf.Strings.Runes
import Derived.Shelf.Strings.AsciiSet
import Derived.Test.YtbgggeobpiaamaaDoorProg
namespace Go.Proofs.YtbgggeobpiaamaaDoor
open Go.Shelf Go.RowKit
set_option linter.unusedVariables false
def lb_lays227_ren : Go.Shelf.Ren := ⟨fun | 227 => 55 | n => n, fun | 9 => 9 | 116 => 75 | 4 => 4 | 0 => 0 | 3 => 3 | 5 => 5 | n => n, fun | n => n⟩
theorem lb_lays227 : Go.Proofs.Lays.n227 Tryd.prog lb_lays227_ren := {
  mixed := by kernel_rfl
  f227 := Tryd.func55.trans (congrArg some (by kernel_rfl))
  t0 := Tryd.underlying0
  a0 := Tryd.isAgg0
  z0 := Tryd.sizeOf0
  v0 := Tryd.zeroValue0
  t3 := Tryd.underlying3
  a3 := Tryd.isAgg3
  z3 := Tryd.sizeOf3
  v3 := Tryd.zeroValue3
  t4 := Tryd.underlying4
  a4 := Tryd.isAgg4
  z4 := Tryd.sizeOf4
  v4 := Tryd.zeroValue4
  t5 := Tryd.underlying5
  a5 := Tryd.isAgg5
  z5 := Tryd.sizeOf5
  v5 := Tryd.zeroValue5
  t9 := Tryd.underlying9
  a9 := Tryd.isAgg9
  z9 := Tryd.sizeOf9
  v9 := Tryd.zeroValue9
  t116 := Tryd.underlying75
  a116 := Tryd.isAgg75
  z116 := Tryd.sizeOf75 }
theorem lb_strings_makeASCIISet (hv116 : ∀ w, (zeroValue 75).run Tryd.prog w = .ok (.agg (Array.replicate 256 (.bool false))) w) (chars : ByteArray) (w : World) (hs : chars.size < 4294967281) (hascii : ∀ (j : Nat) b, chars.data.toList[j]? = some b → b.toNat < 128) :
    Calls Tryd.prog 55 #[.string chars] w fun e w' => e = .returned (.tuple #[.agg (Lib.setCells chars.data.toList), .bool true]) ∧ w' = w.alloc (.cells (Lib.setCells chars.data.toList) 75) := Any.strings_makeASCIISet lb_lays227 hv116 (by kernel_rfl) chars w hs hascii
def lb_lays228_ren : Go.Shelf.Ren := ⟨fun | 228 => 80 | n => n, fun | 124 => 79 | 5 => 5 | 4 => 4 | 0 => 0 | 116 => 75 | n => n, fun | n => n⟩
theorem lb_lays228 : Go.Proofs.Lays.n228 Tryd.prog lb_lays228_ren := {
  mixed := by kernel_rfl
  f228 := Tryd.func80.trans (congrArg some (by kernel_rfl))
  t0 := Tryd.underlying0
  a0 := Tryd.isAgg0
  z0 := Tryd.sizeOf0
  v0 := Tryd.zeroValue0
  t4 := Tryd.underlying4
  a4 := Tryd.isAgg4
  z4 := Tryd.sizeOf4
  v4 := Tryd.zeroValue4
  t5 := Tryd.underlying5
  a5 := Tryd.isAgg5
  z5 := Tryd.sizeOf5
  v5 := Tryd.zeroValue5
  t116 := Tryd.underlying75
  a116 := Tryd.isAgg75
  z116 := Tryd.sizeOf75
  t124 := Tryd.underlying79
  a124 := Tryd.isAgg79
  z124 := Tryd.sizeOf79
  v124 := Tryd.zeroValue79 }
theorem lb_asciiSet_contains (b : Nat) (x : UInt8) (v : Bool) (w : World) (hc : w.cell? ⟨b, x.toNat, none⟩ = some (.bool v)) :
    Calls Tryd.prog 80 #[.pointer (some ⟨b, 0, none⟩), .int .u8 x.toNat] w fun e w' => e = .returned (.bool v) ∧ w' = w := Any.asciiSet_contains lb_lays228 b x v w hc
end Go.Proofs.YtbgggeobpiaamaaDoor
