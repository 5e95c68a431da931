/- bulletinlaw32.length: a text of some bytes. -/
import Derived.Test.YtndjcaljkpkgfaaRep
import Derived.Test.YtndjcaljkpkgfaaCmds
namespace Go.Proofs.Ytndjcaljkpkgfaa
open Go.RowKit Go.Maps
set_option linter.unusedVariables false

theorem length_any (w : World) (t : ByteArray) (n : Int) (h0 : 0 ≤ n) (h1 : n ≤ 65535) (ht : t.size ≤ 300) :
    Calls Try.prog 19 #[.string t, .int .u16 n] w fun e w' => ∃ q : ByteArray, e = .returned (.string q) ∧ q.size ≤ 8000 ∧ Below w.heap.size w w' := by
  obtain ⟨c, hc⟩ : ∃ c : Nat, c = (n % 700).toNat := ⟨_, rfl⟩
  have HC : Hid ((c : Int) = n % 700) := Lib.hid (by omega)
  have hc7 : c < 700 := by omega
  have R := Lib.hid (strings_Repeat ⟨#[48, 49, 50, 51, 52, 53, 54, 55, 56, 57, 10]⟩ c w (by omega) (by show 11 * c ≤ _; omega))
  clear hc
  go_enter Try.func19, Try.ntmps19
  go_wp2_with fail
  rw [← HC.out]
  refine R.out.mono ?_
  rintro e w1 ⟨rfl, hb1⟩
  obtain ⟨q, hq⟩ : ∃ q : ByteArray, q = { data := (Lib.repeatL [48, 49, 50, 51, 52, 53, 54, 55, 56, 57, 10] c).toArray } := ⟨_, rfl⟩
  have hqs : q.size ≤ 7689 := by
    have := Lib.repeatL_length [48, 49, 50, 51, 52, 53, 54, 55, 56, 57, 10] c
    rw [hq]
    simp only [ByteArray.size, List.size_toArray, this]
    simp
    omega
  rw [show (ByteArray.mk (Lib.repeatL (ByteArray.mk #[48, 49, 50, 51, 52, 53, 54, 55, 56, 57, 10]).data.toList c).toArray) = q from hq.symm]
  clear hq R HC
  go_wp2_with fail
  go_ret
  refine ⟨_, rfl, ?_, hb1⟩
  simp
  omega

end Go.Proofs.Ytndjcaljkpkgfaa
