/- The statements' known. -/
import Derived.Test.YtbgggeobpiaamaaDoorDecW
import Derived.Test.YtbgggeobpiaamaaDoorEnc
namespace Go.Proofs.YtbgggeobpiaamaaDoor
open Go.RowKit
set_option linter.unusedVariables false
set_option maxRecDepth 100000
def kS : ByteArray := ⟨#[110, 97, 195, 175, 118, 101]⟩
def kT : ByteArray := ⟨#[82, 101, 58, 32, 61, 63, 85, 84, 70, 45, 56, 63, 113, 63, 97, 95, 98, 63, 61, 32, 32, 61, 63, 117, 116, 102, 45, 56, 63, 66, 63, 89, 119, 61, 61, 63, 61, 32, 100]⟩
theorem known_e : encR 1 (bs kS) = ([61, 63, 117, 116, 102, 45, 56, 63, 81, 63, 110, 97, 61, 67, 51, 61, 65, 70, 118, 101, 63, 61], 0) := by decide +kernel
theorem known_d : decR (bs kT) = ([82, 101, 58, 32, 97, 32, 98, 99, 32, 100], 0) := by decide +kernel
set_option maxHeartbeats 1000000 in
theorem known_w (w : World) (he : Env w) : Calls Tryd.prog 11 #[] w fun e w' => e = .returned (.bool true) ∧ Below w.heap.size w w' := by
  have C1 := Lib.hid (encode_word kS 1 w (by decide) he)
  have C2 : Hid (∀ w', Below w.heap.size w w' → Calls Tryd.prog 14 #[.string kT] w' (DwPost (bs kT) w')) := Lib.hid (fun w' hb => decode_word kT w' (by decide) (he.on hb))
  unfold EncPost at C1
  unfold DwPost at C2
  rw [known_e] at C1
  rw [known_d] at C2
  have e1 : strN ([61, 63, 117, 116, 102, 45, 56, 63, 81, 63, 110, 97, 61, 67, 51, 61, 65, 70, 118, 101, 63, 61] : List Nat) = ⟨#[61, 63, 117, 116, 102, 45, 56, 63, 81, 63, 110, 97, 61, 67, 51, 61, 65, 70, 118, 101, 63, 61]⟩ := by decide
  have e2 : strN ([82, 101, 58, 32, 97, 32, 98, 99, 32, 100] : List Nat) = ⟨#[82, 101, 58, 32, 97, 32, 98, 99, 32, 100]⟩ := by decide
  simp only [e1] at C1
  simp only [e2] at C2
  unfold kS at C1
  unfold kT at C2
  clear he e1 e2
  go_enter Tryd.func11, Tryd.ntmps11
  go_wp2_with (first | (go_at_call 18; refine C1.out.mono ?_; rintro e w1 ⟨rfl, hb1⟩) | (go_at_call 14; refine (C2.out _ hb1).mono ?_; rintro e w2 ⟨rfl, hb2⟩))
  go_ret
  exact ⟨rfl, hb1.trans (hb2.mono hb1.size)⟩
end Go.Proofs.YtbgggeobpiaamaaDoor
