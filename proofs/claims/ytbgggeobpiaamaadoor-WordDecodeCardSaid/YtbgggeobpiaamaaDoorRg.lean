/- Walk of regroup and its closures: groups of 'fr' bits come in, groups of 'tt' bits go out through 'pass'. -/
import Derived.Test.YtbgggeobpiaamaaDoorProg
import Derived.Test.YtbgggeobpiaamaaDoorKit
import Derived.Test.YtbgggeobpiaamaaDoorPure
import Derived.BigQuiet
import Derived.BigRegion
import Derived.Deep.QuietTactic
import Derived.Deep.RegionLaw
import Derived.Deep.RegionWith
import Derived.Deep.RegionHeld3
import Derived.Deep.LoopGhost
import Derived.Deep.DeepCutAuto
import Derived.KernelRfl
namespace Go.Proofs.YtbgggeobpiaamaaDoor
open Go.RowKit
set_option linter.unusedVariables false

/-- A box of one int. -/
def BoxI (w : World) (b : Nat) (n : Nat) : Prop := w.heap[b]? = some (.cells #[.int .i64 n] 3 (0, 0))
/-- The memory of a regrouping: text box B+1, from B+2, to B+3, pass B+4, bits B+5, count B+6. -/
structure RG (B fr tt pf bits count : Nat) (xs : List Nat) (w : World) : Prop where
  bBits : BoxI w (B + 5) bits
  bFrom : BoxI w (B + 2) fr
  bCount : BoxI w (B + 6) count
  bTo : BoxI w (B + 3) tt
  bPass : w.heap[B + 4]? = some (.cells #[.func (.func pf) #[] #[.pointer (some ⟨B + 1, 0, none⟩)]] 87 (0, 0))
  txt : ∃ v, w.heap[B + 1]? = some (.cells #[v] 43 (0, 0)) ∧ w.ownsRow B 5 1 v xs.length (xs.map U)

/-- What is asked of 'pass'. -/
def PassOK (w0 : World) (B pf m : Nat) (f : Nat → Nat) : Prop :=
  ∀ (w : World) (v : Value) (xs : List Nat) (g : Nat), Below B w0 w → w.heap[B + 1]? = some (.cells #[v] 43 (0, 0)) → w.ownsRow B 5 1 v xs.length (xs.map U) → xs.length ≤ 1000000 → g < m →
    Calls Tryd.prog pf #[.int .i64 g, .pointer (some ⟨B + 1, 0, none⟩)] w fun e w' => e = .returned (.tuple #[]) ∧
      (∃ v', w'.heap[B + 1]? = some (.cells #[v'] 43 (0, 0)) ∧ w'.ownsRow B 5 1 v' (xs.length + 1) ((xs ++ [f g]).map U)) ∧ Frame1 B (B + 1) v w w'

theorem bits_or_i64 (a b : Nat) (ha : a < 9223372036854775808) (hb : b < 9223372036854775808) : bits .or .i64 (a : Int) (b : Int) = ((a ||| b : Nat) : Int) := by
  have hx : a ||| b < 2 ^ 63 := Nat.or_lt_two_pow (by omega) (by omega)
  have h1 : (BitVec.ofInt 64 (a : Int)).toNat = a := by
    rw [BitVec.ofInt_natCast, BitVec.toNat_ofNat]; exact Nat.mod_eq_of_lt (by omega)
  have h2 : (BitVec.ofInt 64 (b : Int)).toNat = b := by
    rw [BitVec.ofInt_natCast, BitVec.toNat_ofNat]; exact Nat.mod_eq_of_lt (by omega)
  show IntKind.i64.wrap ((BitVec.ofInt 64 (a : Int) ||| BitVec.ofInt 64 (b : Int)).toNat : Int) = _
  rw [BitVec.toNat_or, h1, h2, IntKind.wrap_i64]
  omega
theorem bits_and_i64 (a b : Nat) (ha : a < 9223372036854775808) (hb : b < 9223372036854775808) : bits .and .i64 (a : Int) (b : Int) = ((a &&& b : Nat) : Int) := by
  have hx : a &&& b < 2 ^ 63 := Nat.and_lt_two_pow _ (by omega)
  have h1 : (BitVec.ofInt 64 (a : Int)).toNat = a := by
    rw [BitVec.ofInt_natCast, BitVec.toNat_ofNat]; exact Nat.mod_eq_of_lt (by omega)
  have h2 : (BitVec.ofInt 64 (b : Int)).toNat = b := by
    rw [BitVec.ofInt_natCast, BitVec.toNat_ofNat]; exact Nat.mod_eq_of_lt (by omega)
  show IntKind.i64.wrap ((BitVec.ofInt 64 (a : Int) &&& BitVec.ofInt 64 (b : Int)).toNat : Int) = _
  rw [BitVec.toNat_and, h1, h2, IntKind.wrap_i64]
  omega
theorem wrap_nat {n : Int} (h0 : 0 ≤ n) (h1 : n ≤ 9223372036854775807) : wrap64 n = n := by unfold wrap64; omega
theorem or_group (b fr g : Nat) (hb : b < 256) (hfr : fr ≤ 8) (hg : g < 2 ^ fr) : bits .or .i64 (wrap64 ((b : Int) * 2 ^ fr)) (g : Int) = ((b * 2 ^ fr + g : Nat) : Int) := by
  have hp : 2 ^ fr ≤ 2 ^ 8 := Nat.pow_le_pow_right (by omega) hfr
  have hm : b * 2 ^ fr ≤ 256 * 256 := Nat.mul_le_mul (by omega) (by omega)
  have e : ((b : Int) * 2 ^ fr) = ((b * 2 ^ fr : Nat) : Int) := by push_cast; rfl
  rw [e, wrap_nat (by omega) (by omega), bits_or_i64 _ _ (by omega) (by omega)]
  congr 1
  have := Nat.shiftLeft_add_eq_or_of_lt hg b
  rw [Nat.shiftLeft_eq] at this
  exact this.symm
theorem and_mask (b c : Nat) (hb : b < 65536) (hc : c ≤ 16) : bits .and .i64 (b : Int) (2 ^ c - 1) = ((b % 2 ^ c : Nat) : Int) := by
  have hp : 2 ^ c ≤ 2 ^ 16 := Nat.pow_le_pow_right (by omega) hc
  have h1 : 0 < 2 ^ c := Nat.pow_pos (by omega)
  have e : ((2 : Int) ^ c - 1) = ((2 ^ c - 1 : Nat) : Int) := by rw [Int.ofNat_sub h1]; push_cast; rfl
  rw [e, bits_and_i64 _ _ (by omega) (by omega), Nat.and_two_pow_sub_one_eq_mod]

theorem and_mask' (b d : Nat) (hb : b < 65536) (hc : d ≤ 16) : bits .and .i64 (b : Int) (wrap64 (wrap64 (2 ^ d) - 1)) = ((b % 2 ^ d : Nat) : Int) := by
  have hp : 2 ^ d ≤ 2 ^ 16 := Nat.pow_le_pow_right (by omega) hc
  have h1 : 0 < 2 ^ d := Nat.pow_pos (by omega)
  have e : ((2 : Int) ^ d) = ((2 ^ d : Nat) : Int) := by push_cast; rfl
  rw [wrap_nat (n := 2 ^ d) (by rw [e]; omega) (by rw [e]; omega), wrap_nat (by rw [e]; omega) (by rw [e]; omega)]
  exact and_mask b d hb hc
theorem BoxI.drew {w : World} {b n : Nat} (h : BoxI w b n) : BoxI w.drew b n := h
theorem BoxI.same {w w' : World} {b n : Nat} (h : BoxI w b n) (e : w'.heap[b]? = w.heap[b]?) : BoxI w' b n := e.trans h
theorem BoxI.set {w : World} {b n m : Nat} (h : BoxI w b n) : BoxI (w.setCell ⟨b, 0, none⟩ (.int .i64 m)) b m := one_setCell h
theorem BoxI.other {w : World} {b n : Nat} {a : Addr} {u : Value} (h : BoxI w b n) (ha : b ≠ a.block) : BoxI (w.setCell a u) b n := h.same (Below.heap_setCell _ _ _ _ ha)
theorem RG.setBits {B fr tt pf b c : Nat} {xs : List Nat} {w : World} (h : RG B fr tt pf b c xs w) (b' : Nat) : RG B fr tt pf b' c xs (w.setCell ⟨B + 5, 0, none⟩ (.int .i64 b')) := by
  obtain ⟨h1, h2, h3, h4, h5, v, h6, h7⟩ := h
  exact ⟨h1.set, h2.other (by simp), h3.other (by simp), h4.other (by simp), (Below.heap_setCell _ _ _ _ (by simp)).trans h5, v, (Below.heap_setCell _ _ _ _ (by simp)).trans h6, ownsRow_setCell_other h7 (own_ne (b := B + 5) (t := 3) h7 h1 (by decide)) _⟩
theorem RG.setCount {B fr tt pf b c : Nat} {xs : List Nat} {w : World} (h : RG B fr tt pf b c xs w) (c' : Nat) : RG B fr tt pf b c' xs (w.setCell ⟨B + 6, 0, none⟩ (.int .i64 c')) := by
  obtain ⟨h1, h2, h3, h4, h5, v, h6, h7⟩ := h
  exact ⟨h1.other (by simp), h2.other (by simp), h3.set, h4.other (by simp), (Below.heap_setCell _ _ _ _ (by simp)).trans h5, v, (Below.heap_setCell _ _ _ _ (by simp)).trans h6, ownsRow_setCell_other h7 (own_ne (b := B + 6) (t := 3) h7 h3 (by decide)) _⟩
theorem RG.drew {B fr tt pf b c : Nat} {xs : List Nat} {w : World} (h : RG B fr tt pf b c xs w) : RG B fr tt pf b c xs w.drew := ⟨h.1, h.2, h.3, h.4, h.5, h.6⟩
theorem RG.below {B fr tt pf b c : Nat} {xs : List Nat} {w w' : World} (h : RG B fr tt pf b c xs w) (hb : Below w.heap.size w w') : RG B fr tt pf b c xs w' := by
  obtain ⟨h1, h2, h3, h4, h5, v, h6, h7⟩ := h
  refine ⟨h1.same (hb.block _ (lt_of_block h1)), h2.same (hb.block _ (lt_of_block h2)), h3.same (hb.block _ (lt_of_block h3)), h4.same (hb.block _ (lt_of_block h4)), (hb.block _ (lt_of_block h5)).trans h5, v, (hb.block _ (lt_of_block h6)).trans h6, h7.1, ?_⟩
  rcases h7.2 with h | ⟨g, cap, cur, hv, hg, hh, r⟩
  · exact .inl h
  · exact .inr ⟨g, cap, cur, hv, hg, (hb.block _ (lt_of_block hh)).trans hh, r⟩
/-- Behind a call of 'pass'. -/
theorem RG.passed {B fr tt pf b c : Nat} {xs : List Nat} {z : Nat} {w w' : World} {v : Value} (h : RG B fr tt pf b c xs w) (hown : w.ownsRow B 5 1 v xs.length (xs.map U))
    (hn : ∃ v', w'.heap[B + 1]? = some (.cells #[v'] 43 (0, 0)) ∧ w'.ownsRow B 5 1 v' (xs.length + 1) ((xs ++ [z]).map U)) (hf : Frame1 B (B + 1) v w w') : RG B fr tt pf b c (xs ++ [z]) w' := by
  obtain ⟨h1, h2, h3, h4, h5, _⟩ := h
  exact ⟨h1.same (hf.other _ (lt_of_block h1) (by omega) (own_ne (t := 3) hown h1 (by decide))), h2.same (hf.other _ (lt_of_block h2) (by omega) (own_ne (t := 3) hown h2 (by decide))), h3.same (hf.other _ (lt_of_block h3) (by omega) (own_ne (t := 3) hown h3 (by decide))), h4.same (hf.other _ (lt_of_block h4) (by omega) (own_ne (t := 3) hown h4 (by decide))),
    (hf.other _ (lt_of_block h5) (by omega) (own_ne hown h5 (by decide))).trans h5, by rw [List.length_append]; exact hn⟩

end Go.Proofs.YtbgggeobpiaamaaDoor
