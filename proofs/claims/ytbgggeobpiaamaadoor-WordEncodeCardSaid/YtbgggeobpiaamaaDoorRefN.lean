/- The reference: Plain, Encode, Shorter; and Shorter of package word. -/
import Derived.Test.YtbgggeobpiaamaaDoorRefW
import Derived.Test.YtbgggeobpiaamaaDoorRP
import Derived.Test.YtbgggeobpiaamaaDoorEnc
namespace Go.Proofs.YtbgggeobpiaamaaDoor
open Go.RowKit
set_option linter.unusedVariables false
set_option maxRecDepth 100000

/-- The reference's plain texts. -/
def vis2 (c : Nat) : Bool := decide (32 ≤ c) && decide (c ≤ 126)
def pl2 : List Nat → Bool
  | [] => true
  | c :: l => vis2 c && !(decide (c = 61) && decide (l.getD 0 0 = 63)) && pl2 l
theorem hasEq_cons (c : Nat) (l : List Nat) : hasEq (c :: l) = ((decide (c = 61) && decide (l.getD 0 0 = 63)) || hasEq l) := by
  cases l with
  | nil => simp [hasEq]
  | cons b l => simp [hasEq]
theorem pl2_eq : ∀ l, pl2 l = (l.all vis2 && !hasEq l) := by
  intro l
  induction l with
  | nil => rfl
  | cons c l ih =>
    rw [pl2, ih, hasEq_cons, List.all_cons]
    cases vis2 c <;> cases (decide (c = 61) && decide (l.getD 0 0 = 63)) <;> cases l.all vis2 <;> simp
theorem prt_vis : ∀ l, l.all vis2 = true → prt l = true := by
  intro l
  induction l with
  | nil => intro _; rfl
  | cons c l ih =>
    intro h
    rw [List.all_cons, Bool.and_eq_true] at h
    obtain ⟨h1, h2⟩ := h
    unfold vis2 at h1
    simp only [Bool.and_eq_true, decide_eq_true_eq] at h1
    have hr : rn (c :: l) = 1 := rn_yes (n := 1) (by rw [List.getD_cons_zero]; unfold uLen; rw [if_pos (by omega)]) (by omega) (by simp) (fun i a b => by omega)
    rw [prt_step (by simp), hr, List.getD_cons_zero, List.drop_succ_cons, List.drop_zero, ih h2]
    have : ctrl c = false := by unfold ctrl; simp; omega
    rw [this]; rfl
theorem plain_pl2 (l : List Nat) : plain l = pl2 l := by
  rw [pl2_eq, Bool.eq_iff_iff]
  constructor
  · intro h
    obtain ⟨h1, h2, h3⟩ := plain_parts h
    rw [h3, Bool.and_eq_true, List.all_eq_true]
    refine ⟨fun x hx => ?_, rfl⟩
    have := h2 x hx
    unfold vis2; simp; omega
  · intro h
    rw [Bool.and_eq_true] at h
    unfold plain
    rw [prt_vis l h.1, h.2]
    have : l.any high = false := by
      rw [List.any_eq_false]
      intro x hx
      have := List.all_eq_true.1 h.1 x hx
      unfold vis2 at this; unfold high
      simp at this ⊢; omega
    rw [this]; rfl
theorem pl2_drop {l : List Nat} {n c : Nat} (h : n < l.length) (hc : c = l.getD n 0) : pl2 (l.drop n) = (vis2 c && !(decide (c = 61) && decide (l.getD (n + 1) 0 = 63)) && pl2 (l.drop (n + 1))) := by
  rw [drop_cons_getD h, ← hc, pl2]
  have : (l.drop (n + 1)).getD 0 0 = l.getD (n + 1) 0 := by simp [List.getD]
  rw [this]
set_option maxHeartbeats 1000000 in
theorem rplain_any (s : ByteArray) (w : World) (hs : s.size ≤ maxLen) :
    Calls Tryd.prog 24 #[.string s] w fun e w' => e = .returned (.bool (plain (bs s))) ∧ w = w' := by
  unfold maxLen at hs
  rw [plain_pl2]
  go_enter Tryd.func24, Tryd.ntmps24
  go_wp2_with fail
  go_loopg [3] s.size (fun k i wr => ∃ n : Nat, n ≤ s.size ∧ k = s.size - n ∧ i = .int .i64 (n : Int) ∧ Hid (pl2 (bs s) = pl2 ((bs s).drop n)) ∧ w = wr)
  case atStart => exact ⟨0, by omega, rfl, rfl, rfl, rfl⟩
  case round =>
    obtain ⟨n, hn, rfl, rfl, hp, rfl⟩ := hrel
    by_cases h : n < s.size
    · obtain ⟨c, hc⟩ : ∃ c, c = (bs s).getD n 0 := ⟨_, rfl⟩
      have hc2 : c < 256 := by rw [hc]; exact bs_lt' s n
      have ST := Lib.hid (pl2_drop (l := bs s) (n := n) (by rw [bs_length]; exact h) hc)
      have x0 := fun w => idx_q s w (n : Int) n rfl h c hc
      clear hc
      by_cases hv : c < 32 ∨ 126 < c
      · have PF : Hid (pl2 (bs s) = false) := Lib.hid (by
          rw [hp.out, ST.out]
          have : vis2 c = false := by unfold vis2; simp; omega
          rw [this]; rfl)
        rcases hv with hv | hv
        · go_wp2_with fail
          go_ret
          exact ⟨by rw [PF.out]; rfl, rfl⟩
        · go_wp2_with fail
          go_ret
          exact ⟨by rw [PF.out]; rfl, rfl⟩
      · have V2 : Hid (vis2 c = true) := Lib.hid (by unfold vis2; simp; omega)
        have c1 : ¬ c < 32 := by omega
        have c2 : ¬ 126 < c := by omega
        clear hv
        by_cases c61 : c = 61
        · by_cases h1 : n + 1 < s.size
          · obtain ⟨d, hd⟩ : ∃ d, d = (bs s).getD (n + 1) 0 := ⟨_, rfl⟩
            have hd2 : d < 256 := by rw [hd]; exact bs_lt' s (n + 1)
            have x1 := fun w => idx_q s w ((n : Int) + 1) (n + 1) (by omega) h1 d hd
            rw [← hd] at ST
            clear hd
            by_cases d63 : d = 63
            · have PF : Hid (pl2 (bs s) = false) := Lib.hid (by rw [hp.out, ST.out, decide_eq_true c61, decide_eq_true d63]; simp)
              have q1 : ((c : Int) == 61) = true := int_eq (by omega)
              have q2 : ((d : Int) == 63) = true := int_eq (by omega)
              clear c61 d63
              go_wp2_with fail
              go_ret
              exact ⟨by rw [PF.out]; rfl, rfl⟩
            · have PT : Hid (pl2 (bs s) = pl2 ((bs s).drop (n + 1))) := Lib.hid (by rw [hp.out, ST.out, decide_eq_false d63, V2.out]; simp)
              have q1 : ((c : Int) == 61) = true := int_eq (by omega)
              have q2 : ((d : Int) == 63) = false := int_ne (by omega)
              clear c61 d63
              go_wp2_with fail
              go_roundg (s.size - (n + 1))
              case measure => omega
              case rel => exact ⟨n + 1, by omega, rfl, by go_num, PT.out, rfl⟩
          · have PT : Hid (pl2 (bs s) = pl2 ((bs s).drop (n + 1))) := Lib.hid (by
              rw [hp.out, ST.out, V2.out]
              have : (bs s).getD (n + 1) 0 = 0 := by rw [List.getD_eq_getElem?_getD, List.getElem?_eq_none (by rw [bs_length]; omega)]; rfl
              rw [this]; simp)
            have q1 : ((c : Int) == 61) = true := int_eq (by omega)
            clear c61
            go_wp2_with fail
            go_roundg (s.size - (n + 1))
            case measure => omega
            case rel => exact ⟨n + 1, by omega, rfl, by go_num, PT.out, rfl⟩
        · have PT : Hid (pl2 (bs s) = pl2 ((bs s).drop (n + 1))) := Lib.hid (by rw [hp.out, ST.out, decide_eq_false c61, V2.out]; simp)
          have q1 : ((c : Int) == 61) = false := int_ne (by omega)
          go_wp2_with fail
          go_roundg (s.size - (n + 1))
          case measure => omega
          case rel => exact ⟨n + 1, by omega, rfl, by go_num, PT.out, rfl⟩
    · have PT : Hid (pl2 (bs s) = true) := Lib.hid (by rw [hp.out, List.drop_of_length_le (by rw [bs_length]; omega)]; rfl)
      go_wp2_with fail
      go_ret
      exact ⟨by rw [PT.out]; rfl, rfl⟩
end Go.Proofs.YtbgggeobpiaamaaDoor
