/- Plain and longest. -/
import Derived.Test.YtbgggeobpiaamaaDoorEP
import Derived.Test.YtbgggeobpiaamaaDoorFold
import Derived.Lib.IndexMore
namespace Go.Proofs.YtbgggeobpiaamaaDoor
open Go.RowKit
set_option linter.unusedVariables false
set_option maxRecDepth 100000

theorem index_hasEq : ∀ (l : List UInt8), decide (0 ≤ Lib.index l [61, 63]) = hasEq (l.map UInt8.toNat) := by
  intro l
  induction l with
  | nil => rfl
  | cons a l ih =>
    cases l with
    | nil => simp [Lib.index, hasEq, List.isPrefixOf]
    | cons b l =>
      have e : ([61, 63] : List UInt8).isPrefixOf (a :: b :: l) = (decide (a.toNat = 61) && decide (b.toNat = 63)) := by
        simp only [List.isPrefixOf, Bool.and_true]
        rw [Bool.eq_iff_iff]
        simp only [Bool.and_eq_true, beq_iff_eq, decide_eq_true_eq]
        constructor
        · rintro ⟨rfl, rfl⟩; exact ⟨rfl, rfl⟩
        · rintro ⟨h1, h2⟩; exact ⟨UInt8.toNat_inj.1 h1.symm, UInt8.toNat_inj.1 h2.symm⟩
      rw [Lib.index, e]
      simp only [List.map_cons] at ih ⊢
      rw [hasEq, ← ih]
      cases decide (a.toNat = 61) && decide (b.toNat = 63)
      · simp only [Bool.false_eq_true, if_false, Bool.false_or]
        have := Lib.index_ge (b :: l) [61, 63]
        by_cases h : Lib.index (b :: l) [61, 63] = -1
        · rw [h]; rfl
        · have hb : (Lib.index (b :: l) [61, 63] == -1) = false := beq_eq_false_iff_ne.2 h
          rw [hb]
          simp only [Bool.false_eq_true, if_false]
          exact decide_eq_decide.2 (by omega)
      · simp
theorem contains_hasEq (s : ByteArray) (w : World) (hs : s.size < 4294967281) (he : Env w) :
    Calls Tryd.prog 41 #[.string s, .string ⟨#[61, 63]⟩] w fun e w' => e = .returned (.bool (hasEq (bs s))) ∧ w = w' := by
  obtain ⟨m, hm⟩ := he.mx
  refine (lb_strings_Contains s ⟨#[61, 63]⟩ m w hs hm).mono ?_
  rintro e w' ⟨rfl, rfl⟩
  refine ⟨ret_bool ?_, rfl⟩
  exact index_hasEq s.data.toList

set_option maxHeartbeats 1000000 in
theorem plain_any (s : ByteArray) (w : World) (hs : s.size ≤ 1000000) (he : Env w) :
    Calls Tryd.prog 19 #[.string s] w fun e w' => e = .returned (.bool (plain (bs s))) ∧ Below w.heap.size w w' := by
  have V := Lib.hid (isprt_any s w (by unfold maxLen; omega))
  have CF : Hid (∀ (w : World) (a : Option Addr) (cap : Nat), Rd w a (bs s) → Calls Tryd.prog 31 #[.slice a s.size cap, .func (.func 40) #[] #[]] w fun e w' => e = .returned (.bool ((bs s).any high)) ∧ w = w') := fun w a cap h => by
    rw [← bs_length]; exact cf_high w a cap (bs s) (by rw [bs_length]; unfold maxLen; omega) h
  have CC : Hid (∀ w', Below w.heap.size w w' → Calls Tryd.prog 41 #[.string s, .string ⟨#[61, 63]⟩] w' fun e w'' => e = .returned (.bool (hasEq (bs s))) ∧ w' = w'') := fun w' hb => contains_hasEq s w' (by omega) (he.on hb)
  have cv := bytes_run s
  obtain ⟨b, hb⟩ : ∃ b, b = prt (bs s) := ⟨_, rfl⟩
  obtain ⟨c, hc⟩ : ∃ c, c = (bs s).any high := ⟨_, rfl⟩
  obtain ⟨d, hd⟩ : ∃ d, d = hasEq (bs s) := ⟨_, rfl⟩
  have hp : plain (bs s) = (b && !c && !d) := by rw [hb, hc, hd]; rfl
  rw [← hb] at V
  rw [← hc] at CF
  rw [← hd] at CC
  rw [hp]
  clear hb hc hd hp hs he
  cases b
  · go_enter Tryd.func19, Tryd.ntmps19
    go_wp2_with (go_at_call 28; refine V.out.mono ?_; rintro e w1 ⟨rfl, hb1⟩)
    go_ret
    exact ⟨rfl, hb1⟩
  · cases c
    · go_enter Tryd.func19, Tryd.ntmps19
      go_wp2_with (first | (go_at_call 28; refine V.out.mono ?_; rintro e w1 ⟨rfl, hb1⟩; clear V) | (go_at_call 31; refine (CF.out _ _ _ (rd_conv w1 s _ _)).mono ?_; rintro e w' ⟨rfl, rfl⟩) | (go_at_call 41; refine (CC.out _ (below_conv hb1 hb1.size _)).mono ?_; rintro e w' ⟨rfl, rfl⟩))
      go_ret
      exact ⟨by cases d <;> rfl, below_conv hb1 hb1.size _⟩
    · go_enter Tryd.func19, Tryd.ntmps19
      go_wp2_with (first | (go_at_call 28; refine V.out.mono ?_; rintro e w1 ⟨rfl, hb1⟩; clear V) | (go_at_call 31; refine (CF.out _ _ _ (rd_conv w1 s _ _)).mono ?_; rintro e w' ⟨rfl, rfl⟩))
      go_ret
      exact ⟨rfl, below_conv hb1 hb1.size _⟩

/-- What longest returns. -/
def LgPost (enc : Int) (l : List Nat) (w : World) (e : Ending) (w' : World) : Prop := e = .returned (.tuple #[.string (strN (lgW enc l)), .int .i64 (lgF enc l : Int)]) ∧ Below w.heap.size w w'

set_option maxHeartbeats 1000000 in
theorem longest_any (s : ByteArray) (enc : Int) (w : World) (hs : s.size ≤ 100000) (hv : vld (bs s) = true) (he : Env w) :
    Calls Tryd.prog 38 #[.string s, .int .i64 enc] w (LgPost enc (bs s) w) := by
  have HE := Lib.hid he; have HV := Lib.hid hv
  clear he hv
  go_enter Tryd.func38, Tryd.ntmps38
  go_wp2_with fail
  go_loopg [4, 5] s.size (fun k v i wr => ∃ n fu : Nat, n ≤ s.size ∧ k = s.size - n ∧ i = .int .i64 (n : Int) ∧ v = .string (strN (wdAt enc (bs s) n)) ∧ Hid (vld ((bs s).drop n) = true) ∧ Hid (s.size + 1 ≤ fu + n ∧ lgN enc (bs s) fu n = lgF enc (bs s)) ∧ Below w.heap.size w wr)
  case atStart => exact ⟨0, s.size + 1, by omega, rfl, rfl, rfl, Lib.hid (by rw [List.drop_zero]; exact HV.out), Lib.hid ⟨by omega, by unfold lgF; rw [bs_length]⟩, Below.refl _ _⟩
  case round =>
    obtain ⟨n, fu, hn, rfl, rfl, rfl, hvn, hfu, hbw⟩ := hrel
    have HB := Lib.hid hbw
    clear hbw
    by_cases h : n < s.size
    · have hdl : ((bs s).drop n).length = s.size - n := by rw [List.length_drop, bs_length]
      have hne : (bs s).drop n ≠ [] := by intro e; rw [e] at hdl; simp at hdl; omega
      have hst := vld_step hne
      rw [hvn.out] at hst
      have hst2 := Bool.and_eq_true_iff.1 hst.symm
      have hrn : rn ((bs s).drop n) ≠ 0 := of_decide_eq_true hst2.1
      have hrl := (rn_le ((bs s).drop n)).1
      rw [hdl] at hrl
      have D := Lib.hid (udecode_any (s.extract n s.size) wr (by rw [ByteArray.size_extract]; unfold maxLen; omega))
      rw [bs_from] at D
      obtain ⟨m, hm⟩ : ∃ m, m = rn ((bs s).drop n) := ⟨_, rfl⟩
      have VN : Hid (vld ((bs s).drop (n + m)) = true) := Lib.hid (by rw [hm, ← List.drop_drop]; exact hst2.2)
      rw [← hm] at hrn hrl
      have HM := Lib.hid hm
      clear hdl hne hst hst2 hm
      go_wp2_with fail
      refine D.out.mono ?_
      rintro e w1 ⟨r, er, rfl, h1, h2, hd1⟩
      rw [← HM.out] at h1 h2 ⊢
      obtain rfl := h1 hrn
      clear h1 h2 D
      have B1 : Hid (Below w.heap.size w w1) := Lib.hid (HB.out.trans (hd1.below.mono HB.out.size))
      have WC := Lib.hid (word_any (s.extract 0 (n + m)) enc w1 (by rw [ByteArray.size_extract]; omega) (HE.out.on B1.out).tab)
      unfold WordPost at WC
      rw [bs_to] at WC
      obtain ⟨z, hz⟩ : ∃ z, z = wordR enc ((bs s).take (n + m)) := ⟨_, rfl⟩
      rw [← hz] at WC
      have HZ := Lib.hid hz
      clear hz hd1
      go_wp2_with fail
      refine WC.out.mono ?_
      rintro e w2 ⟨rfl, hb2⟩
      have B2 : Hid (Below w.heap.size w w2) := Lib.hid (B1.out.trans (hb2.mono B1.out.size))
      clear hb2 WC B1 HB
      by_cases z0 : z.2 = 0
      · have q0 : ((z.2 : Int) != 0) = false := int_nneq (by omega)
        obtain ⟨k, hk⟩ : ∃ k, fu = k + 1 := ⟨fu - 1, by have := hfu.out.1; omega⟩
        have NX : Hid (s.size + 1 ≤ k + (n + m) ∧ lgN enc (bs s) k (n + m) = lgF enc (bs s)) := Lib.hid ⟨by have := hfu.out.1; omega, by
          have a := hfu.out.2
          rw [hk, lgN_go (by rw [bs_length]; exact h) (by rw [← HM.out, ← HZ.out]; exact z0), ← HM.out] at a
          exact a⟩
        have hw : strN z.1 = strN (wdAt enc (bs s) (n + m)) := by unfold wdAt; rw [if_neg (by omega), ← HZ.out]
        have HW := Lib.hid hw
        clear hk hw
        go_wp2_with fail
        go_roundg (s.size - (n + m))
        case measure => omega
        case rel => exact ⟨n + m, k, by omega, rfl, by go_num, by rw [HW.out], VN.out, NX.out, B2.out⟩
      · have q0 : ((z.2 : Int) != 0) = true := int_neq (by omega)
        have FI : Hid (lgF enc (bs s) = n) := Lib.hid (by rw [← hfu.out.2]; exact lgN_stop (fun c => z0 (by rw [HZ.out, HM.out]; exact c.2)))
        go_wp2_with fail
        go_ret2
        exact ⟨by unfold lgW; rw [FI.out]; rfl, B2.out⟩
    · have FI : Hid (lgF enc (bs s) = n) := Lib.hid (by rw [← hfu.out.2]; exact lgN_stop (fun c => h (by rw [← bs_length]; exact c.1)))
      go_wp2_with fail
      go_ret2
      exact ⟨by unfold lgW; rw [FI.out]; rfl, HB.out⟩
end Go.Proofs.YtbgggeobpiaamaaDoor
