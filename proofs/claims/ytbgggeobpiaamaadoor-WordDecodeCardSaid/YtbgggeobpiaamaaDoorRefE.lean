/- Walk of the reference's Encode and Size. -/
import Derived.Test.YtbgggeobpiaamaaDoorPureR
import Derived.Test.YtbgggeobpiaamaaDoorEncD
import Derived.Test.YtbgggeobpiaamaaDoorDec
namespace Go.Proofs.YtbgggeobpiaamaaDoor
open Go.RowKit Go.Maps
set_option linter.unusedVariables false
set_option maxRecDepth 100000

/-- The letters as a string. -/
def alphS : ByteArray := ⟨#[65, 66, 67, 68, 69, 70, 71, 72, 73, 74, 75, 76, 77, 78, 79, 80, 81, 82, 83, 84, 85, 86, 87, 88, 89, 90, 97, 98, 99, 100, 101, 102, 103, 104, 105, 106, 107, 108, 109, 110, 111, 112, 113, 114, 115, 116, 117, 118, 119, 120, 121, 122, 48, 49, 50, 51, 52, 53, 54, 55, 56, 57, 43, 47]⟩
theorem bits_and1_u8 (q : Nat) (h : q < 256) : bits .and .u8 (q : Int) 1 = ((q % 2 : Nat) : Int) := by
  have : ∀ q : Fin 256, bits .and .u8 ((q.val : Nat) : Int) 1 = ((q.val % 2 : Nat) : Int) := by decide +kernel
  exact this ⟨q, h⟩

theorem strN_append (a b : List Nat) : strN a ++ strN b = strN (a ++ b) := by
  apply ByteArray.ext
  simp [strN]
theorem alphS_ext (v : Nat) (h : v < 64) : alphS.extract v (v + 1) = strN [al v] := by
  have : ∀ v : Fin 64, alphS.extract v.val (v.val + 1) = strN [al v.val] := by decide +kernel
  exact this ⟨v, h⟩

set_option maxHeartbeats 1000000 in
theorem rencode_any (w : World) (a : Option Addr) (cap : Nat) (l : List Nat) (hl : l.length ≤ 400000) (hrd : Rd w a l) :
    Calls Tryd.prog 78 #[.slice a l.length cap] w fun e w' => e = .returned (.string (strN (encF l))) ∧ w = w' := by
  obtain ⟨n, hn⟩ : ∃ n, n = l.length := ⟨_, rfl⟩
  have HC := Lib.hid hrd.at_; have H2 := Lib.hid hrd.lt; have HN := Lib.hid hn
  rw [← hn]
  have hn4 : n ≤ 400000 := by omega
  clear hrd hl hn
  go_enter Tryd.func78, Tryd.ntmps78
  go_wp2_with fail
  go_loopg [3, 4, 5, 6] n (fun k o v h i wr => ∃ (j b c : Nat) (xs : List Nat), w = wr ∧ j ≤ n ∧ k = n - j ∧ i = .int .i64 (j : Int) ∧ v = .int .i64 (b : Int) ∧ h = .int .i64 (c : Int) ∧ o = .string (strN xs) ∧ encSt (l.take j) = (b, c, xs))
  case atStart => exact ⟨0, 0, 0, [], rfl, by omega, by omega, rfl, rfl, rfl, rfl, rfl⟩
  case round =>
    obtain ⟨j, b, c, xs, rfl, hj, rfl, rfl, rfl, rfl, rfl, hst⟩ := hrel
    have h25 : ∀ x ∈ l.take j, x < 256 := fun x hx => H2.out x (List.mem_of_mem_take hx)
    have hinv := encSt_inv (l.take j) h25
    have hev := enc_even (l.take j) h25
    rw [hst] at hinv hev
    obtain ⟨i1, i2, i3⟩ := hinv
    simp only [List.length_take] at i1 i2 i3 hev
    have hxl : xs.length ≤ 900000 := by omega
    clear h25
    by_cases hlt : j < n
    · have hjl : j < l.length := by rw [← HN.out]; exact hlt
      obtain ⟨bb, off, rfl, hbw, hcell⟩ := HC.out (by omega)
      have hx : w.cell? ⟨bb, off + j, none⟩ = some (U l[j]) := hcell j hjl
      clear hcell
      have hg : l[j] < 256 := H2.out _ (List.getElem_mem hjl)
      obtain ⟨g, hg'⟩ : ∃ g, g = l[j] := ⟨_, rfl⟩
      rw [← hg'] at hx hg
      unfold U at hx
      have ST := Lib.hid hst; have HG := Lib.hid hg'; have I2 := Lib.hid i2; have I3 := Lib.hid i3
      clear hst hg' i2 i3
      go_wp2_with fail
      go_loopg [3, 4, 5, 7] 8 (fun k o v h i wr => ∃ (m b' c' : Nat) (ys : List Nat), w = wr ∧ m ≤ 8 ∧ k = 8 - m ∧ i = .int .i64 (7 - (m : Int)) ∧ v = .int .i64 (b' : Int) ∧ h = .int .i64 (c' : Int) ∧ o = .string (strN ys) ∧ bitRun (b, c, xs) g m = (b', c', ys))
      case atStart => exact ⟨0, b, c, xs, rfl, by omega, by omega, rfl, rfl, rfl, rfl, rfl⟩
      case round =>
        obtain ⟨m, b', c', ys, rfl, hm, rfl, rfl, rfl, rfl, rfl, hbr⟩ := hrel
        have hbi := bitRun_inv (s := (b, c, xs)) (g := g) i1 I2.out m
        rw [hbr] at hbi
        simp only at hbi
        by_cases hm8 : m < 8
        · obtain ⟨k, hk⟩ : ∃ k, k = 7 - m := ⟨_, rfl⟩
          obtain ⟨q, hq⟩ : ∃ q, q = g / 2 ^ k := ⟨_, rfl⟩
          obtain ⟨t, htt⟩ : ∃ t, t = q % 2 := ⟨_, rfl⟩
          have hq256 : q < 256 := by rw [hq]; exact Nat.lt_of_le_of_lt (Nat.div_le_self _ _) hg
          have ek : (7 : Int) - (m : Int) = (k : Int) := by omega
          have e1 : (g : Int) / 2 ^ k = (q : Int) := by rw [hq]; push_cast; rfl
          have e2 : Go.bits .and .u8 (q : Int) 1 = (t : Int) := by rw [htt]; exact bits_and1_u8 q hq256
          have ht2 : t < 2 := by omega
          have hbb : b' < 64 := Nat.lt_of_lt_of_le hbi.2.1 (by have : 2 ^ c' ≤ 2 ^ 6 := Nat.pow_le_pow_right (by omega) (by omega)
                                                               omega)
          have BR := Lib.hid hbr; have K := Lib.hid hk; have Q := Lib.hid hq; have T := Lib.hid htt; have BI := Lib.hid hbi
          have hc6 : c' < 6 := hbi.1
          clear hbr hk hq htt hbi
          by_cases h6 : c' + 1 = 6
          · have h6' : ((c' : Int) + 1 == 6) = true := int_eq (by omega)
            have hv0 : 2 * b' + t < 64 := by
              have := BI.out.2.1
              obtain rfl : c' = 5 := by omega
              omega
            have hex := alphS_ext (2 * b' + t) hv0
            unfold alphS at hex
            have hsz : (strN ys).size ≤ 2000000 := by rw [strN_size]; have := BI.out.2.2; omega
            have hsz2 : (strN [al (2 * b' + t)]).size = 1 := strN_size _
            go_wp2_with fail
            go_roundg (8 - (m + 1))
            case measure => omega
            case rel =>
              refine ⟨m + 1, 0, 0, ys ++ [al (2 * b' + t)], rfl, by omega, rfl, by go_num, rfl, rfl, ?_, ?_⟩
              · exact congrArg Value.string (strN_append _ _)
              · rw [bitRun, BR.out, bitStep, if_pos h6, ← K.out, ← Q.out, ← T.out]
          · have h6' : ((c' : Int) + 1 == 6) = false := int_ne (by omega)
            go_wp2_with fail
            go_roundg (8 - (m + 1))
            case measure => omega
            case rel =>
              refine ⟨m + 1, 2 * b' + t, c' + 1, ys, rfl, by omega, rfl, by go_num, by go_num, by go_num, rfl, ?_⟩
              rw [bitRun, BR.out, bitStep, if_neg h6, ← K.out, ← Q.out, ← T.out]
        · obtain rfl : m = 8 := by omega
          have hbe := bitRun_enc (s := (b, c, xs)) (g := g) i1 hev I2.out hg
          rw [hbr] at hbe
          have BE := Lib.hid hbe
          clear hbe hbr hbi
          go_wp2_with fail
          go_roundg (n - (j + 1))
          case measure => omega
          case rel =>
            refine ⟨j + 1, b', c', ys, rfl, by omega, rfl, by go_num, rfl, rfl, rfl, ?_⟩
            rw [List.take_succ_eq_append_getElem hjl, encSt_snoc, ST.out, ← HG.out, BE.out]
    · obtain rfl : j = n := by omega
      rw [List.take_of_length_le (by rw [HN.out]; exact Nat.le_refl _)] at hst
      have EF := Lib.hid (encF_of hst)
      have htl := encTail_len b c xs j (by rw [i3, HN.out, Nat.min_self])
      have I2 := Lib.hid i2
      clear hst i3 HC H2 i2
      go_upto_if 40 with fail
      go_cut [3, 40] (fun o _t wx => o = .string (strN (encTail (b, c, xs))) ∧ w = wx)
      case first =>
        by_cases hc0 : 0 < c
        · go_wp2_with fail
          go_loopg [4, 5] (6 - c) (fun k v h wr => ∃ (q m : Nat), w = wr ∧ c ≤ m ∧ m ≤ 6 ∧ k = 6 - m ∧ q = b * 2 ^ (m - c) ∧ q < 2 ^ m ∧ v = .int .i64 (q : Int) ∧ h = .int .i64 (m : Int))
          case atStart => exact ⟨b, c, rfl, Nat.le_refl _, by omega, rfl, by simp, I2.out, rfl, rfl⟩
          case round =>
            obtain ⟨q, m, rfl, hm1, hm2, rfl, hq, hqm, rfl, rfl⟩ := hrel
            have hq64 : q < 64 := Nat.lt_of_lt_of_le hqm (Nat.pow_le_pow_right (n := 2) (by omega) hm2)
            by_cases hm6 : m < 6
            · have HQ := Lib.hid hq; have QM := Lib.hid hqm
              clear hq hqm
              go_wp2_with fail
              go_roundg (6 - (m + 1))
              case measure => omega
              case rel =>
                refine ⟨2 * q, m + 1, rfl, by omega, by omega, rfl, ?_, ?_, by go_num, by go_num⟩
                · rw [HQ.out, show m + 1 - c = (m - c) + 1 by omega, Nat.pow_succ, Nat.mul_comm 2, Nat.mul_assoc]
                · have := QM.out; rw [Nat.pow_succ]; omega
            · obtain rfl : m = 6 := by omega
              have hex := alphS_ext q hq64
              unfold alphS at hex
              have hsz : (strN xs).size ≤ 2000000 := by rw [strN_size]; omega
              have hsz2 : (strN [al q]).size = 1 := strN_size _
              have HQ := Lib.hid hq
              clear hq hqm
              go_wp2_with fail
              go_meet
              refine ⟨?_, rfl⟩
              rw [encTail, if_pos hc0]
              simp only
              rw [← HQ.out]
              exact congrArg Value.string (strN_append _ _)
        · have hc0' : decide (0 < c) = false := by simp; omega
          go_wp2_with fail
          go_meet
          refine ⟨?_, rfl⟩
          rw [encTail, if_neg hc0]
      case rest =>
        obtain ⟨rfl, rfl⟩ := hcut
        obtain ⟨ts, hts⟩ : ∃ ts, ts = encTail (b, c, xs) := ⟨_, rfl⟩
        rw [← hts] at EF htl ⊢
        clear hts I2
        go_wp2_with fail
        go_loopg [3] ((4 - ts.length % 4) % 4) (fun k o wr => ∃ ys, w = wr ∧ o = .string (strN ys) ∧ ys.length + k ≤ 900000 ∧ k = (4 - ys.length % 4) % 4 ∧ pad4 ys = encF l)
        case atStart => exact ⟨ts, rfl, rfl, by omega, rfl, EF.out⟩
        case round =>
          obtain ⟨ys, rfl, rfl, hyl, rfl, hpad⟩ := hrel
          have HP := Lib.hid hpad
          obtain ⟨m, hm⟩ : ∃ m, m = ys.length := ⟨_, rfl⟩
          have hsz : (strN ys).size = m := by rw [strN_size, hm]
          have HM := Lib.hid hm
          rw [← hm] at hyl
          clear hpad htl hm
          by_cases h4 : m % 4 = 0
          · have h4' : ((m : Int) % 4 != 0) = false := int_nneq (by omega)
            go_wp2_with fail
            go_ret
            exact ⟨by rw [← HP.out, pad4_done _ (by rw [← HM.out]; exact h4)]; rfl, rfl⟩
          · have h4' : ((m : Int) % 4 != 0) = true := int_neq (by omega)
            go_wp2_with fail
            go_roundg ((4 - (m + 1) % 4) % 4)
            case measure => rw [← HM.out]; omega
            case rel =>
              refine ⟨ys ++ [61], rfl, ?_, ?_, ?_, ?_⟩
              · exact congrArg Value.string (strN_append ys [61])
              · simp; rw [← HM.out]; omega
              · simp; rw [← HM.out]
              · rw [pad4_more _ (by rw [← HM.out]; exact h4)]; exact HP.out

end Go.Proofs.YtbgggeobpiaamaaDoor
