/- Walks of the reference's Value, inPlace and Decode. -/
import Derived.Test.YtohmdledkhgdaaaGreatDoorLo36
import Derived.Test.YtohmdledkhgdaaaGreatDoorLo29
namespace Go.Proofs.YtohmdledkhgdaaaGreatDoor
open Go.RowKit Go.Maps
set_option linter.unusedVariables false
set_option maxRecDepth 100000
def valOf (c : Nat) : Int := match vOf c with | some v => (v : Int) | none => -1
theorem alphS_size : alphS.size = 64 := rfl
theorem alphS_at : ∀ v : Fin 64, (bs alphS).getD v.val 0 = al v.val := by decide +kernel
theorem alphS_idx (j : Nat) (hlt : j < 64) (w : World) : (Instr.index 9 (.string alphS) (.int .i64 (j : Int))).run Tryz.prog w = .ok (.int .u8 ((al j : Nat) : Int)) w := by
  rw [idx_str 9 Tryz.underlying9 alphS .i64 (j : Int) j rfl (by rw [alphS_size]; exact hlt), alphS_at ⟨j, hlt⟩]
theorem rvalue_any (w : World) (c : Nat) (hc : c < 256) :
    Calls Tryz.prog 236 #[.int .u8 (c : Int)] w fun e w' => e = .returned (.int .i64 (valOf c)) ∧ w = w' := by
  go_enter Tryz.func236, Tryz.ntmps236
  go_wp2_with fail
  go_loopg [3] 64 (fun k i wr => ∃ (j : Nat), w = wr ∧ j ≤ 64 ∧ k = 64 - j ∧ i = .int .i64 (j : Int) ∧ ∀ x, x < j → al x ≠ c)
  case atStart => exact ⟨0, rfl, by omega, by omega, rfl, fun x hx => by omega⟩
  case round =>
    obtain ⟨j, rfl, hj, rfl, rfl, hno⟩ := hrel
    have NO := Lib.hid hno
    clear hno
    by_cases hlt : j < 64
    · have hx := fun w => alphS_idx j hlt w
      unfold alphS at hx
      obtain ⟨q, hq⟩ : ∃ q, q = al j := ⟨_, rfl⟩
      have hq256 : q < 256 := by rw [hq]; have := al_lt j; omega
      rw [← hq] at hx
      have HQ := Lib.hid hq
      clear hq
      by_cases he : q = c
      · have he' : ((q : Int) == (c : Int)) = true := int_eq (by omega)
        have HE := Lib.hid he
        clear he
        go_wp2_with fail
        go_ret
        refine ⟨?_, rfl⟩
        unfold valOf
        rw [vOf_some hlt (by rw [← HQ.out]; exact HE.out)]
        rfl
      · have he' : ((q : Int) == (c : Int)) = false := int_ne (by omega)
        go_wp2_with fail
        go_roundg (64 - (j + 1))
        case measure => omega
        case rel =>
          refine ⟨j + 1, rfl, by omega, rfl, by go_num, fun x hx => ?_⟩
          rcases (by omega : x < j ∨ x = j) with h | rfl
          · exact NO.out x h
          · rw [← HQ.out]; exact he
    · obtain rfl : j = 64 := by omega
      go_wp2_with fail
      go_ret
      refine ⟨?_, rfl⟩
      unfold valOf
      rw [vOf_none NO.out]
      rfl
theorem rinplace_any (w : World) (s : ByteArray) (i : Nat) (hi : i < s.size) (hs : s.size ≤ 1000000) :
    Calls Tryz.prog 237 #[.string s, .int .i64 (i : Int)] w fun e w' => e = .returned (.bool (decide (dataF (bs s) ≤ i))) ∧ w = w' := by
  have hiff := inPlace_iff (bs s) i (by rw [bs_length]; exact hi)
  rw [bs_length] at hiff
  obtain ⟨c0, hc0⟩ : ∃ c, c = (bs s).getD i 0 := ⟨_, rfl⟩
  obtain ⟨c1, hc1⟩ : ∃ c, c = (bs s).getD (s.size - 1) 0 := ⟨_, rfl⟩
  have hx0 : ∀ w, (Instr.index 9 (.string s) (.int .i64 (i : Int))).run Tryz.prog w = .ok (.int .u8 (c0 : Int)) w := fun w => by
    rw [idx_str 9 Tryz.underlying9 s .i64 (i : Int) i rfl hi, hc0]
  have hx1 : ∀ w, (Instr.index 9 (.string s) (.int .i64 ((s.size : Int) - 1))).run Tryz.prog w = .ok (.int .u8 (c1 : Int)) w := fun w => by
    rw [idx_str 9 Tryz.underlying9 s .i64 ((s.size : Int) - 1) (s.size - 1) (by omega) (by omega), hc1]
  rw [← hc0, ← hc1] at hiff
  clear hc0 hc1
  by_cases h4 : s.size % 4 = 0
  · have h4' : ((s.size : Int) % 4 != 0) = false := int_nneq (by omega)
    by_cases h0 : c0 = 61
    · have h0' : ((c0 : Int) != 61) = false := int_nneq (by omega)
      by_cases h1 : i = s.size - 1
      · have hr : decide (dataF (bs s) ≤ i) = true := by rw [decide_eq_true_eq, hiff]; exact ⟨h4, h0, .inl h1⟩
        rw [hr]
        have h1' : ((i : Int) == (s.size : Int) - 1) = true := int_eq (by omega)
        clear hiff hr h0 h1
        go_enter Tryz.func237, Tryz.ntmps237
        go_wp2_with fail
        go_ret
        exact ⟨rfl, rfl⟩
      · have h1' : ((i : Int) == (s.size : Int) - 1) = false := int_ne (by omega)
        by_cases h2 : i = s.size - 2
        · have h2' : ((i : Int) == (s.size : Int) - 2) = true := int_eq (by omega)
          by_cases h3 : c1 = 61
          · have h3' : ((c1 : Int) == 61) = true := int_eq (by omega)
            have hr : decide (dataF (bs s) ≤ i) = true := by rw [decide_eq_true_eq, hiff]; exact ⟨h4, h0, .inr ⟨h2, h3⟩⟩
            rw [hr]
            clear hiff hr h0 h1 h2 h3
            go_enter Tryz.func237, Tryz.ntmps237
            go_wp2_with fail
            go_ret
            exact ⟨rfl, rfl⟩
          · have h3' : ((c1 : Int) == 61) = false := int_ne (by omega)
            have hr : decide (dataF (bs s) ≤ i) = false := by rw [decide_eq_false_iff_not, hiff]; rintro ⟨_, _, h | ⟨_, h⟩⟩; exact h1 h; exact h3 h
            rw [hr]
            clear hiff hr h0 h1 h2 h3
            go_enter Tryz.func237, Tryz.ntmps237
            go_wp2_with fail
            go_ret
            exact ⟨rfl, rfl⟩
        · have h2' : ((i : Int) == (s.size : Int) - 2) = false := int_ne (by omega)
          have hr : decide (dataF (bs s) ≤ i) = false := by rw [decide_eq_false_iff_not, hiff]; rintro ⟨_, _, h | ⟨h, _⟩⟩; exact h1 h; exact h2 h
          rw [hr]
          clear hiff hr h0 h1 h2
          go_enter Tryz.func237, Tryz.ntmps237
          go_wp2_with fail
          go_ret
          exact ⟨rfl, rfl⟩
    · have h0' : ((c0 : Int) != 61) = true := int_neq (by omega)
      have hr : decide (dataF (bs s) ≤ i) = false := by rw [decide_eq_false_iff_not, hiff]; rintro ⟨_, h, _⟩; exact h0 h
      rw [hr]
      clear hiff hr h0
      go_enter Tryz.func237, Tryz.ntmps237
      go_wp2_with fail
      go_ret
      exact ⟨rfl, rfl⟩
  · have h4' : ((s.size : Int) % 4 != 0) = true := int_neq (by omega)
    have hr : decide (dataF (bs s) ≤ i) = false := by rw [decide_eq_false_iff_not, hiff]; rintro ⟨h, _⟩; exact h4 h
    rw [hr]
    clear hiff hr
    go_enter Tryz.func237, Tryz.ntmps237
    go_wp2_with fail
    go_ret
    exact ⟨rfl, rfl⟩
theorem bits_and1_i64 (q : Nat) (h : q < 256) : bits .and .i64 (q : Int) 1 = ((q % 2 : Nat) : Int) := by
  have : ∀ q : Fin 256, bits .and .i64 ((q.val : Nat) : Int) 1 = ((q.val % 2 : Nat) : Int) := by decide +kernel
  exact this ⟨q, h⟩
/-- The index of the last letter among the first j characters. -/
def lastOf (j : Nat) : Nat := j - 1
theorem valOf_some {c v : Nat} (h : vOf c = some v) : valOf c = (v : Int) := by unfold valOf; rw [h]
theorem valOf_none {c : Nat} (h : vOf c = none) : valOf c = -1 := by unfold valOf; rw [h]
set_option maxHeartbeats 1000000 in
theorem rdecode_short (s : ByteArray) (w : World) (hl : s.size ≤ 174764) :
    Calls Tryz.prog 211 #[.string s] w (DecPost w (decF (bs s))) := by
  obtain ⟨i0, hi0, hz0, hz1, hz2⟩ := info_parts info5
  obtain ⟨n, hn⟩ : ∃ n, n = dataF (bs s) := ⟨_, rfl⟩
  have hns : n ≤ s.size := by rw [hn, ← bs_length]; exact dataF_le _
  have HN := Lib.hid hn
  clear hn
  go_enter Tryz.func211, Tryz.ntmps211
  go_wp2_with fail
  go_loopg [5, 6, 7, 8, 9] s.size (fun k o v h la i wr => ∃ (i' j b c : Nat) (xs vs : List Nat), i' ≤ s.size ∧ j = min i' n ∧ k = s.size - i' ∧ i = .int .i64 (i' : Int) ∧ v = .int .i64 (b : Int) ∧ h = .int .i64 (c : Int) ∧ la = .int .i64 ((lastOf j : Nat) : Int) ∧ vals ((bs s).take j) = some vs ∧ decSt vs = (b, c, xs) ∧ wr.ownsRow w.heap.size 5 1 o xs.length (xs.map U) ∧ Below w.heap.size w wr)
  case atStart => exact ⟨0, 0, 0, 0, [], [], by omega, by omega, by omega, rfl, rfl, rfl, rfl, vals_nil, rfl, World.ownsRow_nil _ _ _ _, Below.refl _ _⟩
  case round =>
    obtain ⟨i', j, b, c, xs, vs, hi', hj, rfl, rfl, rfl, rfl, rfl, hvs, hst, hown, hbl⟩ := hrel
    have hvl := vals_lt hvs
    have hinv := decSt_inv vs hvl.1
    have hev := dec_even vs hvl.1
    rw [hst] at hinv hev
    obtain ⟨v1, v2⟩ := hvl
    obtain ⟨i1, i2, i3⟩ := hinv
    simp only [List.length_take, bs_length] at v2
    simp only at i1 i2 i3 hev
    have hxl : xs.length ≤ 900000 := by omega
    have VS := Lib.hid hvs; have ST := Lib.hid hst; have OW := Lib.hid hown; have BL := Lib.hid hbl; have I2 := Lib.hid i2; have V1 := Lib.hid v1; have HJ := Lib.hid hj; have I3 := Lib.hid i3; have V2 := Lib.hid v2
    obtain ⟨ao, co, rfl⟩ := own_shape hown
    clear hvs hst hown hbl i2 v1 hj i3 v2
    by_cases hlt : i' < s.size
    · have hil : i' < (bs s).length := by rw [bs_length]; exact hlt
      obtain ⟨g, hg'⟩ : ∃ g, g = (bs s)[i'] := ⟨_, rfl⟩
      have hg : g < 256 := by rw [hg']; exact bs_lt s _ (List.getElem_mem hil)
      have hgD : (bs s).getD i' 0 = g := by rw [hg', List.getD_eq_getElem?_getD, List.getElem?_eq_getElem hil, Option.getD_some]
      have hx : ∀ w, (Instr.index 9 (.string s) (.int .i64 (i' : Int))).run Tryz.prog w = .ok (.int .u8 (g : Int)) w := fun w => by
        rw [idx_str 9 Tryz.underlying9 s .i64 (i' : Int) i' rfl hlt, hgD]
      have IP := Lib.hid (rinplace_any wr s i' hlt (by omega))
      have HG := Lib.hid hg'; have GD := Lib.hid hgD
      clear hg' hgD
      cases hv : vOf g with
      | none =>
        have hval := valOf_none hv
        have HV := Lib.hid hv
        clear hv
        by_cases hp : n ≤ i'
        · have hp' : decide (dataF (bs s) ≤ i') = true := by rw [← HN.out]; simpa using hp
          rw [hp'] at IP
          go_wp2_with (first | (go_at_call 236; refine (rvalue_any _ _ hg).mono ?_; rintro e w' ⟨rfl, rfl⟩; rw [hval]) | (go_at_call 237; refine IP.out.mono ?_; rintro e w' ⟨rfl, rfl⟩))
          go_roundg (s.size - (i' + 1))
          case measure => omega
          case rel => exact ⟨i' + 1, j, b, c, xs, vs, by omega, by have := HJ.out; omega, rfl, by go_num, rfl, rfl, rfl, VS.out, ST.out, OW.out, BL.out⟩
        · have hp' : decide (dataF (bs s) ≤ i') = false := by rw [← HN.out]; simpa using hp
          rw [hp'] at IP
          go_wp2_with (first | (go_at_call 236; refine (rvalue_any _ _ hg).mono ?_; rintro e w' ⟨rfl, rfl⟩; rw [hval]) | (go_at_call 237; refine IP.out.mono ?_; rintro e w' ⟨rfl, rfl⟩))
          go_ret3
          have hji : j = i' := by have := HJ.out; omega
          subst hji
          have hd := decF_bad VS.out (by rw [← HN.out]; omega) hil (by rw [← HG.out]; exact HV.out) (by rw [bs_length]; omega)
          rw [hd]
          exact ⟨_, rfl, World.ownsRow_nil _ _ _ _, BL.out⟩
      | some v =>
        have hv64 := vOf_lt hv
        have hval := valOf_some hv
        have hp : i' < n := by
          rcases Nat.lt_or_ge i' n with h | h
          · exact h
          · have := dataF_char (bs s) i' hil (by rw [← HN.out]; exact h)
            rw [GD.out, hv] at this
            cases this
        have HV := Lib.hid hv
        clear hv
        have hji : j = i' := by have := HJ.out; omega
        subst hji
        go_wp2_with (first | (go_at_call 236; refine (rvalue_any _ _ hg).mono ?_; rintro e w' ⟨rfl, rfl⟩; rw [hval]))
        go_loopg [5, 6, 7, 11] 6 (fun k o v' h i wr => ∃ (m b' c' : Nat) (ys : List Nat), m ≤ 6 ∧ k = 6 - m ∧ i = .int .i64 (5 - (m : Int)) ∧ v' = .int .i64 (b' : Int) ∧ h = .int .i64 (c' : Int) ∧ dbitRun (b, c, xs) v m = (b', c', ys) ∧ wr.ownsRow w.heap.size 5 1 o ys.length (ys.map U) ∧ Below w.heap.size w wr)
        case atStart => exact ⟨0, b, c, xs, by omega, by omega, rfl, rfl, rfl, rfl, OW.out, BL.out⟩
        case round =>
          obtain ⟨m, b', c', ys, hm, rfl, rfl, rfl, rfl, hbr, hown, hbl⟩ := hrel
          have hbi := dbitRun_inv (s := (b, c, xs)) (g := v) i1 I2.out m
          rw [hbr] at hbi
          simp only at hbi
          have hyl : ys.length ≤ 900006 := by omega
          obtain ⟨ao', co', rfl⟩ := own_shape hown
          have BL2 := Lib.hid hbl
          have hbs2 : w.heap.size ≤ wr.heap.size := hbl.size
          by_cases hm6 : m < 6
          · obtain ⟨k, hk⟩ : ∃ k, k = 5 - m := ⟨_, rfl⟩
            obtain ⟨q, hq⟩ : ∃ q, q = v / 2 ^ k := ⟨_, rfl⟩
            obtain ⟨t, htt⟩ : ∃ t, t = q % 2 := ⟨_, rfl⟩
            have hq256 : q < 256 := by rw [hq]; exact Nat.lt_of_le_of_lt (Nat.div_le_self _ _) (by omega)
            have ek : (5 : Int) - (m : Int) = (k : Int) := by omega
            have e1 : (v : Int) / 2 ^ k = (q : Int) := by rw [hq]; push_cast; rfl
            have e2 : Go.bits .and .i64 (q : Int) 1 = (t : Int) := by rw [htt]; exact bits_and1_i64 q hq256
            have ht2 : t < 2 := by omega
            have hbb : b' < 256 := Nat.lt_of_lt_of_le hbi.2.1 (by have : 2 ^ c' ≤ 2 ^ 8 := Nat.pow_le_pow_right (by omega) (by omega)
                                                                  omega)
            have BR := Lib.hid hbr; have K := Lib.hid hk; have Q := Lib.hid hq; have T := Lib.hid htt; have BI := Lib.hid hbi
            have hc8 : c' < 8 := hbi.1
            clear hbr hk hq htt hbi hbl
            by_cases h8 : c' + 1 = 8
            · have h8' : ((c' : Int) + 1 == 8) = true := int_eq (by omega)
              have hv0 : 2 * b' + t < 256 := by
                have := BI.out.2.1
                obtain rfl : c' = 7 := by omega
                omega
              obtain ⟨z, hz⟩ : ∃ z, z = 2 * b' + t := ⟨_, rfl⟩
              have ez : 2 * (b' : Int) + (t : Int) = (z : Int) := by omega
              have hz256 : z < 256 := by omega
              have HZ := Lib.hid hz
              clear hz
              go_wp2_with ((at_builtin; refine wpList_append_lies _ rfl _ _ _ rfl w.heap.size 5 i0 _ 1 1 Tryz.underlying62 hi0 hz0 hz1 hz2 rfl (by omega) (.slice ao' ys.length co') ys.length (ys.map U) rfl (hown.alloc _) ⟨wr.heap.size, 0, none⟩ 1 1 [.int .u8 z] rfl rfl (World.news_of_block (cs := #[.int .u8 z]) (t := 5) (fr := (0, 0)) (heap_alloc_new wr _)) (by simp [Value.oneCell']) (by omega) (by unfold maxLen; omega) (by omega) (by simp; omega) (wr.heap.size + 1) (by simp) ?_; intro gg cap2 w1 hown1 hgrow hat hlt2))
              go_roundg (6 - (m + 1))
              case measure => omega
              case rel =>
                refine ⟨m + 1, 0, 0, ys ++ [z], by omega, rfl, by go_num, rfl, rfl, ?_, ?_, ?_⟩
                · rw [dbitRun, BR.out, dbitStep, if_pos h8, ← K.out, ← Q.out, ← T.out, HZ.out]
                · rw [List.length_append, List.map_append]; exact hown1
                · exact (BL2.out.alloc hbs2 _).grown hgrow (by simp; omega) (fun j hj => (hown.lt j hj).1)
            · have h8' : ((c' : Int) + 1 == 8) = false := int_ne (by omega)
              go_wp2_with fail
              go_roundg (6 - (m + 1))
              case measure => omega
              case rel =>
                refine ⟨m + 1, 2 * b' + t, c' + 1, ys, by omega, rfl, by go_num, by go_num, by go_num, ?_, hown, BL2.out⟩
                rw [dbitRun, BR.out, dbitStep, if_neg h8, ← K.out, ← Q.out, ← T.out]
          · obtain rfl : m = 6 := by omega
            have hbe := dbitRun_dec (s := (b, c, xs)) (g := v) i1 hev I2.out hv64
            rw [hbr] at hbe
            have BE := Lib.hid hbe
            clear hbe hbr hbi
            go_wp2_with fail
            go_roundg (s.size - (j + 1))
            case measure => omega
            case rel =>
              refine ⟨j + 1, j + 1, b', c', ys, vs ++ [v], by omega, by omega, rfl, by go_num, rfl, rfl, by simp [lastOf], ?_, ?_, hown, BL2.out⟩
              · rw [List.take_succ_eq_append_getElem hil]
                exact vals_snoc VS.out (by rw [← HG.out]; exact HV.out)
              · rw [decSt_snoc, ST.out, BE.out]
    · have hjn : j = n := by have := HJ.out; omega
      subst hjn
      have hg := decF_good (l := bs s) (by rw [← HN.out]; exact VS.out) (by rw [bs_length]; exact hl)
      rw [ST.out, bs_length, ← HN.out] at hg
      have hbj : Hid (j = 0 → b = 0) := fun h => by
        have h2 := V2.out
        have h3 := I3.out
        have hc0 : c = 0 := by omega
        have := I2.out
        rw [hc0] at this
        simpa using this
      have HG := Lib.hid hg
      clear hg
      by_cases h4 : s.size % 4 = 0
      · have h4' : ((s.size : Int) % 4 != 0) = false := int_nneq (by omega)
        by_cases hb0 : b = 0
        · have hb' : ((b : Int) != 0) = false := int_nneq (by omega)
          go_wp2_with fail
          go_ret3
          rw [HG.out, if_neg (by omega), if_neg (by simpa using hb0)]
          exact ⟨_, rfl, OW.out, BL.out⟩
        · have hb' : ((b : Int) != 0) = true := int_neq (by omega)
          go_wp2_with fail
          go_ret3
          rw [HG.out, if_neg (by omega), if_pos (by simpa using hb0)]
          exact ⟨_, rfl, World.ownsRow_nil _ _ _ _, BL.out⟩
      · have h4' : ((s.size : Int) % 4 != 0) = true := int_neq (by omega)
        go_wp2_with fail
        go_ret3
        rw [HG.out, if_pos h4]
        exact ⟨_, rfl, World.ownsRow_nil _ _ _ _, BL.out⟩
end Go.Proofs.YtohmdledkhgdaaaGreatDoor
/- bulletinref17.moderators, Name, sorts; bulletinref02.Decode of a text; bulletinref08.ParsePublic. -/
namespace Go.Proofs.YtohmdledkhgdaaaGreatDoor
open Go.RowKit
set_option linter.unusedVariables false
set_option maxRecDepth 100000
theorem rmods_any (w : World) (a : Option Addr) (cap : Nat) (ids : List (List Nat)) (h0 : 0 < ids.length) (hn : ids.length ≤ 1000000) (hA : ARow w a ids) (hok : ∀ x ∈ ids, AuOk x) :
    Calls Tryz.prog 170 #[.slice a ids.length cap] w fun e w' => e = .returned (.int .i64 ((if 8 < ids.length then 9 else if incB ids = false then 30 else 0 : Nat) : Int)) ∧ Dr w w' := by
  have C := Lib.hid (rincr_any w a cap ids hn hA hok)
  obtain ⟨n, hn'⟩ : ∃ n, n = ids.length := ⟨_, rfl⟩
  rw [← hn'] at hn C h0 ⊢
  obtain ⟨b, hb⟩ : ∃ b, b = incB ids := ⟨_, rfl⟩
  rw [← hb] at C ⊢
  clear hA hok hn' hb
  have q1 : ((n : Int) == 0) = false := int_ne (by omega)
  by_cases h8 : 8 < n
  · rw [if_pos h8]
    go_enter Tryz.func170, Tryz.ntmps170
    go_wp2_with fail
    go_ret
    exact ⟨rfl, Dr.refl _⟩
  · rw [if_neg h8]
    cases b with
    | true =>
      go_enter Tryz.func170, Tryz.ntmps170
      go_wp2_with fail
      refine C.out.mono ?_
      rintro e w2 ⟨rfl, hd⟩
      have D := Lib.hid hd
      clear hd C
      go_wp2_with fail
      go_ret
      exact ⟨rfl, D.out⟩
    | false =>
      go_enter Tryz.func170, Tryz.ntmps170
      go_wp2_with fail
      refine C.out.mono ?_
      rintro e w2 ⟨rfl, hd⟩
      have D := Lib.hid hd
      clear hd C
      go_wp2_with fail
      go_ret
      exact ⟨rfl, D.out⟩
/-- The first word of a kind. -/
def kindS (k : Nat) : ByteArray := strN (if k = 1 then kCancel else if k = 2 then kApprove else if k = 3 then kDefine else if k = 4 then kRemove else kRekey)
theorem rname17_any (w : World) (k : Nat) (h1 : 1 ≤ k) (h5 : k ≤ 5) : Calls Tryz.prog 131 #[.int .i64 (k : Int)] w fun e w' => e = .returned (.string (kindS k)) ∧ Below w.heap.size w w' := by
  have e1 : kindS 1 = ⟨#[99, 97, 110, 99, 101, 108]⟩ := by decide
  have e2 : kindS 2 = ⟨#[97, 112, 112, 114, 111, 118, 101]⟩ := by decide
  have e3 : kindS 3 = ⟨#[100, 101, 102, 105, 110, 101]⟩ := by decide
  have e4 : kindS 4 = ⟨#[114, 101, 109, 111, 118, 101]⟩ := by decide
  have e5 : kindS 5 = ⟨#[114, 101, 107, 101, 121]⟩ := by decide
  rcases (by omega : k = 1 ∨ k = 2 ∨ k = 3 ∨ k = 4 ∨ k = 5) with rfl | rfl | rfl | rfl | rfl
  all_goals
    first | rw [e1] | rw [e2] | rw [e3] | rw [e4] | rw [e5]
    clear e1 e2 e3 e4 e5
    go_enter Tryz.func131, Tryz.ntmps131
    go_wp2_with fail
    go_ret
    exact ⟨rfl, by first | exact (Below.refl _ _).alloc (Nat.le_refl _) _ | exact (Below.refl _ _).drew.alloc (Nat.le_refl _) _⟩
end Go.Proofs.YtohmdledkhgdaaaGreatDoor
