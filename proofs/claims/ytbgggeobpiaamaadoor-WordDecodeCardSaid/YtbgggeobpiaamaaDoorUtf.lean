/- The package utf8: how long a character is, and valid texts. -/
import Derived.Test.YtbgggeobpiaamaaDoorKit
import Derived.Test.YtbgggeobpiaamaaDoorDec
import Derived.Test.YtbgggeobpiaamaaDoorUP
import Derived.Deep.QuietTactic
import Derived.BigQuiet
namespace Go.Proofs.YtbgggeobpiaamaaDoor
open Go.RowKit
set_option linter.unusedVariables false
set_option maxRecDepth 100000

/-- A world that differs by draws alone. -/
def Dr (w w' : World) : Prop := ∃ q, w' = w.drewN q
theorem Dr.refl (w : World) : Dr w w := ⟨0, rfl⟩
theorem drewN_drewN (w : World) (a b : Nat) : (w.drewN a).drewN b = w.drewN (a + b) := by simp [World.drewN, Nat.add_assoc]
theorem Dr.drewN {w w' : World} (h : Dr w w') (q : Nat) : Dr w (w'.drewN q) := by
  obtain ⟨p, rfl⟩ := h; exact ⟨p + q, drewN_drewN _ _ _⟩
theorem Dr.trans {a b c : World} (h : Dr a b) (h' : Dr b c) : Dr a c := by obtain ⟨q, rfl⟩ := h'; exact h.drewN q

theorem ulen_any (w : World) (c : Nat) (hc : c < 256) : Calls Tryd.prog 101 #[.int .u8 (c : Int)] w fun e w' => e = .returned (.int .i64 (uLen c : Int)) ∧ w = w' := by
  have hk : c ≤ 127 ∨ (127 < c ∧ c < 194) ∨ (194 ≤ c ∧ c ≤ 223) ∨ (224 ≤ c ∧ c ≤ 239) ∨ (240 ≤ c ∧ c ≤ 244) ∨ 244 < c := by omega
  have e0 : uLen c = if c ≤ 127 then 1 else if c < 194 then 0 else if c ≤ 223 then 2 else if c ≤ 239 then 3 else if c ≤ 244 then 4 else 0 := rfl
  have E0 := Lib.hid e0
  clear e0
  rcases hk with h | ⟨h, h2⟩ | ⟨h, h2⟩ | ⟨h, h2⟩ | ⟨h, h2⟩ | h
  all_goals
    go_enter Tryd.func101, Tryd.ntmps101
    go_wp2_with fail
    go_ret
    refine ⟨?_, rfl⟩
    rw [E0.out]
    first
      | rw [if_pos (by omega)]; rfl
      | rw [if_neg (by omega), if_pos (by omega)]; rfl
      | rw [if_neg (by omega), if_neg (by omega), if_pos (by omega)]; rfl
      | rw [if_neg (by omega), if_neg (by omega), if_neg (by omega), if_pos (by omega)]; rfl
      | rw [if_neg (by omega), if_neg (by omega), if_neg (by omega), if_neg (by omega), if_pos (by omega)]; rfl
      | rw [if_neg (by omega), if_neg (by omega), if_neg (by omega), if_neg (by omega), if_neg (by omega)]; rfl

theorem uCont_val {f i c lo hi : Nat} (h1 : (if i = 1 ∧ f = 224 then 160 else if i = 1 ∧ f = 240 then 144 else 128) = lo) (h2 : (if i = 1 ∧ f = 237 then 159 else if i = 1 ∧ f = 244 then 143 else 191) = hi) {b : Bool} (hb : b = (decide (lo ≤ c) && decide (c ≤ hi))) : uCont f i c = b := by
  unfold uCont; rw [h1, h2, hb]

theorem ret_bool {a b : Bool} (h : a = b) : Ending.returned (.bool a) = .returned (.bool b) := by rw [h]
set_option maxHeartbeats 1000000 in
theorem ucont_any (w : World) (f i c : Nat) (hf : f < 256) (hi : i < 5) (hc : c < 256) : Calls Tryd.prog 102 #[.int .u8 (f : Int), .int .i64 (i : Int), .int .u8 (c : Int)] w fun e w' => e = .returned (.bool (uCont f i c)) ∧ w = w' := by
  obtain ⟨b, hb⟩ : ∃ b, b = uCont f i c := ⟨_, rfl⟩
  rw [← hb]
  have HB := Lib.hid hb
  clear hb
  by_cases h1 : i = 1
  · subst h1
    have hk : (f ≠ 224 ∧ f ≠ 237 ∧ f ≠ 240 ∧ f ≠ 244) ∨ f = 224 ∨ f = 237 ∨ f = 240 ∨ f = 244 := by omega
    rcases hk with ⟨h, h2, h3, h4⟩ | rfl | rfl | rfl | rfl
    · rcases (by omega : c < 128 ∨ (128 ≤ c ∧ c ≤ 191) ∨ 191 < c) with a | ⟨a, a'⟩ | a
      all_goals
        have q0 : ((f : Int) == 224) = false := int_ne (by omega)
        have q1 : ((f : Int) == 237) = false := int_ne (by omega)
        have q2 : ((f : Int) == 240) = false := int_ne (by omega)
        have q3 : ((f : Int) == 244) = false := int_ne (by omega)
        go_enter Tryd.func102, Tryd.ntmps102
        go_wp2_with fail
        go_ret
        refine ⟨?_, rfl⟩
        rw [HB.out, uCont_val (lo := 128) (hi := 191) (by rw [if_neg (fun h' => h h'.2), if_neg (fun h' => h3 h'.2)]) (by rw [if_neg (fun h' => h2 h'.2), if_neg (fun h' => h4 h'.2)]) rfl]
        exact ret_bool (by rw [Bool.eq_iff_iff]; simp only [Bool.and_eq_true, decide_eq_true_eq, false_iff, Bool.false_eq_true]; omega)
    · rcases (by omega : c < 160 ∨ (160 ≤ c ∧ c ≤ 191) ∨ 191 < c) with a | ⟨a, a'⟩ | a
      all_goals
        go_enter Tryd.func102, Tryd.ntmps102
        go_wp2_with fail
        go_ret
        refine ⟨?_, rfl⟩
        rw [HB.out, uCont_val (lo := 160) (hi := 191) (by rfl) (by rfl) rfl]
        exact ret_bool (by rw [Bool.eq_iff_iff]; simp only [Bool.and_eq_true, decide_eq_true_eq, false_iff, Bool.false_eq_true]; omega)
    · rcases (by omega : c < 128 ∨ (128 ≤ c ∧ c ≤ 159) ∨ 159 < c) with a | ⟨a, a'⟩ | a
      all_goals
        go_enter Tryd.func102, Tryd.ntmps102
        go_wp2_with fail
        go_ret
        refine ⟨?_, rfl⟩
        rw [HB.out, uCont_val (lo := 128) (hi := 159) (by rfl) (by rfl) rfl]
        exact ret_bool (by rw [Bool.eq_iff_iff]; simp only [Bool.and_eq_true, decide_eq_true_eq, false_iff, Bool.false_eq_true]; omega)
    · rcases (by omega : c < 144 ∨ (144 ≤ c ∧ c ≤ 191) ∨ 191 < c) with a | ⟨a, a'⟩ | a
      all_goals
        go_enter Tryd.func102, Tryd.ntmps102
        go_wp2_with fail
        go_ret
        refine ⟨?_, rfl⟩
        rw [HB.out, uCont_val (lo := 144) (hi := 191) (by rfl) (by rfl) rfl]
        exact ret_bool (by rw [Bool.eq_iff_iff]; simp only [Bool.and_eq_true, decide_eq_true_eq, false_iff, Bool.false_eq_true]; omega)
    · rcases (by omega : c < 128 ∨ (128 ≤ c ∧ c ≤ 143) ∨ 143 < c) with a | ⟨a, a'⟩ | a
      all_goals
        go_enter Tryd.func102, Tryd.ntmps102
        go_wp2_with fail
        go_ret
        refine ⟨?_, rfl⟩
        rw [HB.out, uCont_val (lo := 128) (hi := 143) (by rfl) (by rfl) rfl]
        exact ret_bool (by rw [Bool.eq_iff_iff]; simp only [Bool.and_eq_true, decide_eq_true_eq, false_iff, Bool.false_eq_true]; omega)
  · rcases (by omega : c < 128 ∨ (128 ≤ c ∧ c ≤ 191) ∨ 191 < c) with a | ⟨a, a'⟩ | a
    all_goals
      have q0 : ((i : Int) == 1) = false := int_ne (by omega)
      go_enter Tryd.func102, Tryd.ntmps102
      go_wp2_with fail
      go_ret
      refine ⟨?_, rfl⟩
      rw [HB.out, uCont_val (lo := 128) (hi := 191) (by rw [if_neg (fun h' => h1 h'.1), if_neg (fun h' => h1 h'.1)]) (by rw [if_neg (fun h' => h1 h'.1), if_neg (fun h' => h1 h'.1)]) rfl]
      exact ret_bool (by rw [Bool.eq_iff_iff]; simp only [Bool.and_eq_true, decide_eq_true_eq, false_iff, Bool.false_eq_true]; omega)

/-- What measure returns. -/
def MeasPost (l : List Nat) (w : World) (e : Ending) (w' : World) : Prop :=
  ∃ n : Nat, e = .returned (.tuple #[.int .i64 (n : Int), .bool (wholeB l)]) ∧ n ≤ l.length ∧ n ≤ 4 ∧ (wholeB l = true → n = rn l) ∧ Dr w w'

theorem idx0 (s : ByteArray) (c : Nat) (hc : c = (bs s).getD 0 0) (h : 0 < s.size) (w : World) : (Instr.index 9 (.string s) (.int .i64 0)).run Tryd.prog w = .ok (.int .u8 (c : Int)) w := by
  rw [idx_str 9 Tryd.underlying9 s .i64 0 0 rfl h, hc]
theorem bs_lt' (s : ByteArray) (i : Nat) : (bs s).getD i 0 < 256 := by
  by_cases h : i < (bs s).length
  · have := bs_lt s (bs s)[i] (List.getElem_mem h)
    simpa [List.getD, h] using this
  · simp [List.getD, h]
theorem bs_emp {s : ByteArray} (h : s.size = 0) : bs s = [] := List.length_eq_zero_iff.1 (by rw [bs_length]; exact h)
theorem str_emp {s : ByteArray} (h : s.size = 0) : s = ⟨#[]⟩ := by
  rw [← strN_bs s, bs_emp h]; rfl
theorem str_ne {s : ByteArray} (h : s.size ≠ 0) : s.toList.isEmpty = false := by
  rw [List.isEmpty_eq_false_iff]; intro e; apply h
  rw [← bs_length, bs, ← ByteArray.toList_eq, e]; rfl

set_option maxHeartbeats 1000000 in
theorem measure_any (s : ByteArray) (w : World) (hs : s.size ≤ maxLen) :
    Calls Tryd.prog 86 #[.string s] w (MeasPost (bs s) w) := by
  unfold maxLen at hs
  by_cases h0 : s.size = 0
  · obtain rfl := str_emp h0
    clear h0 hs
    go_enter Tryd.func86, Tryd.ntmps86
    go_wp2_with fail
    go_ret2
    exact ⟨0, rfl, by simp, by omega, (fun h => by cases h), Dr.refl _⟩
  · obtain ⟨f, hf⟩ : ∃ f, f = (bs s).getD 0 0 := ⟨_, rfl⟩
    have hf2 : f < 256 := by rw [hf]; exact bs_lt' s 0
    have x0 := idx0 s f hf (by omega)
    have n0 := str_ne h0
    obtain ⟨z, hz⟩ : ∃ z, z = uLen f := ⟨_, rfl⟩
    have hz4 : z ≤ 4 := by rw [hz]; exact uLen_le f
    have L0 : Hid (∀ w, Calls Tryd.prog 101 #[.int .u8 (f : Int)] w fun e w' => e = .returned (.int .i64 (z : Int)) ∧ w = w') := fun w => by rw [hz]; exact ulen_any w f hf2
    have HF := Lib.hid hf; have HZ := Lib.hid hz
    clear hf hz
    by_cases hz0 : z = 0
    · have z1 : ((z : Int) == 0) = true := int_eq (by omega)
      go_enter Tryd.func86, Tryd.ntmps86
      go_wp2_with (go_at_call 101; refine (L0.out _).mono ?_; rintro e w' ⟨rfl, rfl⟩)
      go_ret2
      have hw : wholeB (bs s) = false := whole_no _ (by rw [← HF.out, ← HZ.out]; exact fun h => h.1 hz0)
      exact ⟨0, by rw [hw]; rfl, by simp, by omega, (fun h => by rw [hw] at h; cases h), Dr.refl _⟩
    · have z1 : ((z : Int) == 0) = false := int_ne (by omega)
      go_enter Tryd.func86, Tryd.ntmps86
      go_wp2_with (go_at_call 101; refine (L0.out _).mono ?_; rintro e w' ⟨rfl, rfl⟩)
      go_loopg [2] 3 (fun k i wr => ∃ n : Nat, 1 ≤ n ∧ n ≤ z ∧ n ≤ s.size ∧ k = 4 - n ∧ i = .int .i64 (n : Int) ∧ Hid (∀ j, 1 ≤ j → j < n → uCont f j ((bs s).getD j 0) = true) ∧ Dr w wr)
      case atStart => exact ⟨1, by omega, by omega, by omega, rfl, rfl, (fun j a b => by omega), Dr.refl _⟩
      case round =>
        obtain ⟨n, h1, h2, h3, rfl, rfl, hc, hd⟩ := hrel
        have exit : ∀ (b : Bool) (w' : World), Dr w w' → b = ((n : Int) == (z : Int)) → (n = z ∨ (n < z ∧ (s.size ≤ n ∨ uCont f n ((bs s).getD n 0) = false))) → MeasPost (bs s) w (.returned (.tuple #[.int .i64 (n : Int), .bool b])) w' := by
          intro b w' hd' hb hex
          rcases hex with rfl | ⟨hlt, hno⟩
          · have hw : wholeB (bs s) = true := (whole_iff _).2 (by rw [← HF.out, ← HZ.out]; exact ⟨hz0, by rw [bs_length]; exact h3, hc.out⟩)
            exact ⟨n, by rw [hb, hw]; simp, by rw [bs_length]; exact h3, by omega, (fun _ => by rw [(rn_pos hw).1, ← HF.out, ← HZ.out]), hd'⟩
          · have hw : wholeB (bs s) = false := whole_no _ (by
              rw [← HF.out, ← HZ.out, bs_length]; rintro ⟨_, k2, k3⟩
              rcases hno with h | h
              · omega
              · rw [k3 n h1 hlt] at h; cases h)
            exact ⟨n, by rw [hb, hw, int_ne (by omega)], by rw [bs_length]; exact h3, by omega, (fun h => by rw [hw] at h; cases h), hd'⟩
        have EX := Lib.hid exit; have HD := Lib.hid hd
        clear exit hd
        by_cases a : n < z
        · have a1 : decide ((n : Int) < (z : Int)) = true := by simpa using a
          have z3 : ((n : Int) == (z : Int)) = false := int_ne (by omega)
          by_cases b : n < s.size
          · have b1 : decide ((n : Int) < (s.size : Int)) = true := by simpa using b
            obtain ⟨c, hcc⟩ : ∃ c, c = (bs s).getD n 0 := ⟨_, rfl⟩
            have hc2 : c < 256 := by rw [hcc]; exact bs_lt' s n
            have xn : ∀ w, (Instr.index 9 (.string s) (.int .i64 (n : Int))).run Tryd.prog w = .ok (.int .u8 (c : Int)) w := fun w => by rw [idx_str 9 Tryd.underlying9 s .i64 n n rfl b, hcc]
            by_cases u : uCont f n c = true
            · have CC : Hid (∀ q, Calls Tryd.prog 102 #[.int .u8 (f : Int), .int .i64 (n : Int), .int .u8 (c : Int)] (wr.drewN q) fun e w' => e = .returned (.bool true) ∧ w' = wr.drewN q) := fun q => (ucont_any _ f n c hf2 (by omega) hc2).mono fun e w' h => ⟨by rw [← u]; exact h.1, h.2.symm⟩
              have U := Lib.hid u; have HCC := Lib.hid hcc
              clear u hcc
              go_wp2_with fail
              go_quiet ((go_at_call 102; exact Calls.quiet_of_same (CC.out _)))
              go_wp2_with fail
              go_roundg (4 - (n + 1))
              case measure => omega
              case rel => exact ⟨n + 1, by omega, by omega, by omega, rfl, by go_num, (fun j k1 k2 => by
                by_cases e : j = n
                · rw [e, ← HCC.out]; exact U.out
                · exact hc.out j k1 (by omega)), HD.out.drewN _⟩
            · have u' : uCont f n c = false := by simpa using u
              have CC : Hid (∀ q, Calls Tryd.prog 102 #[.int .u8 (f : Int), .int .i64 (n : Int), .int .u8 (c : Int)] (wr.drewN q) fun e w' => e = .returned (.bool false) ∧ w' = wr.drewN q) := fun q => (ucont_any _ f n c hf2 (by omega) hc2).mono fun e w' h => ⟨by rw [← u']; exact h.1, h.2.symm⟩
              have U := Lib.hid u'; have HCC := Lib.hid hcc
              clear u u' hcc
              go_wp2_with fail
              go_quiet ((go_at_call 102; exact Calls.quiet_of_same (CC.out _)))
              go_wp2_with fail
              go_ret2
              exact EX.out _ _ (HD.out.drewN _) (int_ne (by omega)).symm (.inr ⟨a, .inr (by rw [← HCC.out]; exact U.out)⟩)
          · have b1 : decide ((n : Int) < (s.size : Int)) = false := by simpa using b
            go_wp2_with fail
            go_quiet (fail)
            go_wp2_with fail
            go_ret2
            exact EX.out _ _ (HD.out.drewN _) (int_ne (by omega)).symm (.inr ⟨a, .inl (by omega)⟩)
        · have a1 : decide ((n : Int) < (z : Int)) = false := by simpa using a
          have z3 : ((n : Int) == (z : Int)) = true := int_eq (by omega)
          go_wp2_with fail
          go_quiet (fail)
          go_wp2_with fail
          go_ret2
          exact EX.out _ _ (HD.out.drewN _) (int_eq (by omega)).symm (.inl (by omega))

def SomeI32 (w : World) (e : Ending) (w' : World) : Prop := ∃ r : Int, e = .returned (.int .i32 r) ∧ w = w'
set_option maxHeartbeats 1000000 in
theorem uvalue_any (s : ByteArray) (w : World) (h0 : 0 < s.size) (hs : s.size ≤ 4) :
    Calls Tryd.prog 87 #[.string s] w (SomeI32 w) := by
  obtain ⟨f, hf⟩ : ∃ f, f = (bs s).getD 0 0 := ⟨_, rfl⟩
  have hf2 : f < 256 := by rw [hf]; exact bs_lt' s 0
  have x0 := idx0 s f hf h0
  clear hf
  by_cases h1 : 1 < s.size
  all_goals
    go_enter Tryd.func87, Tryd.ntmps87
    go_wp2_with fail
    go_loopg [3, 4] 3 (fun k r i wr => ∃ (n : Nat) (x : Int), 1 ≤ n ∧ n ≤ s.size ∧ k = 4 - n ∧ i = .int .i64 (n : Int) ∧ r = .int .i32 x ∧ w = wr)
    case atStart => exact ⟨1, _, by omega, by omega, rfl, rfl, rfl, rfl⟩
    case round =>
      obtain ⟨n, x, hn, hn2, rfl, rfl, rfl, rfl⟩ := hrel
      by_cases b : n < s.size
      · obtain ⟨c, hcc⟩ : ∃ c, c = (bs s).getD n 0 := ⟨_, rfl⟩
        have hc2 : c < 256 := by rw [hcc]; exact bs_lt' s n
        have xn : ∀ w, (Instr.index 9 (.string s) (.int .i64 (n : Int))).run Tryd.prog w = .ok (.int .u8 (c : Int)) w := fun w => by rw [idx_str 9 Tryd.underlying9 s .i64 n n rfl b, hcc]
        clear hcc
        go_wp2_with fail
        go_roundg (4 - (n + 1))
        case measure => omega
        case rel => exact ⟨n + 1, _, by omega, by omega, rfl, by go_num, rfl, rfl⟩
      · go_wp2_with fail
        go_ret
        exact ⟨_, rfl, rfl⟩

theorem bs_extract (t : ByteArray) (a b : Nat) : bs (t.extract a b) = ((bs t).take b).drop a := by
  unfold bs
  simp [ByteArray.data_extract, Array.toList_extract, List.extract_eq_take_drop, List.drop_take]
theorem bs_from (t : ByteArray) (a : Nat) : bs (t.extract a t.size) = (bs t).drop a := by
  rw [bs_extract, List.take_of_length_le (by rw [bs_length]; exact Nat.le_refl _)]
theorem bs_to (t : ByteArray) (b : Nat) : bs (t.extract 0 b) = (bs t).take b := by
  rw [bs_extract]; simp

/-- What Decode of utf8 returns. -/
def UdPost (l : List Nat) (w : World) (e : Ending) (w' : World) : Prop :=
  ∃ (r : Int) (er : Int), e = .returned (.tuple #[.int .i32 r, .int .i64 (rn l : Int), .int .i64 er]) ∧ (rn l ≠ 0 → er = 0) ∧ (rn l = 0 → er ≠ 0) ∧ Dr w w'

set_option maxHeartbeats 1000000 in
theorem udecode_any (s : ByteArray) (w : World) (hs : s.size ≤ maxLen) :
    Calls Tryd.prog 64 #[.string s] w (UdPost (bs s) w) := by
  have M := Lib.hid (measure_any s w hs)
  unfold maxLen at hs
  by_cases h0 : s.size = 0
  · obtain rfl := str_emp h0
    clear h0 hs M
    go_enter Tryd.func64, Tryd.ntmps64
    go_wp2_with fail
    go_ret3
    exact ⟨0, 1, rfl, (fun h => absurd rfl h), (fun _ => by decide), Dr.refl _⟩
  · have n0 := str_ne h0
    go_enter Tryd.func64, Tryd.ntmps64
    go_wp2_with fail
    refine M.out.mono ?_
    rintro e w1 ⟨n, rfl, hn, hn4, hw, hd⟩
    rw [bs_length] at hn
    cases hb : wholeB (bs s)
    · have hr := rn_zero hb
      have HR := Lib.hid hr
      clear hw hr hb M
      by_cases z : n = 0
      · have z1 : ((n : Int) == 0) = true := int_eq (by omega)
        go_wp2_with fail
        go_ret3
        exact ⟨0, 6, by rw [HR.out]; rfl, (fun h => absurd HR.out h), (fun _ => by decide), hd⟩
      · have z1 : ((n : Int) == 0) = false := int_ne (by omega)
        by_cases y : n = s.size
        · have y1 : ((n : Int) == (s.size : Int)) = true := int_eq (by omega)
          go_wp2_with fail
          go_ret3
          exact ⟨0, 23, by rw [HR.out]; rfl, (fun h => absurd HR.out h), (fun _ => by decide), hd⟩
        · have y1 : ((n : Int) == (s.size : Int)) = false := int_ne (by omega)
          go_wp2_with fail
          go_ret3
          exact ⟨0, 3, by rw [HR.out]; rfl, (fun h => absurd HR.out h), (fun _ => by decide), hd⟩
    · obtain rfl := hw hb
      have hp := (rn_pos hb).2
      obtain ⟨n, hn'⟩ : ∃ n, n = rn (bs s) := ⟨_, rfl⟩
      rw [← hn'] at hn hn4 hp ⊢
      have HN := Lib.hid hn'
      clear hw hb M hn'
      go_wp2_with (go_at_call 87; refine (uvalue_any _ _ (by rw [ByteArray.size_extract]; omega) (by rw [ByteArray.size_extract]; omega)).mono ?_; rintro e w' ⟨r, rfl, rfl⟩)
      go_ret3
      exact ⟨r, 0, by rw [HN.out]; rfl, (fun _ => rfl), (fun h => by rw [HN.out] at hp; omega), hd⟩

def CkPost (l : List Nat) (w : World) (e : Ending) (w' : World) : Prop :=
  ∃ (n : Int) (er : Int), e = .returned (.tuple #[.int .i64 n, .int .i64 er]) ∧ (vld l = true → er = 0) ∧ (vld l = false → er ≠ 0) ∧ Dr w w'

set_option maxHeartbeats 1000000 in
theorem ucheck_any (s : ByteArray) (w : World) (hs : s.size ≤ maxLen) :
    Calls Tryd.prog 77 #[.string s] w (CkPost (bs s) w) := by
  have hs' := hs
  have HS := Lib.hid hs'
  clear hs'
  unfold maxLen at hs
  go_enter Tryd.func77, Tryd.ntmps77
  go_wp2_with fail
  go_loopg [4] s.size (fun k i wr => ∃ n : Nat, n ≤ s.size ∧ k = s.size - n ∧ i = .int .i64 (n : Int) ∧ Hid (vld (bs s) = vld ((bs s).drop n)) ∧ Dr w wr)
  case atStart => exact ⟨0, by omega, rfl, rfl, rfl, Dr.refl _⟩
  case round =>
    obtain ⟨n, hn, rfl, rfl, hv, hd⟩ := hrel
    by_cases b : n < s.size
    · have hsz : (s.extract n s.size).size = s.size - n := by rw [ByteArray.size_extract]; omega
      have D := Lib.hid (udecode_any (s.extract n s.size) wr (by rw [hsz]; unfold maxLen; omega))
      have hl := (rn_le ((bs s).drop n)).1
      rw [List.length_drop, bs_length] at hl
      clear hsz
      go_wp2_with fail
      refine D.out.mono ?_
      rintro e w1 ⟨r, er, rfl, h1, h2, hd1⟩
      rw [bs_from] at h1 h2 ⊢
      obtain ⟨m, hm⟩ : ∃ m, m = rn ((bs s).drop n) := ⟨_, rfl⟩
      rw [← hm] at hl h1 h2 ⊢
      have hne : (bs s).drop n ≠ [] := by intro e; have := congrArg List.length e; rw [List.length_drop, bs_length] at this; simp at this; omega
      have hst := vld_step hne
      rw [← hm, List.drop_drop] at hst
      by_cases z : m = 0
      · have q := h2 z
        have q1 : (er != 0) = true := int_neq q
        have ST := Lib.hid hst; have H2 := Lib.hid h2; have H1 := Lib.hid h1
        clear hst hm h1 h2 hne D
        go_wp2_with fail
        go_ret2
        exact ⟨_, _, rfl, (fun h => by rw [hv.out, ST.out, z] at h; simp at h), (fun _ => q), hd.trans hd1⟩
      · obtain rfl := h1 z
        have ST := Lib.hid hst
        clear hst hm h1 h2 hne D
        go_wp2_with fail
        go_roundg (s.size - (n + m))
        case measure => omega
        case rel => exact ⟨n + m, by omega, rfl, by go_num, Lib.hid (by rw [hv.out, ST.out]; simp [z]), hd.trans hd1⟩
    · go_wp2_with fail
      go_ret2
      exact ⟨_, _, rfl, (fun _ => rfl), (fun h => by rw [hv.out, List.drop_of_length_le (by rw [bs_length]; omega)] at h; cases h), hd⟩

theorem uvalid_any (s : ByteArray) (w : World) (hs : s.size ≤ maxLen) :
    Calls Tryd.prog 50 #[.string s] w fun e w' => e = .returned (.bool (vld (bs s))) ∧ Dr w w' := by
  have C := Lib.hid (ucheck_any s w hs)
  clear hs
  go_enter Tryd.func50, Tryd.ntmps50
  go_wp2_with fail
  refine C.out.mono ?_
  rintro e w1 ⟨n, er, rfl, h1, h2, hd⟩
  cases hv : vld (bs s)
  · have q : (er == 0) = false := int_ne (h2 hv)
    have HV := Lib.hid hv
    clear h1 h2 hv C
    go_wp2_with fail
    go_ret
    exact ⟨by rw [HV.out]; rfl, hd⟩
  · obtain rfl := h1 hv
    have HV := Lib.hid hv
    clear h1 h2 hv C
    go_wp2_with fail
    go_ret
    exact ⟨by rw [HV.out]; rfl, hd⟩

end Go.Proofs.YtbgggeobpiaamaaDoor
