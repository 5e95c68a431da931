/- Plain: the reference's characters (bulletinref03) are those of UP and TP. -/
import Derived.Test.YtohmdledkhgdaaaGreatDoorLo17
namespace Go.Proofs.YtohmdledkhgdaaaGreatDoor
set_option linter.unusedVariables false
def ldN (c : Nat) : Nat := if c < 128 then 1 else if 192 ≤ c ∧ c < 224 then 2 else if 224 ≤ c ∧ c < 240 then 3 else if 240 ≤ c ∧ c < 248 then 4 else 0
def ldV (c : Nat) : Nat := if c < 128 then c else if 192 ≤ c ∧ c < 224 then c - 192 else if 224 ≤ c ∧ c < 240 then c - 224 else if 240 ≤ c ∧ c < 248 then c - 240 else 0
def bgV (l : List Nat) (k : Nat) : Nat := ((l.take k).drop 1).foldl (fun v x => 64 * v + (x - 128)) (ldV (l.getD 0 0))
def bgC (l : List Nat) (k : Nat) : Bool := ((l.take k).drop 1).all (fun x => decide (128 ≤ x) && decide (x ≤ 191))
def least4 (n : Nat) : Nat := [0, 0, 128, 2048, 65536].getD n 0
def most4 (n : Nat) : Nat := [0, 127, 2047, 65535, 1114111].getD n 0
def bgLo (l : List Nat) : Nat := max (bgV l l.length * 64 ^ (ldN (l.getD 0 0) - l.length)) (least4 (ldN (l.getD 0 0)))
def bgHi (l : List Nat) : Nat := min ((bgV l l.length + 1) * 64 ^ (ldN (l.getD 0 0) - l.length) - 1) (most4 (ldN (l.getD 0 0)))
def bgB (l : List Nat) : Bool :=
  decide (ldN (l.getD 0 0) ≠ 0) && decide (l.length ≤ ldN (l.getD 0 0)) && bgC l l.length && !(decide (55296 ≤ bgLo l) && decide (bgHi l ≤ 57343)) && decide (bgLo l ≤ bgHi l)
theorem bgV_one (l : List Nat) : bgV l 1 = ldV (l.getD 0 0) := by
  cases l <;> simp [bgV]
theorem bgC_one (l : List Nat) : bgC l 1 = true := by
  cases l <;> simp [bgC]
theorem drop1_take_succ (l : List Nat) (n : Nat) (h1 : 1 ≤ n) (h : n < l.length) : (l.take (n + 1)).drop 1 = (l.take n).drop 1 ++ [l.getD n 0] := by
  rw [List.take_succ_eq_append_getElem h, List.drop_append_of_le_length (by rw [List.length_take]; omega)]
  simp [List.getD, h]
theorem bgV_succ (l : List Nat) (n : Nat) (h1 : 1 ≤ n) (h : n < l.length) : bgV l (n + 1) = 64 * bgV l n + (l.getD n 0 - 128) := by
  unfold bgV
  rw [drop1_take_succ l n h1 h, List.foldl_append]
  rfl
theorem bgC_succ (l : List Nat) (n : Nat) (h1 : 1 ≤ n) (h : n < l.length) : bgC l (n + 1) = (bgC l n && (decide (128 ≤ l.getD n 0) && decide (l.getD n 0 ≤ 191))) := by
  unfold bgC
  rw [drop1_take_succ l n h1 h, List.all_append]
  simp
theorem bgC_stop (l : List Nat) (n : Nat) (h1 : 1 ≤ n) (h : n < l.length) (hx : l.getD n 0 < 128 ∨ 191 < l.getD n 0) : bgC l l.length = false := by
  unfold bgC
  rw [List.all_eq_false]
  refine ⟨l.getD n 0, ?_, ?_⟩
  · rw [List.take_length, List.mem_drop_iff_getElem]
    refine ⟨n - 1, by omega, ?_⟩
    simp [List.getD, h, show 1 + (n - 1) = n by omega]
  · simp only [Bool.and_eq_true, decide_eq_true_eq]; omega
theorem uCont_iff (f i c : Nat) : uCont f i c = true ↔ (128 ≤ c ∧ c ≤ 191 ∧ (i = 1 → (f = 224 → 160 ≤ c) ∧ (f = 240 → 144 ≤ c) ∧ (f = 237 → c ≤ 159) ∧ (f = 244 → c ≤ 143))) := by
  unfold uCont
  simp only [Bool.and_eq_true, decide_eq_true_eq]
  by_cases h1 : i = 1
  · subst h1
    simp only [true_and, true_implies]
    (repeat' split) <;> omega
  · rw [if_neg (fun h => h1 h.1), if_neg (fun h => h1 h.1), if_neg (fun h => h1 h.1), if_neg (fun h => h1 h.1)]
    simp only [h1, false_implies, and_true]
theorem bg_one : ∀ c, c < 256 → (bgB [c] = decide (uLen c ≠ 0)) ∧ (uLen c ≠ 0 → ldN c = uLen c) := by decide +kernel
theorem uLen_range {c : Nat} : (uLen c = 1 → c ≤ 127) ∧ (uLen c = 2 → 194 ≤ c ∧ c ≤ 223) ∧ (uLen c = 3 → 224 ≤ c ∧ c ≤ 239) ∧ (uLen c = 4 → 240 ≤ c ∧ c ≤ 244) := by
  unfold uLen
  (repeat' split) <;> omega
theorem bg_full (l : List Nat) (hb : ∀ x ∈ l, x < 256) (h0 : uLen (l.getD 0 0) ≠ 0) (hl : l.length = uLen (l.getD 0 0)) : bgB l = wholeB l ∧ (wholeB l = true → bgV l l.length = cpt l) := by
  have hu := uLen_range (c := l.getD 0 0)
  match l, hb, h0, hl, hu with
  | [], _, _, hl, _ => simp [uLen] at hl
  | [a], hb, h0, hl, hu =>
    simp only [List.getD_cons_zero, List.length_cons, List.length_nil, Nat.zero_add] at *
    have ha := hu.1 hl.symm
    have e1 : ldN a = 1 := by unfold ldN; rw [if_pos (by omega)]
    have e2 : ldV a = a := by unfold ldV; rw [if_pos (by omega)]
    have hw : wholeB [a] = true := by rw [whole_iff]; simp [← hl]; omega
    refine ⟨?_, fun _ => ?_⟩
    · rw [hw]
      simp [bgB, bgLo, bgHi, bgV, bgC, e1, e2, least4, most4]
      omega
    · simp [cpt, bgV, e2, (rn_pos hw).1, ← hl]
  | [a, b], hb, h0, hl, hu =>
    simp only [List.getD_cons_zero, List.length_cons, List.length_nil, Nat.zero_add] at *
    have ha := hu.2.1 hl.symm
    have e1 : ldN a = 2 := by unfold ldN; rw [if_neg (by omega), if_pos (by omega)]
    have e2 : ldV a = a - 192 := by unfold ldV; rw [if_neg (by omega), if_pos (by omega)]
    have hw : wholeB [a, b] = true ↔ 128 ≤ b ∧ b ≤ 191 := by
      rw [whole_iff]
      simp only [List.getD_cons_zero, List.length_cons, List.length_nil, Nat.zero_add, ← hl]
      constructor
      · rintro ⟨_, _, h⟩
        have := h 1 (by omega) (by omega)
        simp [uCont_iff] at this
        omega
      · intro h
        refine ⟨by omega, by omega, fun i h1 h2 => ?_⟩
        obtain rfl : i = 1 := by omega
        simp [uCont_iff]
        omega
    refine ⟨?_, fun h => ?_⟩
    · rw [Bool.eq_iff_iff, hw]
      simp [bgB, bgLo, bgHi, bgV, bgC, e1, e2, least4, most4]
      omega
    · have := hw.1 h
      simp [cpt, bgV, e2, (rn_pos h).1, ← hl]
      omega
  | [a, b, c], hb, h0, hl, hu =>
    simp only [List.getD_cons_zero, List.length_cons, List.length_nil, Nat.zero_add] at *
    have ha := hu.2.2.1 hl.symm
    have e1 : ldN a = 3 := by unfold ldN; rw [if_neg (by omega), if_neg (by omega), if_pos (by omega)]
    have e2 : ldV a = a - 224 := by unfold ldV; rw [if_neg (by omega), if_neg (by omega), if_pos (by omega)]
    have hw : wholeB [a, b, c] = true ↔ 128 ≤ b ∧ b ≤ 191 ∧ 128 ≤ c ∧ c ≤ 191 ∧ (a = 224 → 160 ≤ b) ∧ (a = 237 → b ≤ 159) := by
      rw [whole_iff]
      simp only [List.getD_cons_zero, List.length_cons, List.length_nil, Nat.zero_add, ← hl]
      constructor
      · rintro ⟨_, _, h⟩
        have h1 := h 1 (by omega) (by omega)
        have h2 := h 2 (by omega) (by omega)
        simp [uCont_iff] at h1 h2
        omega
      · intro h
        refine ⟨by omega, by omega, fun i h1 h2 => ?_⟩
        rcases (by omega : i = 1 ∨ i = 2) with rfl | rfl
        · simp [uCont_iff]
          omega
        · simp [uCont_iff]
          omega
    refine ⟨?_, fun h => ?_⟩
    · rw [Bool.eq_iff_iff, hw]
      simp [bgB, bgLo, bgHi, bgV, bgC, e1, e2, least4, most4]
      omega
    · have := hw.1 h
      simp [cpt, bgV, e2, (rn_pos h).1, ← hl]
      omega
  | [a, b, c, d], hb, h0, hl, hu =>
    simp only [List.getD_cons_zero, List.length_cons, List.length_nil, Nat.zero_add] at *
    have ha := hu.2.2.2 hl.symm
    have e1 : ldN a = 4 := by unfold ldN; rw [if_neg (by omega), if_neg (by omega), if_neg (by omega), if_pos (by omega)]
    have e2 : ldV a = a - 240 := by unfold ldV; rw [if_neg (by omega), if_neg (by omega), if_neg (by omega), if_pos (by omega)]
    have hw : wholeB [a, b, c, d] = true ↔ 128 ≤ b ∧ b ≤ 191 ∧ 128 ≤ c ∧ c ≤ 191 ∧ 128 ≤ d ∧ d ≤ 191 ∧ (a = 240 → 144 ≤ b) ∧ (a = 244 → b ≤ 143) := by
      rw [whole_iff]
      simp only [List.getD_cons_zero, List.length_cons, List.length_nil, Nat.zero_add, ← hl]
      constructor
      · rintro ⟨_, _, h⟩
        have h1 := h 1 (by omega) (by omega)
        have h2 := h 2 (by omega) (by omega)
        have h3 := h 3 (by omega) (by omega)
        simp [uCont_iff] at h1 h2 h3
        omega
      · intro h
        refine ⟨by omega, by omega, fun i h1 h2 => ?_⟩
        rcases (by omega : i = 1 ∨ i = 2 ∨ i = 3) with rfl | rfl | rfl
        · simp [uCont_iff]
          omega
        · simp [uCont_iff]
          omega
        · simp [uCont_iff]
          omega
    refine ⟨?_, fun h => ?_⟩
    · rw [Bool.eq_iff_iff, hw]
      simp [bgB, bgLo, bgHi, bgV, bgC, e1, e2, least4, most4]
      omega
    · have := hw.1 h
      simp [cpt, bgV, e2, (rn_pos h).1, ← hl]
      omega
  | a :: b :: c :: d :: e :: l, _, _, hl, _ =>
    have := uLen_le ((a :: b :: c :: d :: e :: l).getD 0 0)
    rw [← hl] at this
    simp at this
/-- What First tells. -/
theorem first_ok (l : List Nat) (hb : ∀ x ∈ l, x < 256) (n : Nat) (hn : n = uLen (l.getD 0 0)) (h0 : n ≠ 0) (hl : n ≤ l.length) :
    bgB (l.take n) = decide (rn l ≠ 0) ∧ (rn l ≠ 0 → bgV (l.take n) n = cpt l ∧ rn l = n) := by
  have hg : ∀ i, i < n → (l.take n).getD i 0 = l.getD i 0 := fun i hi => by simp [List.getD, hi]
  have g0 := hg 0 (by omega)
  have hlen : (l.take n).length = n := by rw [List.length_take]; omega
  have hw : wholeB (l.take n) = wholeB l := by
    rw [Bool.eq_iff_iff, whole_iff, whole_iff, g0, hlen, ← hn]
    constructor
    · rintro ⟨a, b, c⟩
      exact ⟨a, hl, fun i h1 h2 => by rw [← hg i h2]; exact c i h1 h2⟩
    · rintro ⟨a, b, c⟩
      exact ⟨a, Nat.le_refl _, fun i h1 h2 => by rw [hg i h2]; exact c i h1 h2⟩
  obtain ⟨h1, h2⟩ := bg_full (l.take n) (fun x hx => hb x (List.mem_of_mem_take hx)) (by rw [g0]; omega) (by rw [g0, hlen, hn])
  rw [hw] at h1 h2
  refine ⟨?_, fun hr => ?_⟩
  · rw [h1, Bool.eq_iff_iff, decide_eq_true_eq, rn_ne]
  · have hwt := rn_ne.1 hr
    have e1 : rn l = n := by rw [(rn_pos hwt).1, hn]
    have e2 : rn (l.take n) = n := by rw [(rn_pos (hw.trans hwt)).1, g0, hn]
    have h3 := h2 hwt
    rw [hlen] at h3
    refine ⟨h3.trans ?_, e1⟩
    unfold cpt
    rw [e1, e2, g0, List.take_take, Nat.min_self]
theorem rn_short (l : List Nat) (h : l.length < uLen (l.getD 0 0)) : rn l = 0 := rn_zero (whole_no l (fun h' => by omega))
theorem rn_lead0 (l : List Nat) (h : uLen (l.getD 0 0) = 0) : rn l = 0 := rn_zero (whole_no l (fun h' => h'.1 h))
end Go.Proofs.YtohmdledkhgdaaaGreatDoor
/- bulletinref03: lead, least, most, Begins, First, Control. -/
namespace Go.Proofs.YtohmdledkhgdaaaGreatDoor
open Go.RowKit
set_option linter.unusedVariables false
set_option maxRecDepth 100000
theorem lead_any (w : World) (c : Nat) (hc : c < 256) : Calls Tryz.prog 205 #[.int .u8 (c : Int)] w fun e w' => e = .returned (.tuple #[.int .i64 (ldN c : Int), .int .i64 (ldV c : Int)]) ∧ w = w' := by
  have hk : c < 128 ∨ (128 ≤ c ∧ c < 192) ∨ (192 ≤ c ∧ c < 224) ∨ (224 ≤ c ∧ c < 240) ∨ (240 ≤ c ∧ c < 248) ∨ 248 ≤ c := by omega
  have e0 : ldN c = if c < 128 then 1 else if 192 ≤ c ∧ c < 224 then 2 else if 224 ≤ c ∧ c < 240 then 3 else if 240 ≤ c ∧ c < 248 then 4 else 0 := rfl
  have e1 : ldV c = if c < 128 then c else if 192 ≤ c ∧ c < 224 then c - 192 else if 224 ≤ c ∧ c < 240 then c - 224 else if 240 ≤ c ∧ c < 248 then c - 240 else 0 := rfl
  have E0 := Lib.hid e0; have E1 := Lib.hid e1
  clear e0 e1
  rcases hk with h | ⟨h, h2⟩ | ⟨h, h2⟩ | ⟨h, h2⟩ | ⟨h, h2⟩ | h
  all_goals
    go_enter Tryz.func205, Tryz.ntmps205
    go_wp2_with fail
    go_ret2
    refine ⟨?_, rfl⟩
    rw [E0.out, E1.out]
    first
      | rw [if_pos (by omega), if_pos (by omega)]; rfl
      | rw [if_neg (by omega), if_pos (by omega), if_neg (by omega), if_pos (by omega)]; simp; omega
      | rw [if_neg (by omega), if_neg (by omega), if_pos (by omega), if_neg (by omega), if_neg (by omega), if_pos (by omega)]; simp; omega
      | rw [if_neg (by omega), if_neg (by omega), if_neg (by omega), if_pos (by omega), if_neg (by omega), if_neg (by omega), if_neg (by omega), if_pos (by omega)]; simp; omega
      | rw [if_neg (by omega), if_neg (by omega), if_neg (by omega), if_neg (by omega), if_neg (by omega), if_neg (by omega), if_neg (by omega), if_neg (by omega)]; rfl
theorem least_any (w : World) (n : Nat) (hn : n ≤ 4) : Calls Tryz.prog 206 #[.int .i64 (n : Int)] w fun e w' => e = .returned (.int .i64 (least4 n : Int)) ∧ Below w.heap.size w w' := by
  rcases (by omega : n = 0 ∨ n = 1 ∨ n = 2 ∨ n = 3 ∨ n = 4) with rfl | rfl | rfl | rfl | rfl
  all_goals
    go_enter Tryz.func206, Tryz.ntmps206
    go_wp2_with fail
    go_ret
    exact ⟨rfl, (Below.refl _ _).alloc (Nat.le_refl _) _⟩
theorem most_any (w : World) (n : Nat) (hn : n ≤ 4) : Calls Tryz.prog 207 #[.int .i64 (n : Int)] w fun e w' => e = .returned (.int .i64 (most4 n : Int)) ∧ Below w.heap.size w w' := by
  rcases (by omega : n = 0 ∨ n = 1 ∨ n = 2 ∨ n = 3 ∨ n = 4) with rfl | rfl | rfl | rfl | rfl
  all_goals
    go_enter Tryz.func207, Tryz.ntmps207
    go_wp2_with fail
    go_ret
    exact ⟨rfl, (Below.refl _ _).alloc (Nat.le_refl _) _⟩
theorem rctl_any (w : World) (n : Nat) : Calls Tryz.prog 85 #[.int .i64 (n : Int)] w fun e w' => e = .returned (.bool (ctlC n)) ∧ w = w' := by
  obtain ⟨b, hb⟩ : ∃ b, b = ctlC n := ⟨_, rfl⟩
  rw [← hb]
  have HB := Lib.hid hb
  clear hb
  rcases (by omega : n < 32 ∨ (32 ≤ n ∧ n < 127) ∨ (127 ≤ n ∧ n ≤ 159) ∨ (n = 8232) ∨ (n = 8233) ∨ (159 < n ∧ n ≠ 8232 ∧ n ≠ 8233)) with h | ⟨h, h2⟩ | ⟨h, h2⟩ | rfl | rfl | ⟨h, h2, h3⟩
  all_goals
    try have q1 : ((n : Int) == 8232) = false := int_ne (by omega)
    try have q2 : ((n : Int) == 8233) = false := int_ne (by omega)
    go_enter Tryz.func85, Tryz.ntmps85
    go_wp2_with fail
    go_ret
    exact ⟨ret_bool (by rw [HB.out, Bool.eq_iff_iff]; simp [ctlC]; try omega), rfl⟩
theorem idx_q (s : ByteArray) (w : World) (q : Int) (k : Nat) (hq : q = (k : Int)) (hk : k < s.size) (x : Nat) (hx : x = (bs s).getD k 0) :
    (Instr.index 9 (.string s) (.int .i64 q)).run Tryz.prog w = .ok (.int .u8 (x : Int)) w := by
  rw [idx_str 9 Tryz.underlying9 s .i64 q k hq hk, hx]
/-- What Begins returns. -/
def BgPost (l : List Nat) (w : World) (e : Ending) (w' : World) : Prop :=
  ∃ n v : Nat, e = .returned (.tuple #[.bool (bgB l), .int .i64 (n : Int), .int .i64 (v : Int)]) ∧ (bgB l = true → n = ldN (l.getD 0 0) ∧ v = bgV l l.length) ∧ Below w.heap.size w w'
set_option maxHeartbeats 2000000 in
theorem begins_any (s : ByteArray) (w : World) (h0 : 0 < s.size) (h4 : s.size ≤ 4) :
    Calls Tryz.prog 164 #[.string s] w (BgPost (bs s) w) := by
  obtain ⟨c, hc⟩ : ∃ c, c = (bs s).getD 0 0 := ⟨_, rfl⟩
  have hc2 : c < 256 := by rw [hc]; exact bs_lt' s 0
  have x0 := idx0 s c hc h0
  obtain ⟨n, hn⟩ : ∃ n, n = ldN c := ⟨_, rfl⟩
  obtain ⟨v0, hv0⟩ : ∃ v, v = ldV c := ⟨_, rfl⟩
  have hn4 : n ≤ 4 := by rw [hn]; unfold ldN; (repeat' split) <;> omega
  have hv4 : v0 < 128 := by rw [hv0]; unfold ldV; (repeat' split) <;> omega
  have L0 := Lib.hid (lead_any · c hc2)
  rw [← hn, ← hv0] at L0
  obtain ⟨B, hB⟩ : ∃ B, B = bgB (bs s) := ⟨_, rfl⟩
  have HB : Hid (B = (decide (n ≠ 0) && decide (s.size ≤ n) && bgC (bs s) s.size && !(decide (55296 ≤ max (bgV (bs s) s.size * 64 ^ (n - s.size)) (least4 n)) && decide (min ((bgV (bs s) s.size + 1) * 64 ^ (n - s.size) - 1) (most4 n) ≤ 57343)) && decide (max (bgV (bs s) s.size * 64 ^ (n - s.size)) (least4 n) ≤ min ((bgV (bs s) s.size + 1) * 64 ^ (n - s.size) - 1) (most4 n)))) := Lib.hid (by
    rw [hB]; unfold bgB bgLo bgHi; rw [← hc, ← hn, bs_length])
  have FIN : Hid (∀ (b : Bool) (a v : Nat) (w' : World), b = B → (B = true → a = n ∧ v = bgV (bs s) s.size) → Below w.heap.size w w' → BgPost (bs s) w (.returned (.tuple #[.bool b, .int .i64 (a : Int), .int .i64 (v : Int)])) w') := Lib.hid (by
    rintro b a v w' rfl h1 h2
    exact ⟨a, v, by rw [hB], fun h => by rw [← hc, ← hn, bs_length]; exact h1 (hB.trans h), h2⟩)
  have V1 : Hid (bgV (bs s) 1 = v0) := Lib.hid (by rw [bgV_one, ← hc, ← hv0])
  clear hn hv0 hB hc hc2
  by_cases n0 : n = 0
  · have z1 : ((n : Int) == 0) = true := int_eq (by omega)
    go_enter Tryz.func164, Tryz.ntmps164
    go_wp2_with (go_at_call 205; refine (L0.out _).mono ?_; rintro e w' ⟨rfl, rfl⟩)
    go_ret3
    exact FIN.out false 0 0 _ (by rw [HB.out]; simp [n0]) (fun h => by rw [HB.out] at h; simp [n0] at h) (Below.refl _ _)
  have z1 : ((n : Int) == 0) = false := int_ne (by omega)
  by_cases hgt : n < s.size
  · go_enter Tryz.func164, Tryz.ntmps164
    go_wp2_with (go_at_call 205; refine (L0.out _).mono ?_; rintro e w' ⟨rfl, rfl⟩)
    go_ret3
    have e1 : decide (s.size ≤ n) = false := by simp; omega
    exact FIN.out false 0 0 _ (by rw [HB.out, e1]; simp) (fun h => by rw [HB.out, e1] at h; simp at h) (Below.refl _ _)
  go_enter Tryz.func164, Tryz.ntmps164
  go_wp2_with (go_at_call 205; refine (L0.out _).mono ?_; rintro e w' ⟨rfl, rfl⟩)
  go_loopg [6, 7] s.size (fun k v i wr => ∃ j vv : Nat, 1 ≤ j ∧ j ≤ s.size ∧ k = s.size + 1 - j ∧ i = .int .i64 (j : Int) ∧ v = .int .i64 (vv : Int) ∧ Hid (vv = bgV (bs s) j) ∧ Hid (bgC (bs s) j = true) ∧ ((j = 1 ∧ vv < 128) ∨ (j = 2 ∧ vv < 8192) ∨ (j = 3 ∧ vv < 524288) ∨ (j = 4 ∧ vv < 33554432)) ∧ Hid (Dr w wr))
  case atStart => exact ⟨1, v0, by omega, by omega, by omega, rfl, rfl, Lib.hid V1.out.symm, Lib.hid (bgC_one _), by omega, Lib.hid (Dr.refl _)⟩
  case round =>
    obtain ⟨j, vv, j1, j2, rfl, rfl, rfl, hv, hcc, hd, hdr⟩ := hrel
    have vlt : vv < 33554432 := by omega
    by_cases hlt : j < s.size
    · obtain ⟨x, hx⟩ : ∃ x, x = (bs s).getD j 0 := ⟨_, rfl⟩
      have hx2 : x < 256 := by rw [hx]; exact bs_lt' s j
      have y1 := fun w => idx_q s w j j rfl hlt x hx
      have HX := Lib.hid hx
      clear hx
      by_cases hlo : x < 128
      · go_wp2_with fail
        go_ret3
        have e1 := bgC_stop (bs s) j j1 (by rw [bs_length]; exact hlt) (by rw [← HX.out]; omega)
        rw [bs_length] at e1
        exact FIN.out false 0 0 _ (by rw [HB.out, e1]; simp) (fun h => by rw [HB.out, e1] at h; simp at h) (Dr.below (by (first | exact hdr.out | exact hdr.out.drewN _)))
      by_cases hhi : 191 < x
      · go_wp2_with fail
        go_ret3
        have e1 := bgC_stop (bs s) j j1 (by rw [bs_length]; exact hlt) (by rw [← HX.out]; omega)
        rw [bs_length] at e1
        exact FIN.out false 0 0 _ (by rw [HB.out, e1]; simp) (fun h => by rw [HB.out, e1] at h; simp at h) (Dr.below (by (first | exact hdr.out | exact hdr.out.drewN _)))
      go_wp2_with fail
      go_roundg (s.size + 1 - (j + 1))
      case measure => omega
      case rel => exact ⟨j + 1, 64 * vv + (x - 128), by omega, by omega, rfl, by go_num, by go_num, Lib.hid (by rw [bgV_succ _ _ j1 (by rw [bs_length]; exact hlt), ← HX.out, hv.out]), Lib.hid (by rw [bgC_succ _ _ j1 (by rw [bs_length]; exact hlt), ← HX.out, hcc.out]; simp; omega), by omega, (by (first | exact hdr | exact Lib.hid (hdr.out.drewN _)))⟩
    · obtain rfl : j = s.size := by omega
      have d0 : (vv < 128 * 64 ^ 3) := by omega
      clear d0
      go_wp2_with fail
      go_loopg [8, 9, 10] n (fun k lo hi i wr => ∃ q a b : Nat, q + s.size ≤ n ∧ k = n - q ∧ i = .int .i64 ((s.size + q : Nat) : Int) ∧ lo = .int .i64 (a : Int) ∧ hi = .int .i64 (b : Int) ∧ Hid (a = vv * 64 ^ q) ∧ Hid (b + 1 = (vv + 1) * 64 ^ q) ∧ ((q = 0 ∧ b < 33554432) ∨ (q = 1 ∧ b < 2147483648) ∨ (q = 2 ∧ b < 137438953472) ∨ (q = 3 ∧ b < 8796093022208)) ∧ a ≤ b ∧ Hid (Dr w wr))
      case atStart => exact ⟨0, vv, vv, by omega, by omega, by go_num, rfl, rfl, Lib.hid (by simp), Lib.hid (by simp), by omega, by omega, (by (first | exact hdr | exact Lib.hid (hdr.out.drewN _)))⟩
      case round =>
        obtain ⟨q, a, b, hq, rfl, rfl, rfl, rfl, ha, hb, hbd, hab, hdr2⟩ := hrel
        have blt : b < 8796093022208 := by omega
        by_cases hql : q + s.size < n
        · go_wp2_with fail
          go_roundg (n - (q + 1))
          case measure => omega
          case rel => exact ⟨q + 1, 64 * a, 64 * b + 63, by omega, rfl, by go_num, by go_num, by go_num, Lib.hid (by rw [ha.out, Nat.pow_succ, Nat.mul_comm 64 (vv * 64 ^ q), Nat.mul_assoc]), Lib.hid (by rw [Nat.pow_succ, ← Nat.mul_assoc, ← hb.out]; omega), by omega, by omega, (by (first | exact hdr2 | exact Lib.hid (hdr2.out.drewN _)))⟩
        · have hqe : q = n - s.size := by omega
          have LE := Lib.hid (least_any · n hn4)
          have MO := Lib.hid (most_any · n hn4)
          obtain ⟨lo4, hlo4⟩ : ∃ x, x = least4 n := ⟨_, rfl⟩
          obtain ⟨hi4, hhi4⟩ : ∃ x, x = most4 n := ⟨_, rfl⟩
          rw [← hlo4] at LE HB
          rw [← hhi4] at MO HB
          have HB2 : Hid (B = (!(decide (55296 ≤ max a lo4) && decide (min b hi4 ≤ 57343)) && decide (max a lo4 ≤ min b hi4))) := Lib.hid (by
            rw [HB.out, ← hqe, hcc.out, ← hv.out, ← ha.out, ← hb.out, Nat.add_sub_cancel]
            rw [decide_eq_true n0, decide_eq_true (show s.size ≤ n by omega)]
            simp)
          have HV := Lib.hid hv.out.symm
          clear HB hlo4 hhi4 ha hb hcc hv V1 L0 x0 hd hdr hbd
          go_wp2_with fail
          refine (LE.out _).mono ?_
          rintro e w2 ⟨rfl, hb2⟩
          have D2 := Lib.hid (hb2)
          clear hb2
          by_cases hm : a < lo4
          all_goals
            go_wp2_with fail
            refine (MO.out _).mono ?_
            rintro e w3 ⟨rfl, hb3⟩
            have BW := Dr.below hdr2.out
            have D3 := Lib.hid (BW.trans ((D2.out.trans (hb3.mono D2.out.size)).mono BW.size))
            clear BW
            clear hb3 D2
            rcases Nat.lt_trichotomy b hi4 with hm2 | hm2 | hm2
            all_goals
              go_wp2_with fail
              all_goals
                go_ret3
                first
                  | exact FIN.out true n vv _ (by rw [HB2.out]; simp; omega) (fun _ => ⟨rfl, HV.out.symm⟩) D3.out
                  | exact FIN.out false 0 0 _ (by rw [HB2.out]; simp; omega) (fun h => by rw [HB2.out] at h; simp at h; omega) D3.out
/-- What First returns. -/
def FstPost (l : List Nat) (w : World) (e : Ending) (w' : World) : Prop :=
  ∃ r n er : Nat, e = .returned (.tuple #[.int .i64 (r : Int), .int .i64 (n : Int), .int .i64 (er : Int)]) ∧ (rn l ≠ 0 → r = cpt l ∧ n = rn l ∧ er = 0) ∧ (rn l = 0 → er ≠ 0) ∧ Below w.heap.size w w'
set_option maxHeartbeats 2000000 in
theorem first_any (s : ByteArray) (w : World) (h0 : 0 < s.size) (hs : s.size ≤ maxLen) :
    Calls Tryz.prog 128 #[.string s] w (FstPost (bs s) w) := by
  unfold maxLen at hs
  obtain ⟨c, hc⟩ : ∃ c, c = (bs s).getD 0 0 := ⟨_, rfl⟩
  have hc2 : c < 256 := by rw [hc]; exact bs_lt' s 0
  have b1 : bs (s.extract 0 1) = [c] := by
    rw [bs_to, hc]
    have : 0 < (bs s).length := by rw [bs_length]; exact h0
    cases h : bs s with
    | nil => rw [h] at this; cases this
    | cons x l => simp
  have z1 : (s.extract 0 1).size = 1 := by rw [ByteArray.size_extract]; omega
  have C1 := Lib.hid (begins_any (s.extract 0 1) w (by omega) (by omega))
  rw [b1] at C1
  obtain ⟨n, hn⟩ : ∃ n, n = uLen c := ⟨_, rfl⟩
  have hn4 : n ≤ 4 := by rw [hn]; exact uLen_le c
  obtain ⟨o1, o2⟩ := bg_one c hc2
  have HN : n = uLen ((bs s).getD 0 0) := by rw [hn, hc]
  by_cases n0 : n = 0
  · have R0 : Hid (rn (bs s) = 0) := Lib.hid (rn_lead0 _ (by rw [← HN]; exact n0))
    have B1 : bgB [c] = false := by rw [o1, ← hn, n0]; rfl
    clear hn HN o1 o2 hc b1 z1
    go_enter Tryz.func128, Tryz.ntmps128
    go_wp2_with fail
    refine C1.out.mono ?_
    rintro e w1 ⟨a, b, rfl, hx, hb⟩
    rw [B1]
    have D1 := Lib.hid hb
    clear hb hx C1 B1
    go_wp2_with fail
    go_ret3
    exact ⟨0, 0, 6, rfl, (fun h => absurd R0.out h), (fun _ => by decide), D1.out⟩
  have B1 : bgB [c] = true := by rw [o1, ← hn]; exact decide_eq_true n0
  have L1 : ldN c = n := by rw [o2 (by rw [← hn]; exact n0), hn]
  by_cases hl : n ≤ s.size
  · have z2 : (s.extract 0 n).size = n := by rw [ByteArray.size_extract]; omega
    have C2 : Hid (∀ w, Calls Tryz.prog 164 #[.string (s.extract 0 n)] w (BgPost ((bs s).take n) w)) := Lib.hid (fun w => by
      have := begins_any (s.extract 0 n) w (by omega) (by omega)
      rw [bs_to] at this
      exact this)
    obtain ⟨f1, f2⟩ := first_ok (bs s) (fun x hx => bs_lt s x hx) n HN n0 (by rw [bs_length]; exact hl)
    have tl : ((bs s).take n).length = n := by rw [List.length_take, bs_length]; omega
    have FO := Lib.hid (And.intro f1 f2)
    have TL := Lib.hid tl
    have hnI : (n : Int) ≤ (s.size : Int) := by omega
    obtain ⟨l2, hl2⟩ : ∃ l, l = (bs s).take n := ⟨_, rfl⟩
    rw [← hl2] at C2 FO TL
    obtain ⟨r, hr⟩ : ∃ r, r = decide (rn (bs s) ≠ 0) := ⟨_, rfl⟩
    have HR := Lib.hid hr
    have HL1 := Lib.hid L1
    have HB1 := Lib.hid B1
    clear hn HN o1 o2 hc b1 z1 f1 f2 tl hl2 hr L1 B1
    go_enter Tryz.func128, Tryz.ntmps128
    go_wp2_with fail
    refine C1.out.mono ?_
    rintro e w1 ⟨a, b, rfl, hx, hb⟩
    obtain ⟨ha, _⟩ := hx HB1.out
    rw [HB1.out]
    rw [show ([c] : List Nat).getD 0 0 = c from rfl, HL1.out] at ha
    subst ha
    have D1 := Lib.hid hb
    clear hb hx C1
    go_wp2_with fail
    refine (C2.out _).mono ?_
    rintro e w2 ⟨a2, b2, rfl, hx, hb⟩
    have D2 := Lib.hid (D1.out.trans (hb.mono D1.out.size))
    have HX := Lib.hid hx
    clear hb hx C2 D1
    rw [FO.out.1, ← HR.out]
    cases r
    · go_wp2_with fail
      go_ret3
      exact ⟨0, 0, 3, rfl, (fun h => absurd (of_decide_eq_false HR.out.symm) (fun h' => h' h)), (fun _ => by decide), D2.out⟩
    · go_wp2_with fail
      go_ret3
      have hr := of_decide_eq_true HR.out.symm
      have h1 := FO.out.2 hr
      have h2 := HX.out (by rw [FO.out.1]; exact decide_eq_true hr)
      exact ⟨b2, a, 0, rfl, (fun _ => ⟨by rw [h2.2, TL.out]; exact h1.1, h1.2.symm, rfl⟩), (fun h => absurd h hr), D2.out⟩
  · have C2 : Hid (∀ w, Calls Tryz.prog 164 #[.string s] w (BgPost (bs s) w)) := Lib.hid (fun w => begins_any s w h0 (by omega))
    have R0 : Hid (rn (bs s) = 0) := Lib.hid (rn_short _ (by rw [bs_length, ← HN]; omega))
    have HL1 := Lib.hid L1
    have HB1 := Lib.hid B1
    clear hn HN o1 o2 hc b1 z1 L1 B1
    go_enter Tryz.func128, Tryz.ntmps128
    go_wp2_with fail
    refine C1.out.mono ?_
    rintro e w1 ⟨a, b, rfl, hx, hb⟩
    obtain ⟨ha, _⟩ := hx HB1.out
    rw [HB1.out]
    rw [show ([c] : List Nat).getD 0 0 = c from rfl, HL1.out] at ha
    subst ha
    have D1 := Lib.hid hb
    clear hb hx C1
    go_wp2_with fail
    refine (C2.out _).mono ?_
    rintro e w2 ⟨a2, b2, rfl, hx, hb⟩
    have D2 := Lib.hid (D1.out.trans (hb.mono D1.out.size))
    clear hb hx C2 D1
    obtain ⟨r, hr⟩ : ∃ r, r = bgB (bs s) := ⟨_, rfl⟩
    rw [← hr]
    clear hr
    cases r
    · go_wp2_with fail
      go_ret3
      exact ⟨0, 0, 3, rfl, (fun h => absurd R0.out h), (fun _ => by decide), D2.out⟩
    · go_wp2_with fail
      go_ret3
      exact ⟨0, 0, 23, rfl, (fun h => absurd R0.out h), (fun _ => by decide), D2.out⟩
theorem infoN : (Tryz.prog.info? 3).map (fun i => (i.zero, i.size, i.bytes)) = some (some (.int .i64 0), 1, 8) := by kernel_rfl
/-- A slice that reads as a list of numbers. -/
def NRow (w : World) (v : Value) (ns : List Nat) : Prop :=
  ∃ a cap, v = .slice a ns.length cap ∧ ns.length ≤ cap ∧ (ns ≠ [] → ∃ b off, a = some ⟨b, off, none⟩ ∧ b < w.heap.size ∧ ∀ j (h : j < ns.length), w.cell? ⟨b, off + j, none⟩ = some (.int .i64 (ns[j] : Int)))
def nV (n : Nat) : Value := .int .i64 (n : Int)
theorem ownN_row {w : World} {base : Nat} {v : Value} {ns : List Nat} (h : w.ownsRow base 3 1 v ns.length (ns.map nV)) : NRow w v ns := by
  rcases h.2 with ⟨rfl, h0⟩ | ⟨g, cap, cur, rfl, hb, hg, hc, _, hs, ht⟩
  · exact ⟨none, 0, by rw [h0], by rw [h0]; exact Nat.le_refl _, fun hne => absurd (List.length_eq_zero_iff.1 h0) hne⟩
  · refine ⟨some ⟨g, 0, none⟩, cap, rfl, hc, fun _ => ⟨g, 0, rfl, lt_of_block hg, fun j hj => ?_⟩⟩
    rw [Nat.zero_add, cell_of_row w g j _ _ _ hg]
    have e1 : (cur.toList.take (ns.length * 1))[j]? = some (.int .i64 (ns[j] : Int)) := by rw [ht]; simp [hj, nV]
    rw [List.getElem?_take, if_pos (by omega)] at e1
    simpa using e1
theorem NRow.below {w w' : World} {v : Value} {ns : List Nat} (h : NRow w v ns) (hb : Below w.heap.size w w') : NRow w' v ns := by
  obtain ⟨a, cap, h1, h2, h3⟩ := h
  refine ⟨a, cap, h1, h2, fun hne => ?_⟩
  obtain ⟨b, off, h4, h5, h6⟩ := h3 hne
  exact ⟨b, off, h4, Nat.lt_of_lt_of_le h5 hb.size, fun j hj => (hb.cell (p := ⟨b, off + j, none⟩) h5).trans (h6 j hj)⟩
/-- Where the row of an append lies. -/
theorem append_block {P : Program} (w : World) (base : Nat) (t ty e : TypeId) (i : TypeInfo) (z : Value) (size bytes : Nat) (ht : P.underlying t = some (.slice e)) (hi : P.info? e = some i) (hz : i.zero = some z)
    (hsize : i.size = size) (hby : i.bytes = bytes) (v : Value) (n : Nat) (xs : List Value) (hown : w.ownsRow base e size v n xs)
    (a : Addr) (m c : Nat) (news : List Value) (hl : news.length = m * size) (hnews : ∀ j u, news[j]? = some u → w.cell? (a.add j) = some u) (h1 : ∀ u ∈ news, u.oneCell' = true)
    (h63 : n + m ≤ maxLen) (hbytes : (n + m) * bytes ≤ 140737488355328) (hm : 0 < m) (v' : Value) (w' : World)
    (hr : (Builtin.append_ #[t, t] ty #[v, .slice (some a) m c]).run P w = .ok v' w') : ∀ k, v'.ownBlock = some k → v.ownBlock = some k ∨ w.heap.size ≤ k := by
  subst hsize
  subst hby
  have hsmall : n + m ≤ 9223372036854775807 := by simp only [maxLen] at h63; omega
  rcases hown.2 with ⟨rfl, rfl⟩ | ⟨g, cap, cur, rfl, hbg, hg, hnc, hcm, hcs, htake⟩
  · have h := run_append_nil (P := P) w t ty e i z ht hi hz a m c news hl hnews hm (by omega) (by have hb := hbytes; simp only [Nat.zero_add] at hb; omega)
    rw [h] at hr
    cases hr
    intro k hk
    simp [Value.ownBlock] at hk
    exact .inr (by omega)
  · by_cases hroom : n + m ≤ cap
    · have hfit : n * i.size + news.length ≤ cur.size := by rw [hl, hcs, ← Nat.add_mul]; exact Nat.mul_le_mul_right _ hroom
      have h := run_append_room (P := P) w t ty e i ht hi g n cap cur hg a m c news hl hnews h1 hroom hfit
      rw [h] at hr
      cases hr
      exact fun k hk => .inl hk
    · have h := run_append_grow (P := P) w t ty e i z ht hi hz ⟨g, 0, none⟩ n cap xs hown.1 (hown.cells (g := g) rfl) a m c news hl hnews (by omega) (by omega) (growslice_fits (by omega) hbytes)
      rw [h] at hr
      cases hr
      intro k hk
      simp [Value.ownBlock] at hk
      exact .inr (by omega)
end Go.Proofs.YtohmdledkhgdaaaGreatDoor
