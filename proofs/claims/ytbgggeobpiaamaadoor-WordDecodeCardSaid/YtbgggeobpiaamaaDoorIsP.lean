/- slices.IndexFunc and slices.ContainsFunc at the program's closures; printable and plain texts. -/
import Derived.Test.YtbgggeobpiaamaaDoorUtf
import Derived.Test.YtbgggeobpiaamaaDoorEncD
import Derived.Test.YtbgggeobpiaamaaDoorLib
import Derived.Laws.IdiomStrings
namespace Go.Proofs.YtbgggeobpiaamaaDoor
open Go.RowKit
set_option linter.unusedVariables false
set_option maxRecDepth 100000

theorem Dr.below {w w' : World} (h : Dr w w') : Below w.heap.size w w' := by
  obtain ⟨q, rfl⟩ := h
  exact ⟨rfl, rfl, rfl, Nat.le_refl _, fun b hb => rfl⟩
theorem Dr.size {w w' : World} (h : Dr w w') : w'.heap.size = w.heap.size := by obtain ⟨q, rfl⟩ := h; rfl
/-- The bytes that are not ASCII. -/
def high (c : Nat) : Bool := decide (128 ≤ c)
/-- The bytes that Decode rejects. -/
def forb (c : Nat) : Bool := decide (c ≠ 9) && (decide (c < 32) || decide (126 < c))

/-- What IndexFunc returns. -/
def IxPost (b : Bool) (w : World) (e : Ending) (w' : World) : Prop :=
  ∃ n : Int, e = .returned (.int .i64 n) ∧ (b = true → 0 ≤ n) ∧ (b = false → n < 0) ∧ w = w'

theorem rd_bytes (w : World) (s : ByteArray) (cap : Nat) (fz : Nat × Nat) : Rd (w.alloc (.cells (bytesRow s cap) 5 fz)) (some ⟨w.heap.size, 0, none⟩) (bs s) := by
  refine ⟨bs_lt s, fun _ => ⟨w.heap.size, 0, rfl, by simp, fun i hi => ?_⟩⟩
  rw [Nat.zero_add, cell_of_row _ w.heap.size i _ 5 fz (heap_alloc_new w _)]
  have hi' : i < s.size := by rw [bs_length] at hi; exact hi
  have hi2 : i < (s.data.map (fun b => Value.int .u8 b.toNat)).size := by simpa using hi'
  unfold bytesRow
  rw [Array.getElem?_append_left hi2]
  rw [bs_at s i hi']
  rw [Array.getElem?_map, Array.getElem?_eq_getElem (show i < s.data.size from hi')]
  rfl
theorem any_take_all {p : Nat → Bool} {l : List Nat} {k : Nat} (h : (l.take k).any p = false) (hk : l.length ≤ k) : l.any p = false := by rwa [List.take_of_length_le hk] at h
theorem any_take_hit {p : Nat → Bool} {l : List Nat} {k c : Nat} (hk : k < l.length) (hc : c = l.getD k 0) (h : p c = true) : l.any p = true := by
  rw [List.any_eq_true]; rw [List.getD_eq_getElem?_getD, List.getElem?_eq_getElem hk, Option.getD_some] at hc; exact ⟨_, List.getElem_mem hk, by rw [← hc]; exact h⟩
theorem any_take_miss {p : Nat → Bool} {l : List Nat} {k c : Nat} (h0 : (l.take k).any p = false) (hk : k < l.length) (hc : c = l.getD k 0) (h : p c = false) : (l.take (k + 1)).any p = false := by
  rw [List.getD_eq_getElem?_getD, List.getElem?_eq_getElem hk, Option.getD_some] at hc
  rw [List.take_succ_eq_append_getElem hk, List.any_append, h0, ← hc]; simp [h]

theorem ctrl_any (w : World) (c : Nat) (hc : c < 256) : Calls Tryd.prog 49 #[.int .u8 (c : Int)] w fun e w' => e = .returned (.bool (ctrl c)) ∧ w = w' := by
  obtain ⟨b, hb⟩ : ∃ b, b = ctrl c := ⟨_, rfl⟩
  rw [← hb]
  have HB := Lib.hid hb
  clear hb
  rcases (by omega : c < 32 ∨ c = 127 ∨ (32 ≤ c ∧ c ≠ 127)) with h | rfl | ⟨h, h2⟩
  · have q : ((c : Int) == 127) = false := int_ne (by omega)
    go_enter Tryd.func49, Tryd.ntmps49
    go_wp2_with fail
    go_ret
    exact ⟨ret_bool (by rw [HB.out, Bool.eq_iff_iff]; simp [ctrl]; try omega), rfl⟩
  · go_enter Tryd.func49, Tryd.ntmps49
    go_wp2_with fail
    go_ret
    exact ⟨ret_bool (by rw [HB.out, Bool.eq_iff_iff]; simp [ctrl]; try omega), rfl⟩
  · have q : ((c : Int) == 127) = false := int_ne (by omega)
    go_enter Tryd.func49, Tryd.ntmps49
    go_wp2_with fail
    go_ret
    exact ⟨ret_bool (by rw [HB.out, Bool.eq_iff_iff]; simp [ctrl]; try omega), rfl⟩

set_option maxHeartbeats 1000000 in
theorem ix_ctrl (w : World) (a : Option Addr) (cap : Nat) (l : List Nat) (hl : l.length ≤ maxLen) (hrd : Rd w a l) :
    Calls Tryd.prog 52 #[.slice a l.length cap, .func (.func 49) #[] #[]] w (IxPost (l.any ctrl) w) := by
  unfold maxLen at hl
  obtain ⟨n, hn⟩ : ∃ n, n = l.length := ⟨_, rfl⟩
  rw [← hn] at hl ⊢
  have HR := Lib.hid hrd; have HN := Lib.hid hn
  clear hrd hn
  go_enter Tryd.func52, Tryd.ntmps52
  go_wp2_with fail
  go_loopg [8] n (fun k i wr => ∃ j : Nat, j ≤ n ∧ k = n - j ∧ i = .int .i64 (j : Int) ∧ Hid ((l.take j).any ctrl = false) ∧ w = wr)
  case atStart => exact ⟨0, by omega, rfl, rfl, rfl, rfl⟩
  case round =>
    obtain ⟨j, hj, rfl, rfl, ha, rfl⟩ := hrel
    by_cases h : j < n
    · have hjl : j < l.length := by rw [← HN.out]; exact h
      obtain ⟨b, off, rfl, hbl, hcl⟩ := HR.out.at_ (by omega)
      obtain ⟨c, hc⟩ : ∃ c, c = l.getD j 0 := ⟨_, rfl⟩
      have hcj : l.getD j 0 = l[j] := by rw [List.getD_eq_getElem?_getD, List.getElem?_eq_getElem hjl, Option.getD_some]
      have hcc : w.cell? ⟨b, off + j, none⟩ = some (.int .u8 (c : Int)) := by rw [hc, hcj]; exact hcl j hjl
      have hc2 : c < 256 := by rw [hc, hcj]; exact HR.out.lt _ (List.getElem_mem hjl)
      have HC := Lib.hid hc; have HJ := Lib.hid hjl
      clear hc hcl hcj hjl
      cases hp : ctrl c
      · have C : Hid (∀ w, Calls Tryd.prog 49 #[.int .u8 (c : Int)] w fun e w' => e = .returned (.bool false) ∧ w = w') := fun w => by rw [← hp]; exact ctrl_any w c hc2
        have HP := Lib.hid hp
        clear hp
        go_wp2_with (go_at_call 49; refine (C.out _).mono ?_; rintro e w' ⟨rfl, rfl⟩)
        go_roundg (n - (j + 1))
        case measure => omega
        case rel => exact ⟨j + 1, by omega, rfl, by go_num, any_take_miss ha.out HJ.out HC.out HP.out, rfl⟩
      · have C : Hid (∀ w, Calls Tryd.prog 49 #[.int .u8 (c : Int)] w fun e w' => e = .returned (.bool true) ∧ w = w') := fun w => by rw [← hp]; exact ctrl_any w c hc2
        have HP := Lib.hid hp
        clear hp
        go_wp2_with (go_at_call 49; refine (C.out _).mono ?_; rintro e w' ⟨rfl, rfl⟩)
        go_ret
        exact ⟨_, rfl, (fun _ => by omega), (fun h => by rw [any_take_hit HJ.out HC.out HP.out] at h; cases h), rfl⟩
    · go_wp2_with fail
      go_ret
      exact ⟨_, rfl, (fun h' => by rw [any_take_all ha.out (by rw [← HN.out]; omega)] at h'; cases h'), (fun _ => by decide), rfl⟩

theorem cf_ctrl (w : World) (a : Option Addr) (cap : Nat) (l : List Nat) (hl : l.length ≤ maxLen) (hrd : Rd w a l) :
    Calls Tryd.prog 31 #[.slice a l.length cap, .func (.func 49) #[] #[]] w fun e w' => e = .returned (.bool (l.any ctrl)) ∧ w = w' := by
  have C := Lib.hid (ix_ctrl w a cap l hl hrd)
  obtain ⟨b, hb⟩ : ∃ b, b = l.any ctrl := ⟨_, rfl⟩
  obtain ⟨n, hn⟩ : ∃ n, n = l.length := ⟨_, rfl⟩
  rw [← hb, ← hn] at C ⊢
  clear hb hn hl hrd
  go_enter Tryd.func31, Tryd.ntmps31
  go_wp2_with fail
  refine C.out.mono ?_
  rintro e w' ⟨m, rfl, h1, h2, rfl⟩
  cases b
  · have h := h2 rfl
    clear h1 h2 C
    go_wp2_with fail
    go_ret
    exact ⟨ret_bool (by simp; omega), rfl⟩
  · have h := h1 rfl
    clear h1 h2 C
    go_wp2_with fail
    go_ret
    exact ⟨rfl, rfl⟩

theorem high_any (w : World) (c : Nat) (hc : c < 256) : Calls Tryd.prog 40 #[.int .u8 (c : Int)] w fun e w' => e = .returned (.bool (high c)) ∧ w = w' := by
  obtain ⟨b, hb⟩ : ∃ b, b = high c := ⟨_, rfl⟩
  rw [← hb]
  have HB := Lib.hid hb
  clear hb
  rcases (by omega : c < 128 ∨ 128 ≤ c) with h | h
  · go_enter Tryd.func40, Tryd.ntmps40
    go_wp2_with fail
    go_ret
    exact ⟨ret_bool (by rw [HB.out, Bool.eq_iff_iff]; simp [high]; try omega), rfl⟩
  · go_enter Tryd.func40, Tryd.ntmps40
    go_wp2_with fail
    go_ret
    exact ⟨ret_bool (by rw [HB.out, Bool.eq_iff_iff]; simp [high]; try omega), rfl⟩

set_option maxHeartbeats 1000000 in
theorem ix_high (w : World) (a : Option Addr) (cap : Nat) (l : List Nat) (hl : l.length ≤ maxLen) (hrd : Rd w a l) :
    Calls Tryd.prog 52 #[.slice a l.length cap, .func (.func 40) #[] #[]] w (IxPost (l.any high) w) := by
  unfold maxLen at hl
  obtain ⟨n, hn⟩ : ∃ n, n = l.length := ⟨_, rfl⟩
  rw [← hn] at hl ⊢
  have HR := Lib.hid hrd; have HN := Lib.hid hn
  clear hrd hn
  go_enter Tryd.func52, Tryd.ntmps52
  go_wp2_with fail
  go_loopg [8] n (fun k i wr => ∃ j : Nat, j ≤ n ∧ k = n - j ∧ i = .int .i64 (j : Int) ∧ Hid ((l.take j).any high = false) ∧ w = wr)
  case atStart => exact ⟨0, by omega, rfl, rfl, rfl, rfl⟩
  case round =>
    obtain ⟨j, hj, rfl, rfl, ha, rfl⟩ := hrel
    by_cases h : j < n
    · have hjl : j < l.length := by rw [← HN.out]; exact h
      obtain ⟨b, off, rfl, hbl, hcl⟩ := HR.out.at_ (by omega)
      obtain ⟨c, hc⟩ : ∃ c, c = l.getD j 0 := ⟨_, rfl⟩
      have hcj : l.getD j 0 = l[j] := by rw [List.getD_eq_getElem?_getD, List.getElem?_eq_getElem hjl, Option.getD_some]
      have hcc : w.cell? ⟨b, off + j, none⟩ = some (.int .u8 (c : Int)) := by rw [hc, hcj]; exact hcl j hjl
      have hc2 : c < 256 := by rw [hc, hcj]; exact HR.out.lt _ (List.getElem_mem hjl)
      have HC := Lib.hid hc; have HJ := Lib.hid hjl
      clear hc hcl hcj hjl
      cases hp : high c
      · have C : Hid (∀ w, Calls Tryd.prog 40 #[.int .u8 (c : Int)] w fun e w' => e = .returned (.bool false) ∧ w = w') := fun w => by rw [← hp]; exact high_any w c hc2
        have HP := Lib.hid hp
        clear hp
        go_wp2_with (go_at_call 40; refine (C.out _).mono ?_; rintro e w' ⟨rfl, rfl⟩)
        go_roundg (n - (j + 1))
        case measure => omega
        case rel => exact ⟨j + 1, by omega, rfl, by go_num, any_take_miss ha.out HJ.out HC.out HP.out, rfl⟩
      · have C : Hid (∀ w, Calls Tryd.prog 40 #[.int .u8 (c : Int)] w fun e w' => e = .returned (.bool true) ∧ w = w') := fun w => by rw [← hp]; exact high_any w c hc2
        have HP := Lib.hid hp
        clear hp
        go_wp2_with (go_at_call 40; refine (C.out _).mono ?_; rintro e w' ⟨rfl, rfl⟩)
        go_ret
        exact ⟨_, rfl, (fun _ => by omega), (fun h => by rw [any_take_hit HJ.out HC.out HP.out] at h; cases h), rfl⟩
    · go_wp2_with fail
      go_ret
      exact ⟨_, rfl, (fun h' => by rw [any_take_all ha.out (by rw [← HN.out]; omega)] at h'; cases h'), (fun _ => by decide), rfl⟩

theorem cf_high (w : World) (a : Option Addr) (cap : Nat) (l : List Nat) (hl : l.length ≤ maxLen) (hrd : Rd w a l) :
    Calls Tryd.prog 31 #[.slice a l.length cap, .func (.func 40) #[] #[]] w fun e w' => e = .returned (.bool (l.any high)) ∧ w = w' := by
  have C := Lib.hid (ix_high w a cap l hl hrd)
  obtain ⟨b, hb⟩ : ∃ b, b = l.any high := ⟨_, rfl⟩
  obtain ⟨n, hn⟩ : ∃ n, n = l.length := ⟨_, rfl⟩
  rw [← hb, ← hn] at C ⊢
  clear hb hn hl hrd
  go_enter Tryd.func31, Tryd.ntmps31
  go_wp2_with fail
  refine C.out.mono ?_
  rintro e w' ⟨m, rfl, h1, h2, rfl⟩
  cases b
  · have h := h2 rfl
    clear h1 h2 C
    go_wp2_with fail
    go_ret
    exact ⟨ret_bool (by simp; omega), rfl⟩
  · have h := h1 rfl
    clear h1 h2 C
    go_wp2_with fail
    go_ret
    exact ⟨rfl, rfl⟩

theorem forb_any (w : World) (c : Nat) (hc : c < 256) : Calls Tryd.prog 30 #[.int .u8 (c : Int)] w fun e w' => e = .returned (.bool (forb c)) ∧ w = w' := by
  obtain ⟨b, hb⟩ : ∃ b, b = forb c := ⟨_, rfl⟩
  rw [← hb]
  have HB := Lib.hid hb
  clear hb
  rcases (by omega : c = 9 ∨ (c ≠ 9 ∧ c < 32) ∨ (32 ≤ c ∧ c ≤ 126) ∨ 126 < c) with rfl | ⟨h, h2⟩ | ⟨h, h2⟩ | h
  · go_enter Tryd.func30, Tryd.ntmps30
    go_wp2_with fail
    go_ret
    exact ⟨ret_bool (by rw [HB.out, Bool.eq_iff_iff]; simp [forb]; try omega), rfl⟩
  · have q : ((c : Int) != 9) = true := int_neq (by omega)
    go_enter Tryd.func30, Tryd.ntmps30
    go_wp2_with fail
    go_ret
    exact ⟨ret_bool (by rw [HB.out, Bool.eq_iff_iff]; simp [forb]; try omega), rfl⟩
  · have q : ((c : Int) != 9) = true := int_neq (by omega)
    go_enter Tryd.func30, Tryd.ntmps30
    go_wp2_with fail
    go_ret
    exact ⟨ret_bool (by rw [HB.out, Bool.eq_iff_iff]; simp [forb]; try omega), rfl⟩
  · have q : ((c : Int) != 9) = true := int_neq (by omega)
    go_enter Tryd.func30, Tryd.ntmps30
    go_wp2_with fail
    go_ret
    exact ⟨ret_bool (by rw [HB.out, Bool.eq_iff_iff]; simp [forb]; try omega), rfl⟩

set_option maxHeartbeats 1000000 in
theorem ix_forb (w : World) (a : Option Addr) (cap : Nat) (l : List Nat) (hl : l.length ≤ maxLen) (hrd : Rd w a l) :
    Calls Tryd.prog 52 #[.slice a l.length cap, .func (.func 30) #[] #[]] w (IxPost (l.any forb) w) := by
  unfold maxLen at hl
  obtain ⟨n, hn⟩ : ∃ n, n = l.length := ⟨_, rfl⟩
  rw [← hn] at hl ⊢
  have HR := Lib.hid hrd; have HN := Lib.hid hn
  clear hrd hn
  go_enter Tryd.func52, Tryd.ntmps52
  go_wp2_with fail
  go_loopg [8] n (fun k i wr => ∃ j : Nat, j ≤ n ∧ k = n - j ∧ i = .int .i64 (j : Int) ∧ Hid ((l.take j).any forb = false) ∧ w = wr)
  case atStart => exact ⟨0, by omega, rfl, rfl, rfl, rfl⟩
  case round =>
    obtain ⟨j, hj, rfl, rfl, ha, rfl⟩ := hrel
    by_cases h : j < n
    · have hjl : j < l.length := by rw [← HN.out]; exact h
      obtain ⟨b, off, rfl, hbl, hcl⟩ := HR.out.at_ (by omega)
      obtain ⟨c, hc⟩ : ∃ c, c = l.getD j 0 := ⟨_, rfl⟩
      have hcj : l.getD j 0 = l[j] := by rw [List.getD_eq_getElem?_getD, List.getElem?_eq_getElem hjl, Option.getD_some]
      have hcc : w.cell? ⟨b, off + j, none⟩ = some (.int .u8 (c : Int)) := by rw [hc, hcj]; exact hcl j hjl
      have hc2 : c < 256 := by rw [hc, hcj]; exact HR.out.lt _ (List.getElem_mem hjl)
      have HC := Lib.hid hc; have HJ := Lib.hid hjl
      clear hc hcl hcj hjl
      cases hp : forb c
      · have C : Hid (∀ w, Calls Tryd.prog 30 #[.int .u8 (c : Int)] w fun e w' => e = .returned (.bool false) ∧ w = w') := fun w => by rw [← hp]; exact forb_any w c hc2
        have HP := Lib.hid hp
        clear hp
        go_wp2_with (go_at_call 30; refine (C.out _).mono ?_; rintro e w' ⟨rfl, rfl⟩)
        go_roundg (n - (j + 1))
        case measure => omega
        case rel => exact ⟨j + 1, by omega, rfl, by go_num, any_take_miss ha.out HJ.out HC.out HP.out, rfl⟩
      · have C : Hid (∀ w, Calls Tryd.prog 30 #[.int .u8 (c : Int)] w fun e w' => e = .returned (.bool true) ∧ w = w') := fun w => by rw [← hp]; exact forb_any w c hc2
        have HP := Lib.hid hp
        clear hp
        go_wp2_with (go_at_call 30; refine (C.out _).mono ?_; rintro e w' ⟨rfl, rfl⟩)
        go_ret
        exact ⟨_, rfl, (fun _ => by omega), (fun h => by rw [any_take_hit HJ.out HC.out HP.out] at h; cases h), rfl⟩
    · go_wp2_with fail
      go_ret
      exact ⟨_, rfl, (fun h' => by rw [any_take_all ha.out (by rw [← HN.out]; omega)] at h'; cases h'), (fun _ => by decide), rfl⟩

theorem cf_forb (w : World) (a : Option Addr) (cap : Nat) (l : List Nat) (hl : l.length ≤ maxLen) (hrd : Rd w a l) :
    Calls Tryd.prog 31 #[.slice a l.length cap, .func (.func 30) #[] #[]] w fun e w' => e = .returned (.bool (l.any forb)) ∧ w = w' := by
  have C := Lib.hid (ix_forb w a cap l hl hrd)
  obtain ⟨b, hb⟩ : ∃ b, b = l.any forb := ⟨_, rfl⟩
  obtain ⟨n, hn⟩ : ∃ n, n = l.length := ⟨_, rfl⟩
  rw [← hb, ← hn] at C ⊢
  clear hb hn hl hrd
  go_enter Tryd.func31, Tryd.ntmps31
  go_wp2_with fail
  refine C.out.mono ?_
  rintro e w' ⟨m, rfl, h1, h2, rfl⟩
  cases b
  · have h := h2 rfl
    clear h1 h2 C
    go_wp2_with fail
    go_ret
    exact ⟨ret_bool (by simp; omega), rfl⟩
  · have h := h1 rfl
    clear h1 h2 C
    go_wp2_with fail
    go_ret
    exact ⟨rfl, rfl⟩

theorem bytes_run (s : ByteArray) (w : World) : (convert 9 43 (.string s)).run Tryd.prog w = .ok (.slice (some ⟨w.heap.size, 0, none⟩) s.size (grownCap w s.size 0 5))
      (w.drew.alloc (.cells (bytesRow s (grownCap w s.size 0 5)) 5 ((bytesRow s (grownCap w s.size 0 5)).size, (bytesRow s (grownCap w s.size 0 5)).size + 1))) :=
  run_bytes_of_string w 9 43 5 s Tryd.underlying9 Tryd.underlying43 Tryd.underlying5
theorem rd_conv (w : World) (s : ByteArray) (cap : Nat) (fz : Nat × Nat) : Rd (w.drew.alloc (.cells (bytesRow s cap) 5 fz)) (some ⟨w.heap.size, 0, none⟩) (bs s) := rd_bytes w.drew s cap fz
theorem below_conv {B : Nat} {w w1 : World} (h : Below B w w1) (hB : B ≤ w1.heap.size) (o : Obj) : Below B w (w1.drew.alloc o) := h.drew.alloc hB o

set_option maxHeartbeats 1000000 in
theorem isprt_any (s : ByteArray) (w : World) (hs : s.size ≤ maxLen) :
    Calls Tryd.prog 28 #[.string s] w fun e w' => e = .returned (.bool (prt (bs s))) ∧ Below w.heap.size w w' := by
  have V := Lib.hid (uvalid_any s w hs)
  have CF : Hid (∀ (w : World) (a : Option Addr) (cap : Nat), Rd w a (bs s) → Calls Tryd.prog 31 #[.slice a s.size cap, .func (.func 49) #[] #[]] w fun e w' => e = .returned (.bool ((bs s).any ctrl)) ∧ w = w') := fun w a cap h => by
    rw [← bs_length]; exact cf_ctrl w a cap (bs s) (by rw [bs_length]; exact hs) h
  have cv := bytes_run s
  obtain ⟨b, hb⟩ : ∃ b, b = vld (bs s) := ⟨_, rfl⟩
  obtain ⟨c, hc⟩ : ∃ c, c = (bs s).any ctrl := ⟨_, rfl⟩
  have hp : prt (bs s) = (b && !c) := by rw [hb, hc]; rfl
  rw [← hb] at V
  rw [← hc] at CF
  rw [hp]
  clear hb hc hp hs
  cases b
  · go_enter Tryd.func28, Tryd.ntmps28
    go_wp2_with (go_at_call 50; refine V.out.mono ?_; rintro e w1 ⟨rfl, hd⟩)
    go_ret
    exact ⟨rfl, hd.below⟩
  · go_enter Tryd.func28, Tryd.ntmps28
    go_wp2_with (first | (go_at_call 50; refine V.out.mono ?_; rintro e w1 ⟨rfl, hd⟩; clear V) | (go_at_call 31; refine (CF.out _ _ _ (rd_conv w1 s _ _)).mono ?_; rintro e w' ⟨rfl, rfl⟩))
    go_ret
    exact ⟨by cases c <;> rfl, below_conv hd.below (by rw [hd.size]; exact Nat.le_refl _) _⟩

/-- Texts that need no encoding. -/
def hasEq : List Nat → Bool
  | a :: b :: l => (decide (a = 61) && decide (b = 63)) || hasEq (b :: l)
  | _ => false
def plain (l : List Nat) : Bool := prt l && !l.any high && !hasEq l
end Go.Proofs.YtbgggeobpiaamaaDoor
