/- strings.EqualFold of two texts of one length, of which the second is ASCII. -/
import Derived.Test.YtbgggeobpiaamaaDoorWord
import Derived.Laws.RangeAny
import Derived.Laws.RangeString
import Derived.ScopeJumps
import Derived.WalkMore
import Derived.LoopN
import Derived.Deep.LoopGhost
import Derived.Lib.Walk
namespace Go.Proofs.YtbgggeobpiaamaaDoor
open Go.RowKit
set_option linter.unusedVariables false
set_option maxRecDepth 1000000

/-- What the library's table of ASCII letters says. -/
def afF (c : Nat) : Nat := if 65 ≤ c ∧ c ≤ 90 then c + 32 else if c = 107 then 8490 else if c = 115 then 383 else if 97 ≤ c ∧ c ≤ 122 then c - 32 else c
/-- What the walks read of the program's variables. -/
structure Env (w : World) : Prop where
  tab : Tab w
  fold : ∀ c, c < 128 → w.cell? ⟨0, c, none⟩ = some (.int .u16 (afF c : Int))
  mx : ∃ m, w.cell? ⟨4, 0, none⟩ = some (.int .i64 m)
  size : 7 ≤ w.heap.size
theorem Env.below {B : Nat} {w w' : World} (h : Env w) (hb : Below B w w') (hB : 7 ≤ B) : Env w' :=
  ⟨h.tab.below hb (Nat.lt_of_lt_of_le (by decide) hB), fun c hc => (hb.cell (p := ⟨0, c, none⟩) (Nat.lt_of_lt_of_le (by show (0 : Nat) < 7; decide) hB)).trans (h.fold c hc), (by
    obtain ⟨m, hm⟩ := h.mx
    exact ⟨m, (hb.cell (p := ⟨4, 0, none⟩) (Nat.lt_of_lt_of_le (by show (4 : Nat) < 7; decide) hB)).trans hm⟩), Nat.le_trans h.size hb.size⟩
theorem Env.on {w w' : World} (h : Env w) (hb : Below w.heap.size w w') : Env w' := h.below hb h.size

theorem low_eq {x y : Nat} (hx : x < 128) (hy : y < 128) : low x = low y ↔ (x = y ∨ (x < y ∧ 65 ≤ x ∧ x ≤ 90 ∧ y = x + 32) ∨ (y < x ∧ 65 ≤ y ∧ y ≤ 90 ∧ x = y + 32)) := by
  unfold low; split <;> split <;> omega
theorem low_high {x y : Nat} (hx : 128 ≤ x) (hy : y < 128) : low x ≠ low y := by
  unfold low; split <;> split <;> omega
theorem lows_take {l m : List Nat} {i x y : Nat} (hl : i < l.length) (hm : i < m.length) (hx : x = l.getD i 0) (hy : y = m.getD i 0) (h : lows (l.take i) = lows (m.take i)) (hxy : low x = low y) : lows (l.take (i + 1)) = lows (m.take (i + 1)) := by
  rw [List.getD_eq_getElem?_getD, List.getElem?_eq_getElem hl, Option.getD_some] at hx
  rw [List.getD_eq_getElem?_getD, List.getElem?_eq_getElem hm, Option.getD_some] at hy
  unfold lows at *
  rw [List.take_succ_eq_append_getElem hl, List.take_succ_eq_append_getElem hm, List.map_append, List.map_append, h, ← hx, ← hy]
  simp [hxy]
theorem lows_no {l m : List Nat} {i x y : Nat} (hl : i < l.length) (hm : i < m.length) (hx : x = l.getD i 0) (hy : y = m.getD i 0) (hxy : low x ≠ low y) : lows l ≠ lows m := by
  intro h
  apply hxy
  have := congrArg (fun z => z.getD i 0) h
  unfold lows at this
  simp only [List.getD_eq_getElem?_getD, List.getElem?_map, List.getElem?_eq_getElem hl, List.getElem?_eq_getElem hm, Option.map_some, Option.getD_some] at this hx hy
  rw [hx, hy]; exact this

set_option maxHeartbeats 1000000 in
theorem sfold_any (w : World) (c : Nat) (hc : c < 128) (he : Env w) (f : Nat) (hf : f = afF c) :
    Calls Tryd.prog 68 #[.int .i32 (c : Int)] w fun e w' => e = .returned (.int .i32 (f : Int)) ∧ w = w' := by
  have hcl := he.fold c hc
  rw [← hf] at hcl
  have hf2 : f < 65536 := by rw [hf]; unfold afF; (repeat' split) <;> omega
  clear hf he
  go_enter Tryd.func68, Tryd.ntmps68
  go_wp2_with fail
  go_ret
  exact ⟨rfl, rfl⟩

set_option maxHeartbeats 1000000 in
theorem drune_ascii (w : World) (t : ByteArray) (c : Nat) (h0 : 0 < t.size) (hc : c = (bs t).getD 0 0) (hc2 : c < 128) :
    Calls Tryd.prog 67 #[.string t] w fun e w' => e = .returned (.tuple #[.int .i32 (c : Int), .int .i64 1]) ∧ w = w' := by
  have x0 := idx0 t c hc h0
  have n0 := str_ne (s := t) (by omega)
  clear hc
  go_enter Tryd.func67, Tryd.ntmps67
  go_wp2_with fail
  go_ret2
  exact ⟨rfl, rfl⟩

theorem decode_ge (s : ByteArray) (h : 0 < s.size) (x : Nat) (hx : x = (bs s).getD 0 0) (h128 : 128 ≤ x) : ∃ r : Nat, (Utf8.decode s 0).1 = r ∧ 128 ≤ r := by
  refine ⟨_, rfl, ?_⟩
  have := decode_high s 0 h (by rw [hx, bs_getD s 0 h] at h128; exact h128)
  exact_mod_cast this.1

set_option maxHeartbeats 4000000 in
theorem fold_any (s t : ByteArray) (w : World) (n : Nat) (hs : s.size = n) (ht : t.size = n) (hn : n ≤ 1000) (he : Env w)
    (hat : ∀ i, i < n → (bs t).getD i 0 < 128 ∧ afF ((bs t).getD i 0) < 128 ∧ afF (afF ((bs t).getD i 0)) = (bs t).getD i 0) :
    Calls Tryd.prog 42 #[.string s, .string t] w fun e w' => e = .returned (.bool (decide (lows (bs s) = lows (bs t)))) ∧ Below w.heap.size w w' := by
  have HT := Lib.hid hat; have HE := Lib.hid he; have ES := Lib.hid hs; have ET := Lib.hid ht
  have LS : Hid ((bs s).length = n) := Lib.hid (by rw [bs_length]; exact hs)
  have LT : Hid ((bs t).length = n) := Lib.hid (by rw [bs_length]; exact ht)
  have hsz : s.size ≤ 1000 := by omega
  have htz : t.size ≤ 1000 := by omega
  have hst : s.size ≤ t.size := by omega
  have hts : t.size ≤ s.size := by omega
  obtain ⟨M, hM⟩ : ∃ M : Nat, min (s.size : Int) (t.size : Int) = (M : Int) := ⟨s.size, by omega⟩
  have hMs : M ≤ s.size := by omega
  have hsM : s.size ≤ M := by omega
  have hMt : M ≤ t.size := by omega
  clear hat he hs ht
  go_enter Tryd.func42, Tryd.ntmps42
  go_wp2_with fail
  clear hM
  refine wp_scope_jumps 0 (fun a' w' => w = w' ∧ ∃ (i : Nat) (u4 u6 u7 u8 u14 u15 u16 u17 u18 u19 u20 u21 u22 u23 u24 u25 u26 u27 u28 u29 u30 u31 u32 u33 u34 u35 u36 u37 u38 u39 u40 u41 u42 u43 u44 u45 u46 u47 u48 u49 u50 u51 u52 u53 u54 : Value), a' = { tmps := #[.string s, .string t, undef, undef, u4, .int .i64 (i : Int), u6, u7, u8, undef, undef, undef, undef, undef, u14, u15, u16, u17, u18, u19, u20, u21, u22, u23, u24, u25, u26, u27, u28, u29, u30, u31, u32, u33, u34, u35, u36, u37, u38, u39, u40, u41, u42, u43, u44, u45, u46, u47, u48, u49, u50, u51, u52, u53, u54, undef, undef, undef, undef, undef, undef, undef, undef, undef, undef, undef, undef, undef, undef, undef, undef, undef, undef, undef, undef, undef, undef, undef, undef, undef, undef, undef, undef, undef, undef, undef, undef, undef, undef, undef, undef, undef, undef, undef, undef, undef, undef, undef, undef, undef, undef, undef, undef, undef, undef, undef, undef, undef, undef, undef, undef, undef, undef, undef, undef, undef, undef, undef, undef, undef, undef, undef, undef], defers := [] } ∧ i < s.size ∧ 128 ≤ (bs s).getD i 0) (fun _ _ => 0) rfl ?_ ?_
  · go_wp2_with fail
    go_loopg [5] M (fun g s5 wx => w = wx ∧ ∃ i : Nat, i + g = M ∧ s5 = .int .i64 (i : Int) ∧ Hid (lows ((bs s).take i) = lows ((bs t).take i)))
    case atStart => exact ⟨rfl, 0, by omega, rfl, rfl⟩
    case round =>
      obtain ⟨rfl, i, hig, rfl, hinv⟩ := hrel
      by_cases hi : i < M
      · have his : i < s.size := by omega
        have hit : i < t.size := by omega
        obtain ⟨x, hx⟩ : ∃ x, x = (bs s).getD i 0 := ⟨_, rfl⟩
        obtain ⟨y, hy⟩ : ∃ y, y = (bs t).getD i 0 := ⟨_, rfl⟩
        have hx2 : x < 256 := by rw [hx]; exact bs_lt' s i
        have hy2 : y < 128 := by rw [hy]; exact (HT.out i (by rw [← ET.out]; exact hit)).1
        have i1 := fun w => idx_q s w (i : Int) i rfl his x hx
        have i2 := fun w => idx_q t w (i : Int) i rfl hit y hy
        obtain ⟨z, hz⟩ : ∃ z : Nat, z = x ||| y := ⟨_, rfl⟩
        have hor : Go.bits .or .u8 (x : Int) (y : Int) = (z : Int) := by rw [hz]; exact u8_or_nat _ _ (by omega) (by omega)
        have HX := Lib.hid hx; have HY := Lib.hid hy
        by_cases h128 : 128 ≤ x
        · have hz2 : 128 ≤ z := by rw [hz]; exact Nat.le_trans h128 Nat.left_le_or
          clear hx hy hz
          go_wp2_with fail
          go_step3
          refine ⟨rfl, rfl, i, _, _, _, _, _, _, _, _, _, _, _, _, _, _, _, _, _, _, _, _, _, _, _, _, _, _, _, _, _, _, _, _, _, _, _, _, _, _, _, _, _, _, _, _, _, rfl, his, ?_⟩
          rw [← HX.out]; exact h128
        · have hz2 : z < 128 := by rw [hz]; exact Nat.or_lt_two_pow (n := 7) (by omega) hy2
          clear hx hy hz
          have HI := Lib.hid hinv.out
          clear hinv
          go_wp2_with fail
          all_goals (try simp only [beq_iff_eq, beq_eq_false_iff_ne, ne_eq] at *)
          all_goals first
            | (go_roundg (M - (i + 1))
               case measure => omega
               case rel => exact ⟨rfl, i + 1, by omega, by first | rfl | simp, Lib.hid (lows_take (by rw [bs_length]; exact his) (by rw [bs_length]; exact hit) HX.out HY.out HI.out ((low_eq (by omega) hy2).2 (by omega)))⟩)
            | (simp only [Exit.jump]
               go_ret
               refine ⟨?_, Below.refl _ _⟩
               rw [decide_eq_false (lows_no (by rw [bs_length]; exact his) (by rw [bs_length]; exact hit) HX.out HY.out (fun h => by have := (low_eq (by omega) hy2).1 h; omega))]
               rfl)
      · have hd : decide (lows (bs s) = lows (bs t)) = true := by
          rw [decide_eq_true_eq]
          have := hinv.out
          rwa [List.take_of_length_le (by rw [bs_length]; omega), List.take_of_length_le (by rw [bs_length]; omega)] at this
        have hb : ((s.size : Int) == (t.size : Int)) = true := int_eq (by omega)
        have HD := Lib.hid hd
        clear hd
        go_wp2_with fail
        simp only [Exit.jump]
        go_ret
        exact ⟨by rw [HD.out]; rfl, Below.refl _ _⟩
  · rintro a' w' ⟨rfl, i, u4, u6, u7, u8, u14, u15, u16, u17, u18, u19, u20, u21, u22, u23, u24, u25, u26, u27, u28, u29, u30, u31, u32, u33, u34, u35, u36, u37, u38, u39, u40, u41, u42, u43, u44, u45, u46, u47, u48, u49, u50, u51, u52, u53, u54, rfl, hi, h128⟩
    obtain ⟨y, hy⟩ : ∃ y, y = (bs t).getD i 0 := ⟨_, rfl⟩
    obtain ⟨hy2, hf2, hff⟩ := HT.out i (by rw [← ES.out]; exact hi)
    rw [← hy] at hy2 hf2 hff
    obtain ⟨f, hf⟩ : ∃ f, f = afF y := ⟨_, rfl⟩
    rw [← hf] at hf2 hff
    have hse : (s.extract i s.size).size = s.size - i := by rw [ByteArray.size_extract]; omega
    have hte : (t.extract i t.size).size = t.size - i := by rw [ByteArray.size_extract]; omega
    obtain ⟨s', hs'⟩ : ∃ s', s' = s.extract i s.size := ⟨_, rfl⟩
    obtain ⟨t', ht'⟩ : ∃ t', t' = t.extract i t.size := ⟨_, rfl⟩
    rw [← hs'] at hse
    rw [← ht'] at hte
    have g0 : ∀ (l : List Nat), (l.drop i).getD 0 0 = l.getD i 0 := fun l => by simp [List.getD]
    have hx0 : (bs s).getD i 0 = (bs s').getD 0 0 := by rw [hs', bs_from, g0]
    have hy0 : y = (bs t').getD 0 0 := by rw [ht', bs_from, g0]; exact hy
    obtain ⟨r, hr, hr128⟩ := decode_ge s' (by omega) _ hx0 h128
    have hnx := fun ty => run_next_any (P := Tryd.prog) w s' 0 ty (by omega)
    rw [hr] at hnx
    have BI : Hid (∀ p, Below w.heap.size w (w.iter s' p)) := fun p => (Below.refl _ _).alloc (Nat.le_refl _) _
    have NO : Hid (decide (lows (bs s) = lows (bs t)) = false) := Lib.hid (decide_eq_false (lows_no (by rw [bs_length]; exact hi) (by rw [bs_length]; omega) rfl hy (low_high h128 hy2)))
    have D : Hid (∀ w, Calls Tryd.prog 67 #[.string t'] w fun e w' => e = .returned (.tuple #[.int .i32 (y : Int), .int .i64 1]) ∧ w = w') := fun w => drune_ascii w t' y (by omega) hy0 hy2
    have F1 : Hid (∀ p, Calls Tryd.prog 68 #[.int .i32 (y : Int)] (w.iter s' p) fun e w' => e = .returned (.int .i32 (f : Int)) ∧ w.iter s' p = w') := fun p => sfold_any _ y hy2 (HE.out.on (BI.out p)) f hf
    have F2 : Hid (∀ p, Calls Tryd.prog 68 #[.int .i32 (f : Int)] (w.iter s' p) fun e w' => e = .returned (.int .i32 (y : Int)) ∧ w.iter s' p = w') := fun p => sfold_any _ f hf2 (HE.out.on (BI.out p)) y hff.symm
    have hry : ((y : Int) == (r : Int)) = false := int_ne (by omega)
    have hfr : ((f : Int) == (r : Int)) = false := int_ne (by omega)
    have ht0 : ((t'.size : Int) == 0) = false := int_ne (by omega)
    have hse2 : s'.size ≤ 1000 := by omega
    have hte1 : 1 ≤ t'.size := by omega
    have hte2 : t'.size ≤ 1000 := by omega
    have HS' := Lib.hid hs'; have HT' := Lib.hid ht'
    clear hy hf hff hse hte g0 hx0 hy0 hr h128 hs' ht'
    go_wp2_with fail
    rw [← HS'.out, ← HT'.out]
    clear HS' HT'
    refine wp_loop_rounds 1 ?_
    rw [rounds_succ]
    go_wp2_with (first | (go_at_call 67; refine (D.out _).mono ?_; rintro e w' ⟨rfl, rfl⟩) | (go_at_call 68; refine (F1.out _).mono ?_; rintro e w' ⟨rfl, rfl⟩))
    go_loopg [13] 2 (fun k z wr => (∃ p, w.iter s' p = wr) ∧ ((k = 2 ∧ z = .int .i32 (f : Int)) ∨ (k = 1 ∧ z = .int .i32 (y : Int))))
    case atStart => exact ⟨⟨_, rfl⟩, .inl ⟨rfl, rfl⟩⟩
    case round =>
      obtain ⟨⟨p, rfl⟩, hz⟩ := hrel
      rcases hz with ⟨rfl, rfl⟩ | ⟨rfl, rfl⟩
      · by_cases hfy : f = y
        · subst hfy
          go_wp2_with fail
          simp only [Exit.jump]
          go_ret
          exact ⟨by rw [NO.out]; rfl, BI.out _⟩
        · have n1 : ((f : Int) != (y : Int)) = true := int_neq (by omega)
          have n2 : ((f : Int) == (y : Int)) = false := int_ne (by omega)
          go_wp2_with (go_at_call 68; refine (F2.out _).mono ?_; rintro e w' ⟨rfl, rfl⟩)
          go_roundg 1
          case measure => omega
          case rel => exact ⟨⟨_, rfl⟩, .inr ⟨rfl, rfl⟩⟩
      · go_wp2_with fail
        simp only [Exit.jump]
        go_ret
        exact ⟨by rw [NO.out]; rfl, BI.out _⟩
end Go.Proofs.YtbgggeobpiaamaaDoor
