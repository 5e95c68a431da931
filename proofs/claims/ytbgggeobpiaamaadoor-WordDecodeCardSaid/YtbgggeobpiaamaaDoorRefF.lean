/- The reference: Find. -/
import Derived.Test.YtbgggeobpiaamaaDoorRefQ
import Derived.Test.YtbgggeobpiaamaaDoorFind
namespace Go.Proofs.YtbgggeobpiaamaaDoor
open Go.RowKit
set_option linter.unusedVariables false
set_option maxRecDepth 100000
/-- Where the search stands: at i, no token open, acc behind it. -/
def Tp (l : List Nat) (i : Nat) (acc : List (Nat × Nat)) : Prop := tkSt l i = (i, acc) ∨ (¬ (i < l.length ∧ blank (l.getD i 0) = false) ∧ tkSt l (i + 1) = (i + 1, acc))
theorem Tp.blank {l : List Nat} {i : Nat} {acc : List (Nat × Nat)} (h : Tp l i acc) (hb : Go.Proofs.YtbgggeobpiaamaaDoor.blank (l.getD i 0) = true) : Tp l (i + 1) acc := by
  rcases h with h | h
  · left; rw [tkSt_succ, h, tkStep_gap (by rw [hb]; simp) (by simp)]
  · left; exact h.2
theorem Tp.word {l : List Nat} {i : Nat} {acc : List (Nat × Nat)} (h : Tp l i acc) (hi : i < l.length) (hb : Go.Proofs.YtbgggeobpiaamaaDoor.blank (l.getD i 0) = false) : tkSt l i = (i, acc) := by
  rcases h with h | h
  · exact h
  · exact absurd ⟨hi, hb⟩ h.1
theorem Tp.done {l : List Nat} {i : Nat} {acc : List (Nat × Nat)} (h : Tp l i acc) (hi : i = l.length) : toks l = acc := by
  unfold toks
  subst hi
  rcases h with h | h
  · rw [tkSt_succ, h, tkStep_gap (by omega) (by simp)]
  · rw [h.2]
theorem Tp.next {l : List Nat} {i k : Nat} {acc : List (Nat × Nat)} (h : tkSt l k = (i, acc)) (hik : i < k) (hb : ¬ (k < l.length ∧ Go.Proofs.YtbgggeobpiaamaaDoor.blank (l.getD k 0) = false)) : Tp l k (acc ++ [(i, k)]) := by
  right
  refine ⟨hb, ?_⟩
  rw [tkSt_succ, h, tkStep_end hb (by simpa using hik)]
theorem infoRp : (Tryd.prog.info? 37).map (fun i => (i.zero, i.size, i.bytes)) = some (some (.agg #[.int .i64 0, .int .i64 0]), 2, 16) := by kernel_rfl
/-- The cells of places, of the reference. -/
def RfPost (l : List Nat) (w : World) (e : Ending) (w' : World) : Prop :=
  ∃ v, e = .returned v ∧ w'.ownsRow w.heap.size 37 2 v (findR l).length (plC (findR l)) ∧ Below w.heap.size w w'
theorem tk_len {l : List Nat} {i : Nat} {acc : List (Nat × Nat)} (h : Tp l i acc) (hi : i ≤ l.length) : acc.length ≤ i + 1 := by
  rcases h with h | h
  · have := (tkSt_inv l i (by omega)).2.1; rw [h] at this; simp only at this; omega
  · have := (tkSt_inv l (i + 1) (by omega)).2.1; rw [h.2] at this; simp only at this; omega
set_option maxHeartbeats 4000000 in
theorem rFind_any (s : ByteArray) (w : World) (hs : s.size ≤ 1000000) :
    Calls Tryd.prog 17 #[.string s] w (RfPost (bs s) w) := by
  by_cases hl : 16384 < s.size
  · have F0 : Hid (findR (bs s) = []) := Lib.hid (by unfold findR; rw [if_pos (by rw [bs_length]; exact hl)])
    go_enter Tryd.func17, Tryd.ntmps17
    go_wp2_with fail
    go_ret
    exact ⟨_, rfl, by rw [F0.out]; exact World.ownsRow_nil _ _ _ _, Below.refl _ _⟩
  · have F0 : Hid (findR (bs s) = (toks (bs s)).filter (okTok (bs s))) := Lib.hid (by unfold findR; rw [if_neg (by rw [bs_length]; exact hl)])
    have LN : Hid ((bs s).length = s.size) := Lib.hid (bs_length s)
    obtain ⟨i0, hi, hz0, hz1, hz2⟩ := info_parts infoRp
    go_enter Tryd.func17, Tryd.ntmps17
    go_wp2_with fail
    go_loopg [3, 4] s.size (fun k v3 v4 wr => ∃ (i : Nat) (acc : List (Nat × Nat)), i ≤ s.size ∧ k = s.size - i ∧ v4 = .int .i64 (i : Int) ∧ Hid (Tp (bs s) i acc) ∧ Hid (wr.ownsRow w.heap.size 37 2 v3 (acc.filter (okTok (bs s))).length (plC (acc.filter (okTok (bs s))))) ∧ Hid (Below w.heap.size w wr))
    case atStart => exact ⟨0, [], by omega, rfl, rfl, Lib.hid (.inl rfl), Lib.hid (World.ownsRow_nil _ _ _ _), Lib.hid (Below.refl _ _)⟩
    case round =>
      obtain ⟨i, acc, hi', rfl, rfl, HT, HO, HB⟩ := hrel
      by_cases hlt : i < s.size
      · obtain ⟨c, hc⟩ : ∃ c, c = (bs s).getD i 0 := ⟨_, rfl⟩
        have bc : c < 256 := by rw [hc]; exact bs_lt' s i
        have x0 := fun w => idx_q s w (i : Int) i rfl hlt c hc
        have BC := Lib.hid (fun w => blank_any w c bc)
        obtain ⟨b, hb⟩ : ∃ b, b = blank c := ⟨_, rfl⟩
        rw [← hb] at BC
        cases b
        rotate_left
        · have NX := Lib.hid (HT.out.blank (by rw [← hc]; exact hb.symm))
          clear hb hc
          go_wp2_with (go_at_call 35; refine (BC.out _).mono ?_; rintro e w' ⟨rfl, rfl⟩)
          go_roundg (s.size - (i + 1))
          case measure => omega
          case rel => exact ⟨i + 1, acc, by omega, rfl, by go_num, NX, HO, HB⟩
        · have T0 := Lib.hid (HT.out.word (by rw [LN.out]; exact hlt) (by rw [← hc]; exact hb.symm))
          have CB : Hid (blank ((bs s).getD i 0) = false) := Lib.hid (by rw [← hc]; exact hb.symm)
          have AL := tk_len HT.out (by rw [LN.out]; exact hi')
          clear hb hc
          go_wp2_with (go_at_call 35; refine (BC.out _).mono ?_; rintro e w' ⟨rfl, rfl⟩)
          go_loopg [5] (s.size - i) (fun n v5 wr => ∃ k : Nat, i ≤ k ∧ k ≤ s.size ∧ n = s.size - k ∧ v5 = .int .i64 (k : Int) ∧ Hid (tkSt (bs s) k = (i, acc)) ∧ Hid (wr.ownsRow w.heap.size 37 2 u3 (acc.filter (okTok (bs s))).length (plC (acc.filter (okTok (bs s))))) ∧ Hid (Below w.heap.size w wr))
          case atStart => exact ⟨i, Nat.le_refl _, by omega, rfl, rfl, T0, HO, HB⟩
          case round =>
            obtain ⟨k, hik, hks, rfl, rfl, HK, HO1, HB1⟩ := hrel
            clear HO HB x0 BC
            have fin : Hid (i < k) → Hid (¬ (k < (bs s).length ∧ blank ((bs s).getD k 0) = false)) → True := fun _ _ => trivial
            clear fin
            by_cases hkl : k < s.size
            · obtain ⟨d, hd⟩ : ∃ d, d = (bs s).getD k 0 := ⟨_, rfl⟩
              have bd : d < 256 := by rw [hd]; exact bs_lt' s k
              have x1 := fun w => idx_q s w (k : Int) k rfl hkl d hd
              have BD1 := Lib.hid (fun w => blank_any w d bd)
              obtain ⟨b, hb⟩ : ∃ b, b = blank d := ⟨_, rfl⟩
              rw [← hb] at BD1
              cases b
              · have NX : Hid (tkSt (bs s) (k + 1) = (i, acc)) := Lib.hid (by rw [tkSt_succ, HK.out, tkStep_in (by rw [LN.out]; exact hkl) (by rw [← hd]; exact hb.symm)])
                clear hb hd
                go_wp2_with (go_at_call 35; refine (BD1.out _).mono ?_; rintro e w' ⟨rfl, rfl⟩)
                go_roundg (s.size - (k + 1))
                case measure => omega
                case rel => exact ⟨k + 1, by omega, by omega, rfl, by go_num, NX, HO1, HB1⟩
              · have ST : Hid (¬ (k < (bs s).length ∧ blank ((bs s).getD k 0) = false)) := Lib.hid (fun c => by rw [← hd, ← hb] at c; exact absurd c.2 (by decide))
                clear hb hd
                have hik2 : i < k := by
                  rcases Nat.lt_or_ge i k with h | h
                  · exact h
                  · exact absurd ⟨by rw [LN.out]; omega, by rw [show k = i by omega]; exact CB.out⟩ ST.out
                have NX := Lib.hid (Tp.next HK.out hik2 ST.out)
                have PC : Hid (∀ w', Below w.heap.size w w' → Calls Tryd.prog 36 #[.string (s.extract i k)] w' (ParsePost (cut (bs s) i k) w')) := Lib.hid (fun w' hb => by
                  have := rParse_any (s.extract i k) w' (by rw [ByteArray.size_extract]; omega)
                  rw [bs_extract] at this
                  exact this)
                unfold ParsePost at PC
                obtain ⟨m, hm⟩ : ∃ m, m = parseR (cut (bs s) i k) := ⟨_, rfl⟩
                have OK : Hid (okTok (bs s) (i, k) = decide (m.2.2 = 0)) := Lib.hid (by rw [hm]; rfl)
                rw [← hm] at PC
                clear hm
                have FL : (acc.filter (okTok (bs s))).length ≤ i + 1 := Nat.le_trans (List.length_filter_le _ _) AL
                obtain ⟨fs, hfs⟩ : ∃ fs, fs = acc.filter (okTok (bs s)) := ⟨_, rfl⟩
                rw [← hfs] at FL HO1
                have FZ := Lib.hid hfs
                clear hfs
                by_cases m0 : m.2.2 = 0
                · have HIT : Hid ((acc ++ [(i, k)]).filter (okTok (bs s)) = fs ++ [(i, k)]) := Lib.hid (by rw [FZ.out, List.filter_append]; simp [OK.out, m0])
                  have q0 : ((m.2.2 : Int) == 0) = true := int_eq (by omega)
                  go_wp2_with (first | (go_at_call 35; refine (BD1.out _).mono ?_; rintro e w' ⟨rfl, rfl⟩) | (go_at_call 36; refine (PC.out _ HB1.out).mono ?_; rintro e w1 ⟨rfl, hb1⟩; have O1 := Lib.hid (owns_below HO1.out hb1); have B1 : Hid (Below w.heap.size w w1) := Lib.hid (HB1.out.trans (hb1.mono HB1.out.size)); clear hb1) | (at_builtin; refine wpList_append_own _ rfl _ _ _ rfl w.heap.size 37 i0 _ 2 16 Tryd.underlying33 hi hz0 hz1 hz2 rfl (by omega) u3 _ _ rfl (O1.out.alloc _) ⟨w1.heap.size, 0, none⟩ 1 1 [.int .i64 (i : Int), .int .i64 (k : Int)] rfl rfl (World.news_of_block (cs := #[.int .i64 (i : Int), .int .i64 (k : Int)]) (t := 37) (fr := (0, 0)) (heap_alloc_new w1 _)) (by simp [Value.oneCell']) (by unfold maxLen; omega) (by omega) (by have := B1.out.size; simp; omega) ?_; intro v' w2 hown2 hgrow _))
                  have F1 : Hid (w2.ownsRow w.heap.size 37 2 v' ((acc ++ [(i, k)]).filter (okTok (bs s))).length (plC ((acc ++ [(i, k)]).filter (okTok (bs s))))) := Lib.hid (by rw [HIT.out, plC_snoc, List.length_append]; exact hown2)
                  have F2 : Hid (Below w.heap.size w w2) := Lib.hid (Below.grown (B1.out.alloc B1.out.size _) hgrow (by have := B1.out.size; simp; omega) (fun k hk => (O1.out.lt k hk).1))
                  clear hown2 hgrow
                  go_wp2_with fail
                  go_roundg (s.size - k)
                  case measure => omega
                  case rel => exact ⟨k, _, hks, rfl, by go_num, NX, F1, F2⟩
                · have MISS : Hid ((acc ++ [(i, k)]).filter (okTok (bs s)) = fs) := Lib.hid (by rw [FZ.out, List.filter_append]; simp [OK.out, m0])
                  have q0 : ((m.2.2 : Int) == 0) = false := int_ne (by omega)
                  go_wp2_with (first | (go_at_call 35; refine (BD1.out _).mono ?_; rintro e w' ⟨rfl, rfl⟩) | (go_at_call 36; refine (PC.out _ HB1.out).mono ?_; rintro e w1 ⟨rfl, hb1⟩; have O1 := Lib.hid (owns_below HO1.out hb1); have B1 : Hid (Below w.heap.size w w1) := Lib.hid (HB1.out.trans (hb1.mono HB1.out.size)); clear hb1))
                  go_roundg (s.size - k)
                  case measure => omega
                  case rel => exact ⟨k, _, hks, rfl, by go_num, NX, Lib.hid (by rw [MISS.out]; exact O1.out), B1⟩
            · have ST : Hid (¬ (k < (bs s).length ∧ blank ((bs s).getD k 0) = false)) := Lib.hid (fun c => hkl (by have := c.1; rw [LN.out] at this; exact this))
              have hik2 : i < k := by
                rcases Nat.lt_or_ge i k with h | h
                · exact h
                · exact absurd ⟨by rw [LN.out]; omega, by rw [show k = i by omega]; exact CB.out⟩ ST.out
              have NX := Lib.hid (Tp.next HK.out hik2 ST.out)
              have PC : Hid (∀ w', Below w.heap.size w w' → Calls Tryd.prog 36 #[.string (s.extract i k)] w' (ParsePost (cut (bs s) i k) w')) := Lib.hid (fun w' hb => by
                have := rParse_any (s.extract i k) w' (by rw [ByteArray.size_extract]; omega)
                rw [bs_extract] at this
                exact this)
              unfold ParsePost at PC
              obtain ⟨m, hm⟩ : ∃ m, m = parseR (cut (bs s) i k) := ⟨_, rfl⟩
              have OK : Hid (okTok (bs s) (i, k) = decide (m.2.2 = 0)) := Lib.hid (by rw [hm]; rfl)
              rw [← hm] at PC
              clear hm
              have FL : (acc.filter (okTok (bs s))).length ≤ i + 1 := Nat.le_trans (List.length_filter_le _ _) AL
              obtain ⟨fs, hfs⟩ : ∃ fs, fs = acc.filter (okTok (bs s)) := ⟨_, rfl⟩
              rw [← hfs] at FL HO1
              have FZ := Lib.hid hfs
              clear hfs
              by_cases m0 : m.2.2 = 0
              · have HIT : Hid ((acc ++ [(i, k)]).filter (okTok (bs s)) = fs ++ [(i, k)]) := Lib.hid (by rw [FZ.out, List.filter_append]; simp [OK.out, m0])
                have q0 : ((m.2.2 : Int) == 0) = true := int_eq (by omega)
                go_wp2_with (first | (go_at_call 36; refine (PC.out _ HB1.out).mono ?_; rintro e w1 ⟨rfl, hb1⟩; have O1 := Lib.hid (owns_below HO1.out hb1); have B1 : Hid (Below w.heap.size w w1) := Lib.hid (HB1.out.trans (hb1.mono HB1.out.size)); clear hb1) | (at_builtin; refine wpList_append_own _ rfl _ _ _ rfl w.heap.size 37 i0 _ 2 16 Tryd.underlying33 hi hz0 hz1 hz2 rfl (by omega) u3 _ _ rfl (O1.out.alloc _) ⟨w1.heap.size, 0, none⟩ 1 1 [.int .i64 (i : Int), .int .i64 (k : Int)] rfl rfl (World.news_of_block (cs := #[.int .i64 (i : Int), .int .i64 (k : Int)]) (t := 37) (fr := (0, 0)) (heap_alloc_new w1 _)) (by simp [Value.oneCell']) (by unfold maxLen; omega) (by omega) (by have := B1.out.size; simp; omega) ?_; intro v' w2 hown2 hgrow _))
                have F1 : Hid (w2.ownsRow w.heap.size 37 2 v' ((acc ++ [(i, k)]).filter (okTok (bs s))).length (plC ((acc ++ [(i, k)]).filter (okTok (bs s))))) := Lib.hid (by rw [HIT.out, plC_snoc, List.length_append]; exact hown2)
                have F2 : Hid (Below w.heap.size w w2) := Lib.hid (Below.grown (B1.out.alloc B1.out.size _) hgrow (by have := B1.out.size; simp; omega) (fun k hk => (O1.out.lt k hk).1))
                clear hown2 hgrow
                go_wp2_with fail
                go_roundg (s.size - k)
                case measure => omega
                case rel => exact ⟨k, _, hks, rfl, by go_num, NX, F1, F2⟩
              · have MISS : Hid ((acc ++ [(i, k)]).filter (okTok (bs s)) = fs) := Lib.hid (by rw [FZ.out, List.filter_append]; simp [OK.out, m0])
                have q0 : ((m.2.2 : Int) == 0) = false := int_ne (by omega)
                go_wp2_with (first | (go_at_call 36; refine (PC.out _ HB1.out).mono ?_; rintro e w1 ⟨rfl, hb1⟩; have O1 := Lib.hid (owns_below HO1.out hb1); have B1 : Hid (Below w.heap.size w w1) := Lib.hid (HB1.out.trans (hb1.mono HB1.out.size)); clear hb1))
                go_roundg (s.size - k)
                case measure => omega
                case rel => exact ⟨k, _, hks, rfl, by go_num, NX, Lib.hid (by rw [MISS.out]; exact O1.out), B1⟩
      · have FE : Hid (findR (bs s) = acc.filter (okTok (bs s))) := Lib.hid (by rw [F0.out, HT.out.done (by rw [LN.out]; omega)])
        go_wp2_with fail
        go_ret
        exact ⟨_, rfl, by rw [FE.out]; exact HO.out, HB.out⟩
end Go.Proofs.YtbgggeobpiaamaaDoor
