/- Plain: the library's texts functions and this seat's: split, join, cut, decimal digits. -/
import Derived.Lib.Split
import Derived.Lib.SplitLaws
import Derived.Lib.Join
import Derived.Lib.IndexBytes
import Derived.Lib.ItoaMem
import Derived.Test.YtohmdledkhgdaaaGreatDoorLo07
namespace Go.Proofs.YtohmdledkhgdaaaGreatDoor
set_option linter.unusedVariables false
theorem u8_inj {a b : UInt8} (h : a.toNat = b.toNat) : a = b := UInt8.toNat_inj.1 h
theorem splitK_spl (c : UInt8) : ∀ l : List UInt8, (Lib.splitK [c] 0 (Lib.count l [c]) l).map (fun p => p.map UInt8.toNat) = spl c.toNat (l.map UInt8.toNat)
  | [] => by rw [Lib.count_miss (by simp [Lib.index])]; rfl
  | b :: l => by
    have ih := splitK_spl c l
    by_cases h : b = c
    · subst h
      have hix : Lib.index (b :: l) [b] = 0 := by rw [Lib.index]; simp [List.isPrefixOf]
      rw [Lib.count_cons_eq, Nat.add_comm, Lib.splitK, hix]
      simp only [List.map_cons, spl, if_true]
      rw [← ih]
      simp
    · have h' : ¬ b.toNat = c.toNat := fun e => h (u8_inj e)
      rw [Lib.count_cons_ne b c l h]
      simp only [List.map_cons, spl, if_neg h']
      rw [← ih]
      have hix : Lib.index (b :: l) [c] = if Lib.index l [c] == -1 then -1 else Lib.index l [c] + 1 := by rw [Lib.index]; simp [List.isPrefixOf, Ne.symm h]
      cases hn : Lib.count l [c] with
      | zero => rfl
      | succ k =>
        have hne : Lib.index l [c] ≠ -1 := fun e => by rw [Lib.count_miss e] at hn; omega
        have hge := Lib.index_ge l [c]
        obtain ⟨j, hj⟩ : ∃ j : Nat, Lib.index l [c] = j := ⟨(Lib.index l [c]).toNat, by omega⟩
        have e1 : (Lib.index l [c] == -1) = false := beq_eq_false_iff_ne.2 hne
        rw [hj] at hix e1
        rw [e1] at hix
        simp only [Lib.splitK, hix, hj, e1]
        have e2 : (((j : Int) + 1) == -1) = false := beq_eq_false_iff_ne.2 (by omega)
        have e3 : ((j : Int) + 1).toNat = j + 1 := by omega
        simp [e2, e3]
theorem joinF_cons (sep : List Nat) : ∀ (r : List (List Nat)) (x : List Nat), joinF sep (x :: r) = x ++ (r.map (sep ++ ·)).flatten
  | [], x => by simp [joinF]
  | y :: r, x => by rw [joinF, joinF_cons sep r y]; simp
theorem join_joinF (sep : List UInt8) (xs : List (List UInt8)) : (Lib.join xs sep).map UInt8.toNat = joinF (sep.map UInt8.toNat) (xs.map fun x => x.map UInt8.toNat) := by
  cases xs with
  | nil => rfl
  | cons x r =>
    rw [Lib.join_cons, List.map_cons, joinF_cons, List.map_append]
    congr 1
    induction r with
    | nil => rfl
    | cons y r ih => simp only [Lib.joinTail, List.map_cons, List.flatten_cons, List.map_append] at ih ⊢; rw [ih]
theorem dec_digN : ∀ (k u : Nat), u < 10 ^ (k + 1) → (Lib.decDigits u).map UInt8.toNat = digN k u
  | 0, u, h => by
    have h : u < 10 := by simpa using h
    rw [Lib.decDigits_one h]
    simp only [digN, List.map_cons, List.map_nil, List.cons.injEq, and_true]
    rw [UInt8.toNat_ofNat']; omega
  | k + 1, u, h => by
    by_cases h1 : u < 10
    · rw [Lib.decDigits_one h1, digN, if_pos h1]
      simp only [List.map_cons, List.map_nil, List.cons.injEq, and_true]
      rw [UInt8.toNat_ofNat']; omega
    · rw [Lib.decDigits, dif_neg h1, digN, if_neg h1, List.map_append, dec_digN k (u / 10) (by rw [Nat.pow_succ] at h; omega)]
      simp only [List.map_cons, List.map_nil]
      rw [UInt8.toNat_ofNat']
      congr 2; omega
theorem itoa_digI (n : Int) (h0 : -9223372036854775808 ≤ n) (h1 : n ≤ 9223372036854775807) : (Lib.itoa n).map UInt8.toNat = digI n := by
  unfold Lib.itoa digI
  split
  · rw [List.map_cons, dec_digN 20 _ (by omega)]; rfl
  · rw [dec_digN 20 _ (by omega)]
/-- Where a text is cut. -/
theorem indexByte_none {c : UInt8} : ∀ {l : List UInt8}, Lib.indexByte l c = -1 → (l.map UInt8.toNat).takeWhile (fun x => !decide (x = c.toNat)) = l.map UInt8.toNat
  | [], _ => rfl
  | b :: l, h => by
    rw [Lib.indexByte] at h
    by_cases hb : b = c
    · simp [hb] at h
    · have h' : ¬ b.toNat = c.toNat := fun e => hb (u8_inj e)
      have e2 : (b == c) = false := beq_eq_false_iff_ne.2 hb
      rw [e2] at h
      by_cases h3 : Lib.indexByte l c = -1
      · rw [List.map_cons, List.takeWhile_cons, decide_eq_false h']
        simp only [Bool.not_false, if_true]
        rw [indexByte_none h3]
      · have hge := Lib.index_ge l [c]
        rw [Lib.index_one] at hge
        have e3 : (Lib.indexByte l c == -1) = false := beq_eq_false_iff_ne.2 h3
        rw [e3] at h
        simp at h
        omega
theorem indexByte_some {c : UInt8} : ∀ {l : List UInt8} {i : Nat}, Lib.indexByte l c = i → (l.map UInt8.toNat).takeWhile (fun x => !decide (x = c.toNat)) = (l.map UInt8.toNat).take i ∧ i < l.length ∧ (l.map UInt8.toNat).dropWhile (fun x => !decide (x = c.toNat)) = (l.map UInt8.toNat).drop i
  | [], i, h => by rw [Lib.indexByte] at h; omega
  | b :: l, i, h => by
    rw [Lib.indexByte] at h
    by_cases hb : b = c
    · rw [hb] at h ⊢
      simp at h
      have : i = 0 := by omega
      subst this
      simp
    · have h' : ¬ b.toNat = c.toNat := fun e => hb (u8_inj e)
      have e2 : (b == c) = false := beq_eq_false_iff_ne.2 hb
      rw [e2] at h
      by_cases h3 : Lib.indexByte l c = -1
      · rw [h3] at h; simp at h
      · have hge := Lib.index_ge l [c]
        rw [Lib.index_one] at hge
        have e3 : (Lib.indexByte l c == -1) = false := beq_eq_false_iff_ne.2 h3
        rw [e3] at h
        simp at h
        obtain ⟨j, rfl⟩ : ∃ j, i = j + 1 := ⟨i - 1, by omega⟩
        obtain ⟨a1, a2, a3⟩ := indexByte_some (c := c) (l := l) (i := j) (by omega)
        rw [List.map_cons, List.takeWhile_cons, List.dropWhile_cons, decide_eq_false h']
        simp only [Bool.not_false, if_true]
        rw [a1, a3]
        exact ⟨rfl, by simpa using a2, rfl⟩
end Go.Proofs.YtohmdledkhgdaaaGreatDoor
/- strings.Cut at one byte. -/
namespace Go.Proofs.YtohmdledkhgdaaaGreatDoor
open Go.RowKit
set_option linter.unusedVariables false
set_option maxRecDepth 100000
/-- A text up to the first byte c. -/
def upto (c : Nat) (l : List Nat) : List Nat := l.takeWhile fun x => !decide (x = c)
def CutPost (c : Nat) (t : ByteArray) (w : World) (e : Ending) (w' : World) : Prop :=
  ∃ (x y : ByteArray) (b : Bool), e = .returned (.tuple #[.string x, .string y, .bool b]) ∧ bs x = upto c (bs t) ∧ bs y = (bs t).drop ((upto c (bs t)).length + 1) ∧ b = decide ((upto c (bs t)).length < (bs t).length) ∧ x.size ≤ t.size ∧ Dr w w'
theorem bs_mk (l : List UInt8) : bs ⟨l.toArray⟩ = l.map UInt8.toNat := by simp [bs]
theorem cut_any (t : ByteArray) (c : UInt8) (w : World) (hs : t.size < 4294967281) (hm : ∃ m, w.cell? ⟨2, 0, none⟩ = some (.int .i64 m)) :
    Calls Tryz.prog 67 #[.string t, .string ⟨#[c]⟩] w (CutPost c.toNat t w) := by
  obtain ⟨m, hm⟩ := hm
  refine (lb_strings_Cut t ⟨#[c]⟩ m w hs hm).mono fun e w' ⟨h1, q, h2⟩ => ?_
  refine ⟨_, _, _, h1, ?_, ?_, ?_, ?_, ⟨q, h2⟩⟩
  all_goals
    have e0 : (⟨#[c]⟩ : ByteArray).data.toList = [c] := rfl
    have hix := Lib.index_one t.data.toList c
    unfold Lib.cut
    rw [e0, hix]
    by_cases h : Lib.indexByte t.data.toList c = -1
    · have hn := indexByte_none h
      rw [h]
      simp only [show ¬ (0 : Int) ≤ -1 by decide, if_false]
      have hu : upto c.toNat (bs t) = bs t := hn
      first
        | (rw [bs_mk]; exact hu.symm)
        | (rw [bs_mk, hu, List.drop_of_length_le (by omega)]; rfl)
        | (rw [hu]; simp)
        | exact Nat.le_refl _
    · have hge := Lib.index_ge t.data.toList [c]
      rw [hix] at hge
      obtain ⟨i, hi⟩ : ∃ i : Nat, Lib.indexByte t.data.toList c = i := ⟨(Lib.indexByte t.data.toList c).toNat, by omega⟩
      obtain ⟨h3, h4, h5⟩ := indexByte_some hi
      rw [hi]
      have hl : t.data.toList.length = (bs t).length := by simp [bs]
      have hu : upto c.toNat (bs t) = (bs t).take i := h3
      have hul : (upto c.toNat (bs t)).length = i := by rw [hu, List.length_take]; omega
      simp only [show (0 : Int) ≤ (i : Int) from Int.natCast_nonneg i, if_true, Int.toNat_natCast, List.length_singleton]
      first
        | (rw [bs_mk, hu, List.map_take]; rfl)
        | (rw [bs_mk, hul, List.map_drop]; rfl)
        | (rw [hul]; simp; omega)
        | (rw [← bs_length, bs_mk, ← bs_length]; simp [bs]; omega)
theorem hasPre1 (l : List UInt8) : Lib.hasPrefix l [32] = decide ((l.map UInt8.toNat).head? = some 32) := by
  cases l with
  | nil => rfl
  | cons a l =>
    simp only [Lib.hasPrefix, List.map_cons, List.head?_cons]
    rw [Bool.eq_iff_iff]
    simp [List.isPrefixOf]
    constructor
    · intro h; rw [← h]; rfl
    · intro h; exact (u8_inj h).symm
theorem hasSuf1 (l : List UInt8) : Lib.hasSuffix l [32] = decide ((l.map UInt8.toNat).getLast? = some 32) := by
  rw [Bool.eq_iff_iff]
  simp only [Lib.hasSuffix, decide_eq_true_eq]
  rcases List.eq_nil_or_concat l with rfl | ⟨t, a, rfl⟩
  · simp [List.isSuffixOf]
  · simp [List.isSuffixOf, List.isPrefixOf]
    constructor
    · intro h; rw [← h]; rfl
    · intro h; exact (u8_inj h).symm
theorem index2 : ∀ l : List UInt8, (Lib.index l [32, 32] = -1 ↔ dbl (l.map UInt8.toNat) = false)
  | [] => by simp [Lib.index, dbl]
  | [b] => by simp [Lib.index, dbl, List.isPrefixOf]
  | a :: b :: t => by
    have ih := index2 (b :: t)
    have hge := Lib.index_ge (b :: t) [32, 32]
    rw [Lib.index]
    simp only [List.map_cons, dbl] at ih ⊢
    by_cases h : a = 32 ∧ b = 32
    · obtain ⟨rfl, rfl⟩ := h; simp [List.isPrefixOf]
    · have e1 : ([32, 32].isPrefixOf (a :: b :: t)) = false := by
        rw [Bool.eq_false_iff]; intro e; simp [List.isPrefixOf] at e; exact h ⟨e.1.symm, e.2.symm⟩
      have e2 : (decide (a.toNat = 32) && decide (b.toNat = 32)) = false := by
        rw [Bool.eq_false_iff]; intro e; simp at e; exact h ⟨u8_inj e.1, u8_inj e.2⟩
      rw [e1, e2]
      simp only [Bool.false_or, Bool.false_eq_true, if_false]
      rw [← ih]
      by_cases h3 : Lib.index (b :: t) [32, 32] = -1
      · simp [h3]
      · have e3 : (Lib.index (b :: t) [32, 32] == -1) = false := beq_eq_false_iff_ne.2 h3
        rw [e3]; simp only [Bool.false_eq_true, if_false]
        constructor <;> intro h4 <;> omega
theorem cont2 (l : List UInt8) : Lib.contains l [32, 32] = dbl (l.map UInt8.toNat) := by
  unfold Lib.contains
  have hge := Lib.index_ge l [32, 32]
  have := index2 l
  cases hd : dbl (l.map UInt8.toNat)
  · rw [this.2 hd]; rfl
  · rw [hd] at this; simp at this
    simp; omega
theorem sqz_any (s : ByteArray) (w : World) (hs : s.size ≤ 1000000) (hE : Env w) :
    Calls Tryz.prog 101 #[.string s] w fun e w' => e = .returned (.bool (sqz (bs s))) ∧ w = w' := by
  obtain ⟨m, hm⟩ := hE.mx
  have P1 := Lib.hid (fun w => lb_strings_HasPrefix s ⟨#[32]⟩ w)
  have P2 := Lib.hid (fun w => lb_strings_HasSuffix s ⟨#[32]⟩ w (by omega))
  have P3 := Lib.hid (lb_strings_Contains s ⟨#[32, 32]⟩ m w (by omega) hm)
  rw [show (⟨#[32]⟩ : ByteArray).data.toList = [32] from rfl, hasPre1] at P1
  rw [show (⟨#[32]⟩ : ByteArray).data.toList = [32] from rfl, hasSuf1] at P2
  rw [show (⟨#[32, 32]⟩ : ByteArray).data.toList = [32, 32] from rfl, cont2] at P3
  have S : Hid (sqz (bs s) = (!decide ((bs s).head? = some 32) && !decide ((bs s).getLast? = some 32) && !dbl (bs s))) := Lib.hid rfl
  obtain ⟨a, ha⟩ : ∃ a, a = decide ((bs s).head? = some 32) := ⟨_, rfl⟩
  obtain ⟨b, hb⟩ : ∃ b, b = decide ((bs s).getLast? = some 32) := ⟨_, rfl⟩
  obtain ⟨c, hc⟩ : ∃ c, c = dbl (bs s) := ⟨_, rfl⟩
  rw [← ha, ← hb, ← hc] at S
  have P1' : Hid (∀ w, Calls Tryz.prog 26 #[.string s, .string ⟨#[32]⟩] w fun e w' => e = .returned (.bool a) ∧ w' = w) := Lib.hid (by rw [ha]; exact P1.out)
  have P2' : Hid (∀ w, Calls Tryz.prog 21 #[.string s, .string ⟨#[32]⟩] w fun e w' => e = .returned (.bool b) ∧ w' = w) := Lib.hid (by rw [hb]; exact P2.out)
  have P3' : Hid (Calls Tryz.prog 144 #[.string s, .string ⟨#[32, 32]⟩] w fun e w' => e = .returned (.bool c) ∧ w' = w) := Lib.hid (by rw [hc]; exact P3.out)
  clear P1 P2 P3 ha hb hc hm hE
  cases a <;> cases b
  all_goals
    go_enter Tryz.func101, Tryz.ntmps101
    go_wp2_with (first
      | (go_at_call 26; refine (P1'.out _).mono ?_; rintro e w' ⟨rfl, h⟩; cases h)
      | (go_at_call 21; refine (P2'.out _).mono ?_; rintro e w' ⟨rfl, h⟩; cases h)
      | (go_at_call 144; refine P3'.out.mono ?_; rintro e w' ⟨rfl, h⟩; cases h))
    go_ret
    exact ⟨by rw [S.out]; cases c <;> rfl, rfl⟩
set_option maxHeartbeats 400000 in
theorem text_any (w : World) (b n : Nat) (h : Ck w b n) (s : ByteArray) (most : Nat) (hs : s.size ≤ 1000000) (hmost : most ≤ 1000000) (hE : Env w) (h9 : 9 ≤ b) :
    Calls Tryz.prog 58 #[.pointer (some ⟨b, 0, none⟩), .string s, .int .i64 (most : Int)] w (ChkPost w b (fe n (textF (bs s) most))) := by
  have W := Lib.hid (when_any w b n h (decide (most < s.size)) 5)
  have LT : Hid (most < s.size ↔ most < (bs s).length) := Lib.hid (by rw [bs_length])
  have FR9 : Hid (∀ w', Fr1 b w w' → Env w') := Lib.hid (fun w' hf => hE.below (hf.below (Nat.le_trans (by decide) hE.size) h9) (Nat.le_refl _))
  obtain ⟨q, hq⟩ : ∃ q, q = decide (most < s.size) := ⟨_, rfl⟩
  have T : Hid (textF (bs s) most = fe (eIf q 5) (fe (eIf (!good false (bs s)) 6) (eIf (!sqz (bs s)) 3))) := Lib.hid (by rw [hq]; unfold textF; simp only [bs_length])
  have dq : decide ((most : Int) < (s.size : Int)) = q := by rw [hq]; simp
  have dq2 : decide (most < s.size) = q := hq.symm
  rw [← hq] at W
  clear h hE hq
  go_enter Tryz.func58, Tryz.ntmps58
  go_wp2_with fail
  refine W.out.mono ?_
  rintro e w1 ⟨⟨v, rfl⟩, h1, f1⟩
  have P := Lib.hid (uprint_any s w1 (by unfold maxLen; omega))
  have H1 := Lib.hid h1; have F1 := Lib.hid f1
  clear h1 f1 W dq dq2
  go_wp2_with fail
  refine P.out.mono ?_
  rintro e w2 ⟨rfl, hb2⟩
  have F2 := Lib.hid (F1.out.trans (Fr1.of_below hb2))
  have W2 := Lib.hid (when_any w2 b _ (H1.out.below hb2) (!good false (bs s)) 6)
  obtain ⟨g, hg⟩ : ∃ g, g = good false (bs s) := ⟨_, rfl⟩
  rw [← hg] at W2 T ⊢
  clear hb2 hg P
  go_wp2_with fail
  refine W2.out.mono ?_
  rintro e w3 ⟨⟨v, rfl⟩, h3, f3⟩
  have F3 := Lib.hid (F2.out.trans f3)
  have S := Lib.hid (sqz_any s w3 hs (FR9.out _ F3.out))
  have W3 := Lib.hid (when_any w3 b _ h3 (!sqz (bs s)) 3)
  obtain ⟨k, hk⟩ : ∃ k, k = sqz (bs s) := ⟨_, rfl⟩
  rw [← hk] at W3 T S
  clear h3 f3 hk W2
  go_wp2_with (go_at_call 101; refine S.out.mono ?_; rintro e w' ⟨rfl, rfl⟩)
  refine W3.out.mono ?_
  rintro e w4 ⟨⟨v, rfl⟩, h4, f4⟩
  have H4 := Lib.hid h4; have F4 := Lib.hid (F3.out.trans f4)
  clear h4 f4 W3 S
  go_wp2_with fail
  go_end0
  refine ⟨⟨_, rfl⟩, ?_, F4.out⟩
  have e : fe n (textF (bs s) most) = fe (fe (fe n (eIf q 5)) (eIf (!g) 6)) (eIf (!k) 3) := by
    rw [T.out]
    unfold fe
    by_cases hn : n = 0
    · subst hn; cases q <;> simp [eIf]
    · simp [hn]
  rw [e]
  exact H4.out
theorem islow_any (w : World) (c : Nat) (hc : c < 256) : Calls Tryz.prog 104 #[.int .u8 (c : Int)] w fun e w' => e = .returned (.bool (low c)) ∧ w = w' := by
  obtain ⟨b, hb⟩ : ∃ b, b = low c := ⟨_, rfl⟩
  rw [← hb]
  have HB := Lib.hid hb
  clear hb
  rcases (by omega : c < 97 ∨ (97 ≤ c ∧ c ≤ 122) ∨ 122 < c) with h | ⟨h, h2⟩ | h
  all_goals
    go_enter Tryz.func104, Tryz.ntmps104
    go_wp2_with fail
    go_ret
    exact ⟨ret_bool (by rw [HB.out, Bool.eq_iff_iff]; simp [low]; try omega), rfl⟩
theorem isdig_any (w : World) (c : Nat) (hc : c < 256) : Calls Tryz.prog 105 #[.int .u8 (c : Int)] w fun e w' => e = .returned (.bool (dig c)) ∧ w = w' := by
  obtain ⟨b, hb⟩ : ∃ b, b = dig c := ⟨_, rfl⟩
  rw [← hb]
  have HB := Lib.hid hb
  clear hb
  rcases (by omega : c < 48 ∨ (48 ≤ c ∧ c ≤ 57) ∨ 57 < c) with h | ⟨h, h2⟩ | h
  all_goals
    go_enter Tryz.func105, Tryz.ntmps105
    go_wp2_with fail
    go_ret
    exact ⟨ret_bool (by rw [HB.out, Bool.eq_iff_iff]; simp [dig]; try omega), rfl⟩
def dsB (c : Nat) : Bool := !low c && !dig c && !decide (c = 45)
theorem any_take_succ {p : Nat → Bool} {l : List Nat} {k c : Nat} (hk : k < l.length) (hc : c = l.getD k 0) : (l.take (k + 1)).any p = ((l.take k).any p || p c) := by
  rw [List.getD_eq_getElem?_getD, List.getElem?_eq_getElem hk, Option.getD_some] at hc
  rw [List.take_succ_eq_append_getElem hk, List.any_append, ← hc]; simp
theorem fe_eif (n : Nat) (p q : Bool) (e : Nat) : fe (fe n (eIf p e)) (eIf q e) = fe n (eIf (p || q) e) := by
  unfold fe eIf; by_cases h : n = 0 <;> by_cases h2 : e = 0 <;> cases p <;> cases q <;> simp [h, h2]
theorem fe_assoc (a b c : Nat) : fe (fe a b) c = fe a (fe b c) := by unfold fe; split <;> simp_all
theorem fe_zero (n : Nat) : fe n 0 = n := by unfold fe; split <;> simp_all
set_option maxHeartbeats 1000000 in
theorem dist_any (w : World) (b n : Nat) (h : Ck w b n) (s : ByteArray) (hs : s.size ≤ 1000000) :
    Calls Tryz.prog 62 #[.pointer (some ⟨b, 0, none⟩), .string s] w (ChkPost w b (fe n (distF (bs s)))) := by
  obtain ⟨q, hq⟩ : ∃ q, q = decide (20 < s.size) := ⟨_, rfl⟩
  have W := Lib.hid (when_any w b n h q 5)
  have T : Hid (distF (bs s) = fe (eIf q 5) (eIf ((bs s).any dsB) 6)) := Lib.hid (by rw [hq]; unfold distF; simp only [bs_length]; rfl)
  have dq : decide ((20 : Int) < (s.size : Int)) = q := by rw [hq]; simp; omega
  clear h hq
  go_enter Tryz.func62, Tryz.ntmps62
  go_wp2_with fail
  refine W.out.mono ?_
  rintro e w1 ⟨⟨v, rfl⟩, h1, f1⟩
  obtain ⟨m, hm⟩ : ∃ m, m = fe n (eIf q 5) := ⟨_, rfl⟩
  rw [← hm] at h1
  have HM := Lib.hid hm
  have H1 := Lib.hid h1; have F1 := Lib.hid f1
  clear h1 f1 W dq hm
  go_wp2_with fail
  go_loopg [4, 12] s.size (fun k c i wr => ∃ j : Nat, j ≤ s.size ∧ k = s.size - j ∧ i = .int .i64 (j : Int) ∧ Hid (Ck wr b (fe m (eIf (((bs s).take j).any dsB) 6)) ∧ Fr1 b w wr))
  case atStart => exact ⟨0, by omega, rfl, rfl, Lib.hid ⟨by simp [eIf, fe_zero]; exact H1.out, F1.out⟩⟩
  case round =>
    obtain ⟨j, hj, rfl, rfl, hr⟩ := hrel
    by_cases hlt : j < s.size
    · obtain ⟨c, hc⟩ : ∃ c, c = (bs s).getD j 0 := ⟨_, rfl⟩
      have hc2 : c < 256 := by rw [hc]; exact bs_lt' s j
      have xn : ∀ w, (Instr.index 9 (.string s) (.int .i64 (j : Int))).run Tryz.prog w = .ok (.int .u8 (c : Int)) w := fun w => by rw [idx_str 9 Tryz.underlying9 s .i64 j j rfl hlt, hc]
      have ST : Hid (((bs s).take (j + 1)).any dsB = (((bs s).take j).any dsB || dsB c)) := Lib.hid (any_take_succ (by rw [bs_length]; exact hlt) hc)
      have L := Lib.hid (fun w => islow_any w c hc2)
      have D := Lib.hid (fun w => isdig_any w c hc2)
      have X : Hid (dsB c = (!low c && !dig c && !decide (c = 45))) := Lib.hid rfl
      have N45 : Hid (((c : Int) != 45) = !decide (c = 45)) := Lib.hid (by by_cases h : c = 45 <;> simp [h]; omega)
      obtain ⟨pl, hpl⟩ : ∃ x, x = low c := ⟨_, rfl⟩
      obtain ⟨pd, hpd⟩ : ∃ x, x = dig c := ⟨_, rfl⟩
      obtain ⟨pq, hpq⟩ : ∃ x, x = decide (c = 45) := ⟨_, rfl⟩
      rw [← hpl] at L X
      rw [← hpd] at D X
      rw [← hpq] at N45 X
      clear hc hpl hpd hpq
      have n45 := N45.out
      have WH := Lib.hid (fun bad => when_any wr b _ hr.out.1 bad 6)
      cases pl <;> cases pd <;> cases pq
      all_goals
        simp only [Bool.not_true, Bool.not_false] at n45
        go_wp2_with (first
          | (go_at_call 104; refine (L.out _).mono ?_; rintro e w' ⟨rfl, rfl⟩)
          | (go_at_call 105; refine (D.out _).mono ?_; rintro e w' ⟨rfl, rfl⟩))
        refine (WH.out _).mono ?_
        rintro e w2 ⟨⟨v, rfl⟩, h2, f2⟩
        have NX : Hid (Ck w2 b (fe m (eIf (((bs s).take (j + 1)).any dsB) 6)) ∧ Fr1 b w w2) := Lib.hid ⟨by rw [ST.out, ← fe_eif, X.out]; exact h2, hr.out.2.trans f2⟩
        clear h2 f2
        go_wp2_with fail
        go_roundg (s.size - (j + 1))
        case measure => omega
        case rel => exact ⟨j + 1, by omega, rfl, by go_num, NX⟩
    · obtain rfl : j = s.size := by omega
      have R := hr.out
      rw [List.take_of_length_le (by rw [bs_length]; exact Nat.le_refl _)] at R
      have HR := Lib.hid R
      clear R hr
      go_wp2_with fail
      go_end0
      exact ⟨⟨_, rfl⟩, by rw [T.out, ← fe_assoc, ← HM.out]; exact HR.out.1, HR.out.2⟩
theorem height_any (w : World) (n : Int) : Calls Tryz.prog 106 #[.int .i64 n] w fun e w' => e = .returned (.int .i64 (eIf (!heightB n) 2 : Nat)) ∧ w = w' := by
  obtain ⟨b, hb⟩ : ∃ b, b = heightB n := ⟨_, rfl⟩
  rw [← hb]
  have HB : Hid (b = (decide (1 ≤ n) && decide (n ≤ 8))) := Lib.hid hb
  clear hb
  rcases (by omega : n < 1 ∨ (1 ≤ n ∧ n ≤ 8) ∨ 8 < n) with h | ⟨h, h2⟩ | h
  · have hb : b = false := by rw [HB.out, decide_eq_false (by omega)]; rfl
    subst hb
    go_enter Tryz.func106, Tryz.ntmps106
    go_wp2_with fail
    go_ret
    exact ⟨rfl, rfl⟩
  · have hb : b = true := by rw [HB.out, decide_eq_true h, decide_eq_true h2]; rfl
    subst hb
    go_enter Tryz.func106, Tryz.ntmps106
    go_wp2_with fail
    go_ret
    exact ⟨rfl, rfl⟩
  · have hb : b = false := by rw [HB.out, decide_eq_false (show ¬ n ≤ 8 by omega), Bool.and_false]
    subst hb
    have h1 : ¬ n < 1 := by omega
    go_enter Tryz.func106, Tryz.ntmps106
    go_wp2_with fail
    go_ret
    exact ⟨rfl, rfl⟩
/-- The value of a digit, or -1. -/
def hvz (c : Nat) : Int := match hvl c with | some v => (v : Int) | none => -1
def hdB (c : Nat) : Bool := (hvl c).isSome
theorem index_hexl : ∀ c : Fin 256, Lib.indexByte [48, 49, 50, 51, 52, 53, 54, 55, 56, 57, 97, 98, 99, 100, 101, 102] (UInt8.ofNat c.val) = hvz c.val := by decide +kernel
theorem hdB_eq (c : Nat) : hdB c = (dig c || (decide (97 ≤ c) && decide (c ≤ 102))) := by
  unfold hdB hvl dig
  rw [Bool.eq_iff_iff]
  by_cases h1 : 48 ≤ c ∧ c ≤ 57
  · simp [h1]
  · by_cases h2 : 97 ≤ c ∧ c ≤ 102
    · simp [h1, h2]
    · rw [if_neg h1, if_neg h2]; simp; omega
theorem ixhexl (w : World) (c : Nat) (hc : c < 256) : Calls Tryz.prog 151 #[.string ⟨#[48, 49, 50, 51, 52, 53, 54, 55, 56, 57, 97, 98, 99, 100, 101, 102]⟩, .int .u8 (c : Int)] w fun e w' => e = .returned (.int .i64 (hvz c)) ∧ w = w' := by
  refine (lb_strings_IndexByte _ (c : Int) w).mono ?_
  rintro e w' ⟨rfl, rfl⟩
  refine ⟨?_, rfl⟩
  rw [Int.toNat_natCast, ← index_hexl ⟨c, hc⟩]
theorem misdig_any (w : World) (c : Nat) (hc : c < 256) : Calls Tryz.prog 200 #[.int .u8 (c : Int)] w fun e w' => e = .returned (.bool (hdB c)) ∧ w = w' := by
  have D := Lib.hid (fun w => isdig_any w c hc)
  have E : Hid (hdB c = (dig c || (decide (97 ≤ c) && decide (c ≤ 102)))) := Lib.hid (hdB_eq c)
  obtain ⟨b, hb⟩ : ∃ b, b = hdB c := ⟨_, rfl⟩
  obtain ⟨d, hd⟩ : ∃ d, d = dig c := ⟨_, rfl⟩
  rw [← hb] at E ⊢
  rw [← hd] at D E
  clear hb hd
  cases d
  · rcases (by omega : c < 97 ∨ (97 ≤ c ∧ c ≤ 102) ∨ 102 < c) with h | ⟨h, h2⟩ | h
    all_goals
      go_enter Tryz.func200, Tryz.ntmps200
      go_wp2_with (go_at_call 105; refine (D.out _).mono ?_; rintro e w' ⟨rfl, rfl⟩)
      go_ret
      exact ⟨ret_bool (by rw [E.out, Bool.eq_iff_iff]; simp; try omega), rfl⟩
  · go_enter Tryz.func200, Tryz.ntmps200
    go_wp2_with (go_at_call 105; refine (D.out _).mono ?_; rintro e w' ⟨rfl, rfl⟩)
    go_ret
    exact ⟨ret_bool (by rw [E.out]; rfl), rfl⟩
/-- Whether a byte can stand at an offset. -/
def fitB (k c : Nat) : Bool := if k < 1 then decide (c = 60) else if k < 65 then hdB c else decide (c = sHash.getD (k - 65) 0)
theorem fits_any (w : World) (k c : Nat) (hk : k < 71) (hc : c < 256) : Calls Tryz.prog 155 #[.int .i64 (k : Int), .int .u8 (c : Int)] w fun e w' => e = .returned (.bool (fitB k c)) ∧ w = w' := by
  have D := Lib.hid (fun w => misdig_any w c hc)
  by_cases h1 : k < 1
  · obtain rfl : k = 0 := by omega
    have x0 := idx0 ⟨#[60]⟩ 60 rfl (by decide)
    go_enter Tryz.func155, Tryz.ntmps155
    go_wp2_with fail
    go_ret
    exact ⟨ret_bool (by unfold fitB; rw [if_pos (by omega), Bool.eq_iff_iff]; simp; omega), rfl⟩
  · by_cases h2 : k < 65
    · have F : Hid (fitB k c = hdB c) := Lib.hid (by unfold fitB; rw [if_neg h1, if_pos h2])
      obtain ⟨b, hb⟩ : ∃ b, b = hdB c := ⟨_, rfl⟩
      rw [← hb] at F D
      clear hb
      go_enter Tryz.func155, Tryz.ntmps155
      go_wp2_with (go_at_call 200; refine (D.out _).mono ?_; rintro e w' ⟨rfl, rfl⟩)
      go_ret
      exact ⟨by rw [F.out]; rfl, rfl⟩
    · have F : Hid (fitB k c = decide (c = sHash.getD (k - 65) 0)) := Lib.hid (by unfold fitB; rw [if_neg h1, if_neg h2])
      obtain ⟨d, hd⟩ : ∃ d, d = sHash.getD (k - 65) 0 := ⟨_, rfl⟩
      have xk : ∀ w, (Instr.index 9 (.string ⟨#[64, 104, 97, 115, 104, 62]⟩) (.int .i64 ((k : Int) - 1 - 64))).run Tryz.prog w = .ok (.int .u8 (d : Int)) w := fun w => by
        rw [idx_str 9 Tryz.underlying9 ⟨#[64, 104, 97, 115, 104, 62]⟩ .i64 ((k : Int) - 1 - 64) (k - 65) (by omega) (by show k - 65 < 6; omega), hd]; rfl
      rw [← hd] at F
      clear hd
      go_enter Tryz.func155, Tryz.ntmps155
      go_wp2_with fail
      go_ret
      exact ⟨ret_bool (by rw [F.out, Bool.eq_iff_iff]; simp; omega), rfl⟩
/-- What is known of a slice of bytes that is read: its elements are l. -/
structure Rd (w : World) (a : Option Addr) (l : List Nat) : Prop where
  lt : ∀ x ∈ l, x < 256
  at_ : 0 < l.length → ∃ b off, a = some ⟨b, off, none⟩ ∧ b < w.heap.size ∧ ∀ i (h : i < l.length), w.cell? ⟨b, off + i, none⟩ = some (U l[i])
/-- The text that has been gathered. -/
def TX (B : Nat) (xs : List Nat) (w : World) : Prop := ∃ v, w.heap[B + 1]? = some (.cells #[v] 62 (0, 0)) ∧ w.ownsRow B 5 1 v xs.length (xs.map U)
theorem TX.drewN {B : Nat} {xs : List Nat} {w : World} (h : TX B xs w) (n : Nat) : TX B xs (w.drewN n) := h
theorem TX.close {w wA w1 : World} {base gg cap n : Nat} {v : Value} {xs : List Nat} {y : Nat} (hn : n = xs.length)
    (hown1 : w1.ownsRow base 5 1 (.slice (some ⟨gg, 0, none⟩) (n + 1) cap) (n + 1) (xs.map U ++ [.int .u8 y])) (hgrow : wA.grownBy w1 v.ownBlock) (hA : Below w.heap.size w wA)
    (hT1 : w1.heap[base + 1]? = some (.cells #[v] 62 (0, 0))) (hbase : base ≤ w.heap.size) (hv : w.ownsRow base 5 1 v n (xs.map U)) :
    TX base (xs ++ [y]) (w1.setCell ⟨base + 1, 0, none⟩ (.slice (some ⟨gg, 0, none⟩) (n + 1) cap)) ∧ Below base w (w1.setCell ⟨base + 1, 0, none⟩ (.slice (some ⟨gg, 0, none⟩) (n + 1) cap)) := by
  subst hn
  have := app_close hown1 hgrow hA hT1 (by decide) (by omega) hbase hv
  refine ⟨?_, this.2.below⟩
  obtain ⟨v', h1, h2⟩ := this.1
  exact ⟨v', h1, by rw [List.map_append, List.length_append]; exact h2⟩
set_option maxHeartbeats 1000000 in
theorem encode_any (w : World) (a : Option Addr) (cap : Nat) (l : List Nat) (hl : l.length ≤ 400000) (hrd : Rd w a l) (ht : Tab w) :
    Calls Tryz.prog 178 #[.slice a l.length cap] w fun e w' => e = .returned (.string (strN (encF l))) ∧ Below w.heap.size w w' := by
  obtain ⟨i0, hi0, hz0, hz1, hz2⟩ := info_parts info5
  obtain ⟨n, hn⟩ : ∃ n, n = l.length := ⟨_, rfl⟩
  have hb2 : i0.bytes * ((n + 2) / 3 * 4) ≤ 281474976710656 := by rw [hz2]; omega
  have R0 := fun (cs : Array Value) (h : cs.size = ((n + 2) / 3 * 4) * 1) => rg_start w cs ((n + 2) / 3 * 4) 8 6 217 (by unfold maxLen; omega) h
  have TB := Lib.hid ht
  have P0 := Lib.hid (pass_enc w w.heap.size ht ht.size (Nat.le_refl _))
  have HC := Lib.hid hrd.at_; have H2 := Lib.hid hrd.lt; have HN := Lib.hid hn; have RR := Lib.hid R0
  rw [← hn]
  have hn4 : n ≤ 400000 := by omega
  clear hrd R0 hl hn ht
  go_enter Tryz.func178, Tryz.ntmps178
  go_wp2_with (first | (at_make; refine wpList_make_lit _ rfl _ _ _ rfl 5 i0 _ 1 Tryz.underlying62 hi0 hz0 hz1 .i64 .i64 _ _ 0 ((n + 2) / 3 * 4) rfl rfl rfl (by omega) (by omega) hb2 (by unfold maxLen; omega) ?_; intro cs hcs; have CS := Lib.hid hcs; clear hcs) | (go_at_call 216; refine (regroup_any _ 8 6 _ _ w.heap.size (by simp)).mono ?_; rintro e w1 ⟨rfl, rfl⟩))
  go_loopg [23] n (fun k i wr => ∃ j b' c' xs, j ≤ n ∧ k = n - j ∧ i = .int .i64 (j : Int) ∧ encSt (l.take j) = (b', c', xs) ∧ RG w.heap.size 8 6 217 b' c' xs wr ∧ Below w.heap.size w wr)
  case atStart => exact ⟨0, 0, 0, [], by omega, by omega, rfl, rfl, RR.out cs CS.out, below_start _ _ _ _ _ _ _ _⟩
  case round =>
    obtain ⟨j, b', c', xs, hj, rfl, rfl, hst, hrg, hbl⟩ := hrel
    have hinv := encSt_inv (l.take j) (fun x hx => H2.out x (List.mem_of_mem_take hx))
    rw [hst] at hinv
    obtain ⟨i1, i2, i3⟩ := hinv
    simp only [List.length_take] at i1 i2 i3
    have hxl : xs.length ≤ 900000 := by omega
    by_cases hlt : j < n
    · have hjl : j < l.length := by rw [← HN.out]; exact hlt
      obtain ⟨b, off, rfl, hbw, hcell⟩ := HC.out (by omega)
      have hx : w.cell? ⟨b, off + j, none⟩ = some (U l[j]) := hcell j hjl
      clear hcell
      have hx' : wr.cell? ⟨b, off + j, none⟩ = some (U l[j]) := (hbl.cell (by exact hbw)).trans hx
      have hg : l[j] < 256 := H2.out _ (List.getElem_mem hjl)
      obtain ⟨g, hg'⟩ : ∃ g, g = l[j] := ⟨_, rfl⟩
      rw [← hg'] at hx' hg
      unfold U at hx'
      have C1 := Lib.hid (addE w wr w.heap.size 8 6 b' c' g al xs hrg hbl P0.out (by omega) (by omega) (by omega) i1 i2 (by omega) hxl)
      have ST := Lib.hid hst; have HG := Lib.hid hg'
      clear hst hrg hbl i2 hx hg' i3
      go_wp2_with (go_at_call 239; refine C1.out.mono ?_; rintro e w1 ⟨rfl, hb1, hkm, b1, c1, ys, hd, hr1⟩; have HD := Lib.hid hd; clear hd)
      go_roundg (n - (j + 1))
      case measure => omega
      case rel =>
        refine ⟨j + 1, b1, c1, ys, by omega, by omega, by go_num, ?_, hr1, hb1⟩
        rw [List.take_succ_eq_append_getElem hjl, encSt_snoc, ST.out, ← HG.out]
        exact HD.out
    · have hjn : j = n := by omega
      subst hjn
      have L1 := Lib.hid (left_any wr w.heap.size 8 6 217 b' c' xs hrg)
      obtain ⟨v, hv, hown⟩ := hrg.txt
      have TX0 : Hid (TX w.heap.size xs wr) := ⟨v, hv, hown⟩
      rw [List.take_of_length_le (by rw [HN.out]; exact Nat.le_refl _)] at hst
      have ST := Lib.hid hst; have BL := Lib.hid hbl; have I2 := Lib.hid i2; have I3 := Lib.hid i3; have HV := Lib.hid hv
      clear hst hrg hbl i2 i3 hv
      go_upto_if 38 with (go_at_call 240; refine L1.out.mono ?_; rintro e w1 ⟨rfl, nq, rfl⟩)
      go_cut [] (fun wx => TX w.heap.size (encTail (b', c', xs)) wx ∧ Below w.heap.size w wx)
      case first =>
        have tx : TX w.heap.size xs (wr.drewN nq) := TX0.out
        have bx : Below w.heap.size w (wr.drewN nq) := below_drewN BL.out nq
        generalize wr.drewN nq = wx at *
        have tb := TB.out.below bx TB.out.size
        obtain ⟨vx, hvx, hox⟩ := tx
        have hc := cell_of_one hvx
        have hf := free_of_one hvx
        have lt := lt_of_block hvx
        by_cases hcz : 0 < c'
        · obtain ⟨d, hd⟩ : ∃ d, d = 6 - c' := ⟨_, rfl⟩
          obtain ⟨q, hq⟩ : ∃ q, q = b' * 2 ^ d := ⟨_, rfl⟩
          have hq64 : q < 64 := by
            have h1 : b' * 2 ^ d < 2 ^ c' * 2 ^ d := Nat.mul_lt_mul_of_pos_right I2.out (Nat.pow_pos (by omega))
            rw [← Nat.pow_add, show c' + d = 6 by omega] at h1
            omega
          have ed : (6 : Int) - (c' : Int) = (d : Int) := by omega
          have e1 : ((b' : Int) * 2 ^ d) = (q : Int) := by rw [hq]; push_cast; rfl
          have q0 : (0 : Int) ≤ (q : Int) := by omega
          have q1 : (q : Int) < 64 := by omega
          have qc : wx.cell? ⟨3, q, none⟩ = some (U (al q)) := tb.cell q hq64
          unfold U at qc
          have hTA : (wx.drew.alloc (.cells #[.int .u8 (al q)] 5)).heap[w.heap.size + 1]? = some (.cells #[vx] 62 (0, 0)) := alloc_block hvx
          have HTA := Lib.hid hTA
          have HNE := Lib.hid (own_ne (b := w.heap.size + 1) (t := 62) hox hvx (by decide))
          have HB := Lib.hid bx; have HQ := Lib.hid hq; have D := Lib.hid hd; have HX := Lib.hid hvx
          clear hTA bx tb hq hd hvx
          have hbs : w.heap.size ≤ wx.heap.size := HB.out.size
          have hd6 : d ≤ 6 := by omega
          have ew : IntKind.i64.wrap (d : Int) = (d : Int) := IntWalk.i64_in _ (by omega)
          have ew2 : IntKind.i64.wrap (q : Int) = (q : Int) := IntWalk.i64_in _ (by omega)
          have d0 : (0 : Int) ≤ (d : Int) := by omega
          have d1 : (d : Int) ≤ 64 := by omega
          go_wp2_with fail
          go_region_law ((refine step_append_lies _ (by rfl) _ _ _ (by rfl) w.heap.size 5 i0 _ 1 1 Tryz.underlying62 hi0 hz0 hz1 hz2 rfl (by omega) vx xs.length (xs.map U) (by rfl) ((hox.drew).alloc _) ⟨wx.heap.size, 0, none⟩ 1 1 [.int .u8 (al q)] (by rfl) (by rfl) (World.news_of_block (cs := #[.int .u8 (al q)]) (t := 5) (fr := (0, 0)) (heap_alloc_new wx _)) (by simp [Value.oneCell']) (by omega) (by unfold maxLen; omega) (by omega) (by simp; omega) (wx.heap.size + 1) (by simp) ?_; intro gg cap' w1 hown1 hgrow hat hlt2; have hc1 := own_kept_block hgrow HTA.out HNE.out; have hc2 := cell_of_one hc1; have hc3 := free_of_one hc1; have HC1 := Lib.hid hc1; clear hc1))
          all_goals go_wp2_with fail
          all_goals go_meet
          all_goals
            have fin := TX.close rfl hown1 hgrow (((Below.refl _ _).alloc (Nat.le_refl _) _).drew) HC1.out hbs hox
            have et : encTail (b', c', xs) = xs ++ [al q] := by simp only [encTail]; rw [if_pos hcz, HQ.out, D.out]
            rw [et]
            exact ⟨fin.1, HB.out.trans fin.2⟩
        · have hcz' : decide (0 < c') = false := by simp; omega
          go_wp2_with fail
          go_meet
          have et : encTail (b', c', xs) = xs := by simp only [encTail]; rw [if_neg hcz]
          rw [et]
          exact ⟨⟨vx, hvx, hox⟩, bx⟩
      case rest =>
        obtain ⟨htx, hbx⟩ := hcut
        have i3 := I3.out
        have htl := encTail_len b' c' xs j (by rw [i3, ← HN.out]; simp)
        have ef := encF_of ST.out
        have EF := Lib.hid ef
        clear ef i3
        obtain ⟨ts, hts⟩ : ∃ ts, ts = encTail (b', c', xs) := ⟨_, rfl⟩
        rw [← hts] at htx htl EF
        clear I2 I3 ST BL TX0 L1 P0 HC H2 RR hts
        go_wp2_with fail
        go_loopg [] ((4 - ts.length % 4) % 4) (fun k wr => ∃ ys, TX w.heap.size ys wr ∧ Below w.heap.size w wr ∧ ys.length + k ≤ 900000 ∧ k = (4 - ys.length % 4) % 4 ∧ pad4 ys = encF l)
        case atStart => exact ⟨ts, htx, hbx, by omega, rfl, EF.out⟩
        case round =>
          obtain ⟨ys, htx', hbx', hyl, rfl, hpad⟩ := hrel
          have HP := Lib.hid hpad
          clear hpad htx hbx hxl htl
          obtain ⟨v, hv, hown⟩ := htx'
          have hc := cell_of_one hv
          have hf := free_of_one hv
          have lt := lt_of_block hv
          obtain ⟨m, hm⟩ : ∃ m, m = ys.length := ⟨_, rfl⟩
          have hconv := own_conv (P := Tryz.prog) 62 9 Tryz.underlying62 Tryz.underlying5 Tryz.underlying9 hown
          rw [← hm] at hown hyl
          obtain ⟨a', cap', rfl⟩ := own_shape hown
          have HM := Lib.hid hm
          by_cases h4 : m % 4 = 0
          · have h4' : ((m : Int) % 4 != 0) = false := by simp; omega
            clear hm
            go_wp2_with fail
            go_ret
            exact ⟨by rw [← HP.out, pad4_done _ (by rw [← HM.out]; exact h4)]; rfl, hbx'⟩
          · have h4' : ((m : Int) % 4 != 0) = true := by simp; omega
            have hTA : (wr.alloc (.cells #[.int .u8 61] 5)).heap[w.heap.size + 1]? = some (.cells #[.slice a' m cap'] 62 (0, 0)) := alloc_block hv
            have HTA := Lib.hid hTA
            have HNE := Lib.hid (own_ne (b := w.heap.size + 1) (t := 62) hown hv (by decide))
            have HV := Lib.hid hv; have HB := Lib.hid hbx'
            have hbs : w.heap.size ≤ wr.heap.size := HB.out.size
            clear hm hTA hv hbx' hconv
            go_wp2_with ((at_builtin; refine wpList_append_lies _ rfl _ _ _ rfl w.heap.size 5 i0 _ 1 1 Tryz.underlying62 hi0 hz0 hz1 hz2 rfl (by omega) (.slice a' m cap') m (ys.map U) rfl (hown.alloc _) ⟨wr.heap.size, 0, none⟩ 1 1 [.int .u8 61] rfl rfl (World.news_of_block (cs := #[.int .u8 61]) (t := 5) (fr := (0, 0)) (heap_alloc_new wr _)) (by simp [Value.oneCell']) (by omega) (by unfold maxLen; omega) (by omega) (by simp; omega) (wr.heap.size + 1) (by simp) ?_; intro gg cap2 w1 hown1 hgrow hat hlt2; have hc1 := own_kept_block hgrow HTA.out HNE.out; have hc2 := cell_of_one hc1; have hc3 := free_of_one hc1; have HC1 := Lib.hid hc1; clear hc1))
            go_roundg ((4 - (m + 1) % 4) % 4)
            case measure => rw [← HM.out]; omega
            case rel =>
              have fin := TX.close HM.out hown1 hgrow ((Below.refl _ _).alloc (Nat.le_refl _) _) HC1.out hbs hown
              refine ⟨ys ++ [61], fin.1, HB.out.trans fin.2, ?_, ?_, ?_⟩
              · simp; rw [← HM.out]; omega
              · simp; rw [← HM.out]
              · rw [pad4_more _ (by rw [← HM.out]; exact h4)]; exact HP.out
end Go.Proofs.YtohmdledkhgdaaaGreatDoor
