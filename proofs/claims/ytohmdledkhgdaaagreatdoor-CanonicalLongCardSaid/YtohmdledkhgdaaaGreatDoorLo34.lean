/- bulletinref12.Parts, Check, CheckList; bulletinref17.Words; bulletinref18.groups. -/
import Derived.Test.YtohmdledkhgdaaaGreatDoorLo33
namespace Go.Proofs.YtohmdledkhgdaaaGreatDoor
open Go.RowKit
set_option linter.unusedVariables false
set_option maxRecDepth 100000
/-- A part ahead of others. -/
def ahd (p : List Nat) : List (List Nat) → List (List Nat)
  | [] => [p]
  | h :: r => (p ++ h) :: r
theorem ahd_hit (c : Nat) (p t : List Nat) : ahd p (spl c (c :: t)) = p :: ahd [] (spl c t) := by
  simp only [spl, if_true, ahd, List.append_nil]
  cases h : spl c t with
  | nil => exact absurd h (spl_ne c t)
  | cons a r => rfl
theorem ahd_miss (c x : Nat) (hx : x ≠ c) (p t : List Nat) : ahd p (spl c (x :: t)) = ahd (p ++ [x]) (spl c t) := by
  simp only [spl, if_neg hx]
  cases h : spl c t with
  | nil => exact absurd h (spl_ne c t)
  | cons a r => simp [ahd]
theorem ahd_end (c : Nat) (p : List Nat) : ahd p (spl c []) = [p] := by simp [spl, ahd]
theorem ahd_start (c : Nat) (l : List Nat) : ahd [] (spl c l) = spl c l := by
  cases h : spl c l with
  | nil => exact absurd h (spl_ne c l)
  | cons a r => rfl
theorem drop_getD {l : List Nat} {n : Nat} (h : n < l.length) : l.drop n = l.getD n 0 :: l.drop (n + 1) := by
  rw [List.drop_eq_getElem_cons h]; simp [List.getD, h]
/-- The loop's state: what is done, what is under way. -/
structure PaI (s : ByteArray) (c : Nat) (w : World) (n : Nat) (v : Value) (gs : List ByteArray) (cur : ByteArray) (wr : World) : Prop where
  eq : spl c (bs s) = gs.map bs ++ ahd (bs cur) (spl c ((bs s).drop n))
  row : wr.ownsRow w.heap.size 9 1 v gs.length (gs.map Value.string)
  siz : ∀ g ∈ gs, g.size ≤ s.size
  cur : cur.size ≤ n
  num : gs.length ≤ n
  bel : Below w.heap.size w wr
theorem PaI.post {s : ByteArray} {c : Nat} {w : World} {v : Value} {gs : List ByteArray} {wr : World} (h : gs.map bs = spl c (bs s)) (hr : wr.ownsRow w.heap.size 9 1 v gs.length (gs.map Value.string)) (hs : ∀ g ∈ gs, g.size ≤ s.size) (hn : gs.length ≤ s.size + 1) (hb : Below w.heap.size w wr) : SplPost c s w (.returned v) wr :=
  ⟨v, gs, rfl, h, ownS_row hr, hs, hn, hr, hb⟩
set_option maxHeartbeats 2000000 in
theorem rparts_any (s : ByteArray) (c : Nat) (w : World) (hs : s.size ≤ 10000000) (hc : c < 256) :
    Calls Tryz.prog 165 #[.string s, .int .u8 (c : Int)] w (SplPost c s w) := by
  obtain ⟨i0, hi0, hz0, hz1, hz2⟩ := info_parts infoS
  go_enter Tryz.func165, Tryz.ntmps165
  go_wp2_with fail
  go_loopg [5, 6, 7] s.size (fun k v p i wr => ∃ (n : Nat) (gs : List ByteArray) (cur : ByteArray), n ≤ s.size ∧ k = s.size - n ∧ i = .int .i64 (n : Int) ∧ p = .string cur ∧ Hid (PaI s c w n v gs cur wr))
  case atStart => exact ⟨0, [], ⟨#[]⟩, by omega, rfl, rfl, rfl, Lib.hid ⟨by rw [List.drop_zero]; exact (ahd_start c (bs s)).symm, World.ownsRow_nil _ _ _ _, (fun g h => by cases h), Nat.le_refl _, Nat.le_refl _, Below.refl _ _⟩⟩
  case round =>
    obtain ⟨n, gs, cur, hn, rfl, rfl, rfl, J⟩ := hrel
    by_cases b : n < s.size
    · obtain ⟨x, hx⟩ : ∃ x, x = (bs s).getD n 0 := ⟨_, rfl⟩
      have hx2 : x < 256 := by rw [hx]; exact bs_lt' s n
      have y1 := fun w => idx_q s w n n rfl b x hx
      have DG : Hid ((bs s).drop n = x :: (bs s).drop (n + 1)) := Lib.hid (by rw [hx]; exact drop_getD (by rw [bs_length]; exact b))
      have HX := Lib.hid hx
      clear hx
      obtain ⟨m, hm⟩ : ∃ m, m = gs.length := ⟨_, rfl⟩
      have HM := Lib.hid hm
      have hmn : m ≤ n := by rw [hm]; exact J.out.num
      have hcn : cur.size ≤ n := J.out.cur
      have hwz := J.out.bel.size
      by_cases e : x = c
      · subst e
        have q1 : ((x : Int) == (x : Int)) = true := int_eq rfl
        have EQ2 : Hid (spl x (bs s) = (gs ++ [cur]).map bs ++ ahd (bs ⟨#[]⟩) (spl x ((bs s).drop (n + 1)))) := Lib.hid (by
          rw [J.out.eq, DG.out, ahd_hit, List.map_append, List.append_assoc]; rfl)
        have RW : Hid (wr.ownsRow w.heap.size 9 1 u5 m (gs.map Value.string)) := Lib.hid (by rw [HM.out]; exact J.out.row)
        have SZ : Hid (∀ g ∈ gs ++ [cur], g.size ≤ s.size) := Lib.hid (fun g hg => by
          rcases List.mem_append.1 hg with h | h
          · exact J.out.siz g h
          · simp at h; subst h; omega)
        have BE := Lib.hid J.out.bel
        clear J hm DG
        go_wp2_with (at_builtin; refine wpList_append_own _ rfl _ _ 23 rfl w.heap.size 9 i0 (.string ⟨#[]⟩) 1 16 Tryz.underlying23 hi0 hz0 hz1 hz2 rfl (by decide) _ _ _ rfl (RW.out.alloc _) ⟨wr.heap.size, 0, none⟩ 1 1 [.string cur] rfl rfl (World.news_of_block (cs := #[.string cur]) (t := 9) (fr := (0, 0)) (heap_alloc_new wr _)) (by simp [Value.oneCell']) (by unfold maxLen; omega) (by omega) (by simp; omega) ?_; intro v' w3 hown' hgrow _)
        have O3 : Hid (w3.ownsRow w.heap.size 9 1 v' (gs ++ [cur]).length ((gs ++ [cur]).map Value.string)) := Lib.hid (by rw [List.length_append, ← HM.out, List.map_append]; exact hown')
        have B3 : Hid (Below w.heap.size w w3) := Lib.hid (Below.grown (BE.out.alloc BE.out.size _) hgrow (by simp; omega) (fun k hk => (RW.out.lt k hk).1))
        have NL : Hid ((gs ++ [cur]).length ≤ n + 1) := Lib.hid (by rw [List.length_append, ← HM.out]; simp; omega)
        clear hown' hgrow
        go_wp2_with fail
        go_roundg (s.size - (n + 1))
        case measure => omega
        case rel => exact ⟨n + 1, gs ++ [cur], ⟨#[]⟩, by omega, rfl, by go_num, rfl, Lib.hid ⟨EQ2.out, O3.out, SZ.out, Nat.zero_le _, NL.out, B3.out⟩⟩
      · have q1 : ((x : Int) == (c : Int)) = false := int_ne (by omega)
        have esz : (s.extract n (n + 1)).size = 1 := by rw [ByteArray.size_extract]; omega
        have ebs : bs (s.extract n (n + 1)) = [x] := by
          rw [bs_extract, List.drop_take, DG.out]; simp
        have JN : Hid (PaI s c w (n + 1) u5 gs (cur ++ s.extract n (n + 1)) wr) := Lib.hid ⟨by
          rw [J.out.eq, DG.out, ahd_miss c x e]
          have : bs (cur ++ s.extract n (n + 1)) = bs cur ++ [x] := by rw [← ebs]; unfold bs; rw [ByteArray.data_append, Array.toList_append, List.map_append]
          rw [this], J.out.row, J.out.siz, by rw [ByteArray.size_append, esz]; omega, by omega, J.out.bel⟩
        clear J e DG ebs hm
        go_wp2_with fail
        go_roundg (s.size - (n + 1))
        case measure => omega
        case rel => exact ⟨n + 1, gs, _, by omega, rfl, by go_num, rfl, JN⟩
    · obtain rfl : n = s.size := by omega
      obtain ⟨m, hm⟩ : ∃ m, m = gs.length := ⟨_, rfl⟩
      have HM := Lib.hid hm
      have hmn : m ≤ s.size := by rw [hm]; exact J.out.num
      have hcn : cur.size ≤ s.size := J.out.cur
      have hwz := J.out.bel.size
      have EQ2 : Hid ((gs ++ [cur]).map bs = spl c (bs s)) := Lib.hid (by
        rw [J.out.eq, List.drop_of_length_le (by rw [bs_length]; exact Nat.le_refl _), ahd_end, List.map_append]; rfl)
      have RW : Hid (wr.ownsRow w.heap.size 9 1 u5 m (gs.map Value.string)) := Lib.hid (by rw [HM.out]; exact J.out.row)
      have SZ : Hid (∀ g ∈ gs ++ [cur], g.size ≤ s.size) := Lib.hid (fun g hg => by
        rcases List.mem_append.1 hg with h | h
        · exact J.out.siz g h
        · simp at h; subst h; omega)
      have BE := Lib.hid J.out.bel
      clear J hm
      go_wp2_with (at_builtin; refine wpList_append_own _ rfl _ _ 23 rfl w.heap.size 9 i0 (.string ⟨#[]⟩) 1 16 Tryz.underlying23 hi0 hz0 hz1 hz2 rfl (by decide) _ _ _ rfl (RW.out.alloc _) ⟨wr.heap.size, 0, none⟩ 1 1 [.string cur] rfl rfl (World.news_of_block (cs := #[.string cur]) (t := 9) (fr := (0, 0)) (heap_alloc_new wr _)) (by simp [Value.oneCell']) (by unfold maxLen; omega) (by omega) (by simp; omega) ?_; intro v' w3 hown' hgrow _)
      have O3 : Hid (w3.ownsRow w.heap.size 9 1 v' (gs ++ [cur]).length ((gs ++ [cur]).map Value.string)) := Lib.hid (by rw [List.length_append, ← HM.out, List.map_append]; exact hown')
      have B3 : Hid (Below w.heap.size w w3) := Lib.hid (Below.grown (BE.out.alloc BE.out.size _) hgrow (by simp; omega) (fun k hk => (RW.out.lt k hk).1))
      have NL : Hid ((gs ++ [cur]).length ≤ s.size + 1) := Lib.hid (by rw [List.length_append, ← HM.out]; simp; omega)
      clear hown' hgrow
      go_wp2_with fail
      go_ret
      exact PaI.post EQ2.out O3.out SZ.out NL.out B3.out
/-- The state of Words' loop. -/
def WdI (s : ByteArray) (c : Nat) (w : World) (n f : Nat) (v : Value) (gs : List ByteArray) (wr : World) : Prop :=
  (n ≤ s.size ∧ f ≤ n ∧ PaI s c w n v gs (s.extract f n) wr) ∨ (n = s.size + 1 ∧ SplPost c s w (.returned v) wr)
theorem bs_ext_snoc (s : ByteArray) (f n x : Nat) (h1 : f ≤ n) (h2 : n < s.size) (hx : x = (bs s).getD n 0) : bs (s.extract f (n + 1)) = bs (s.extract f n) ++ [x] := by
  have hl : n < (bs s).length := by rw [bs_length]; exact h2
  rw [bs_extract, bs_extract, List.take_succ_eq_append_getElem hl, List.drop_append_of_le_length (by rw [List.length_take]; omega)]
  congr 1
  rw [hx]; simp [List.getD, hl]
theorem bs_ext_nil (s : ByteArray) (n : Nat) : bs (s.extract n n) = [] := by
  rw [bs_extract]; apply List.drop_eq_nil_of_le; rw [List.length_take]; omega
set_option maxHeartbeats 2000000 in
theorem rwords_any (s : ByteArray) (c : Nat) (w : World) (hs : s.size ≤ 10000000) (hc : c < 256) :
    Calls Tryz.prog 130 #[.string s, .int .u8 (c : Int)] w (SplPost c s w) := by
  obtain ⟨i0, hi0, hz0, hz1, hz2⟩ := info_parts infoS
  go_enter Tryz.func130, Tryz.ntmps130
  go_wp2_with fail
  go_loopg [5, 6, 7] (s.size + 1) (fun k v p i wr => ∃ (n f : Nat) (gs : List ByteArray), n ≤ s.size + 1 ∧ f ≤ s.size + 1 ∧ k = s.size + 1 - n ∧ i = .int .i64 (n : Int) ∧ p = .int .i64 (f : Int) ∧ Hid (WdI s c w n f v gs wr))
  case atStart => exact ⟨0, 0, [], by omega, by omega, rfl, rfl, rfl, Lib.hid (.inl ⟨Nat.zero_le _, Nat.le_refl _, by rw [List.drop_zero, bs_ext_nil]; exact (ahd_start c (bs s)).symm, World.ownsRow_nil _ _ _ _, (fun g h => by cases h), by rw [ByteArray.size_extract]; omega, Nat.le_refl _, Below.refl _ _⟩)⟩
  case round =>
    obtain ⟨n, f, gs, hn, hf, rfl, rfl, rfl, J0⟩ := hrel
    rcases J0.out with ⟨hn1, hfn, J1⟩ | ⟨rfl, J1⟩
    · have J := Lib.hid J1
      obtain ⟨m, hm⟩ : ∃ m, m = gs.length := ⟨_, rfl⟩
      have HM := Lib.hid hm
      have hmn : m ≤ n := by rw [hm]; exact J.out.num
      have hwz := J.out.bel.size
      have esz : (s.extract f n).size ≤ s.size := by rw [ByteArray.size_extract]; omega
      have SZ : Hid (∀ g ∈ gs ++ [s.extract f n], g.size ≤ s.size) := Lib.hid (fun g hg => by
        rcases List.mem_append.1 hg with h | h
        · exact J.out.siz g h
        · simp at h; subst h; exact esz)
      have RW : Hid (wr.ownsRow w.heap.size 9 1 u5 m (gs.map Value.string)) := Lib.hid (by rw [HM.out]; exact J.out.row)
      have BE := Lib.hid J.out.bel
      clear J0 J1 esz
      by_cases b : n < s.size
      · obtain ⟨x, hx⟩ : ∃ x, x = (bs s).getD n 0 := ⟨_, rfl⟩
        have hx2 : x < 256 := by rw [hx]; exact bs_lt' s n
        have y1 := fun w => idx_q s w n n rfl b x hx
        have q0 : ((n : Int) == (s.size : Int)) = false := int_ne (by omega)
        have DG : Hid ((bs s).drop n = x :: (bs s).drop (n + 1)) := Lib.hid (by rw [hx]; exact drop_getD (by rw [bs_length]; exact b))
        have SN := Lib.hid (bs_ext_snoc s f n x hfn b hx)
        clear hx
        by_cases e : x = c
        · subst e
          have q1 : ((x : Int) == (x : Int)) = true := int_eq rfl
          have EQ2 : Hid (spl x (bs s) = (gs ++ [s.extract f n]).map bs ++ ahd (bs (s.extract (n + 1) (n + 1))) (spl x ((bs s).drop (n + 1)))) := Lib.hid (by
            rw [J.out.eq, DG.out, ahd_hit, List.map_append, List.append_assoc, bs_ext_nil]; rfl)
          clear J hm DG SN
          go_wp2_with (at_builtin; refine wpList_append_own _ rfl _ _ 23 rfl w.heap.size 9 i0 (.string ⟨#[]⟩) 1 16 Tryz.underlying23 hi0 hz0 hz1 hz2 rfl (by decide) _ _ _ rfl (RW.out.alloc _) ⟨wr.heap.size, 0, none⟩ 1 1 [.string (s.extract f n)] rfl rfl (World.news_of_block (cs := #[.string (s.extract f n)]) (t := 9) (fr := (0, 0)) (heap_alloc_new wr _)) (by simp [Value.oneCell']) (by unfold maxLen; omega) (by omega) (by simp; omega) ?_; intro v' w3 hown' hgrow _)
          have O3 : Hid (w3.ownsRow w.heap.size 9 1 v' (gs ++ [s.extract f n]).length ((gs ++ [s.extract f n]).map Value.string)) := Lib.hid (by rw [List.length_append, ← HM.out, List.map_append]; exact hown')
          have B3 : Hid (Below w.heap.size w w3) := Lib.hid (Below.grown (BE.out.alloc BE.out.size _) hgrow (by simp; omega) (fun k hk => (RW.out.lt k hk).1))
          have NL : Hid ((gs ++ [s.extract f n]).length ≤ n + 1) := Lib.hid (by rw [List.length_append, ← HM.out]; simp; omega)
          clear hown' hgrow
          go_wp2_with fail
          go_roundg (s.size + 1 - (n + 1))
          case measure => omega
          case rel => exact ⟨n + 1, n + 1, gs ++ [s.extract f n], by omega, by omega, rfl, by go_num, by go_num, Lib.hid (.inl ⟨by omega, Nat.le_refl _, EQ2.out, O3.out, SZ.out, by rw [ByteArray.size_extract]; omega, NL.out, B3.out⟩)⟩
        · have q1 : ((x : Int) == (c : Int)) = false := int_ne (by omega)
          have JN : Hid (PaI s c w (n + 1) u5 gs (s.extract f (n + 1)) wr) := Lib.hid ⟨by
            rw [J.out.eq, DG.out, ahd_miss c x e, SN.out], J.out.row, J.out.siz, by rw [ByteArray.size_extract]; omega, by have := J.out.num; omega, J.out.bel⟩
          clear J e DG hm SN
          go_wp2_with fail
          go_roundg (s.size + 1 - (n + 1))
          case measure => omega
          case rel => exact ⟨n + 1, f, gs, by omega, by omega, rfl, by go_num, rfl, Lib.hid (.inl ⟨by omega, by omega, JN.out⟩)⟩
      · obtain rfl : n = s.size := by omega
        have q0 : ((s.size : Int) == (s.size : Int)) = true := int_eq rfl
        have EQ2 : Hid ((gs ++ [s.extract f s.size]).map bs = spl c (bs s)) := Lib.hid (by
          rw [J.out.eq, List.drop_of_length_le (by rw [bs_length]; exact Nat.le_refl _), ahd_end, List.map_append]; rfl)
        clear J hm
        go_wp2_with (at_builtin; refine wpList_append_own _ rfl _ _ 23 rfl w.heap.size 9 i0 (.string ⟨#[]⟩) 1 16 Tryz.underlying23 hi0 hz0 hz1 hz2 rfl (by decide) _ _ _ rfl (RW.out.alloc _) ⟨wr.heap.size, 0, none⟩ 1 1 [.string (s.extract f s.size)] rfl rfl (World.news_of_block (cs := #[.string (s.extract f s.size)]) (t := 9) (fr := (0, 0)) (heap_alloc_new wr _)) (by simp [Value.oneCell']) (by unfold maxLen; omega) (by omega) (by simp; omega) ?_; intro v' w3 hown' hgrow _)
        have O3 : Hid (w3.ownsRow w.heap.size 9 1 v' (gs ++ [s.extract f s.size]).length ((gs ++ [s.extract f s.size]).map Value.string)) := Lib.hid (by rw [List.length_append, ← HM.out, List.map_append]; exact hown')
        have B3 : Hid (Below w.heap.size w w3) := Lib.hid (Below.grown (BE.out.alloc BE.out.size _) hgrow (by simp; omega) (fun k hk => (RW.out.lt k hk).1))
        have NL : Hid ((gs ++ [s.extract f s.size]).length ≤ s.size + 1) := Lib.hid (by rw [List.length_append, ← HM.out]; simp; omega)
        clear hown' hgrow
        go_wp2_with fail
        go_roundg (s.size + 1 - (s.size + 1))
        case measure => omega
        case rel => exact ⟨s.size + 1, s.size + 1, [], by omega, by omega, rfl, by go_num, by go_num, Lib.hid (.inr ⟨rfl, PaI.post EQ2.out O3.out SZ.out NL.out B3.out⟩)⟩
    · have J := Lib.hid J1
      clear J0 J1
      go_wp2_with fail
      go_ret
      exact J.out
theorem SRow.at {w : World} {v : Value} {gs : List ByteArray} (h : SRow w v gs) (j : Nat) (hj : j < gs.length) : ∃ b off cap, v = .slice (some ⟨b, off, none⟩) gs.length cap ∧ gs.length ≤ cap ∧ b < w.heap.size ∧ w.cell? ⟨b, off + j, none⟩ = some (.string gs[j]) := by
  obtain ⟨a, cap, h1, h2, h3⟩ := h
  obtain ⟨b, off, rfl, h5, h6⟩ := h3 (fun e => by rw [e] at hj; simp at hj)
  exact ⟨b, off, cap, h1, h2, h5, h6 j hj⟩
def ncB (p : List Nat) : Bool := !compB p
theorem anyL_hit {p : List Nat → Bool} {l : List (List Nat)} {k : Nat} {c : List Nat} (hk : k < l.length) (hc : c = l[k]) (h : p c = true) : l.any p = true := by
  rw [List.any_eq_true]; exact ⟨l[k], List.getElem_mem hk, by rw [← hc]; exact h⟩
theorem anyL_miss {p : List Nat → Bool} {l : List (List Nat)} {k : Nat} {c : List Nat} (h0 : (l.take k).any p = false) (hk : k < l.length) (hc : c = l[k]) (h : p c = false) : (l.take (k + 1)).any p = false := by
  rw [List.take_succ_eq_append_getElem hk, List.any_append, h0, ← hc]; simp [h]
set_option maxHeartbeats 2000000 in
theorem rgcheck_any (s : ByteArray) (w : World) (hs : s.size ≤ 10000000) :
    Calls Tryz.prog 129 #[.string s] w fun e w' => e = .returned (.int .i64 (nameF (bs s) : Nat)) ∧ Below w.heap.size w w' := by
  obtain ⟨T, hT⟩ : ∃ T, T = nameF (bs s) := ⟨_, rfl⟩
  rw [← hT]
  have TF : Hid (T = if 80 < s.size then 5 else if (spl 46 (bs s)).any ncB = true then 12 else if 10 < (spl 46 (bs s)).length then 9 else 0) := Lib.hid (by rw [hT]; unfold nameF; rw [bs_length]; rfl)
  clear hT
  by_cases hl : 80 < s.size
  · have T5 : Hid (T = 5) := Lib.hid (by rw [TF.out, if_pos hl])
    go_enter Tryz.func129, Tryz.ntmps129
    go_wp2_with fail
    go_ret
    exact ⟨by rw [T5.out]; rfl, Below.refl _ _⟩
  have TG : Hid (T = if (spl 46 (bs s)).any ncB = true then 12 else if 10 < (spl 46 (bs s)).length then 9 else 0) := Lib.hid (by rw [TF.out, if_neg hl])
  have P := Lib.hid (rparts_any s 46 w hs (by omega))
  obtain ⟨L, hL⟩ : ∃ L, L = spl 46 (bs s) := ⟨_, rfl⟩
  rw [← hL] at TG
  have HL := Lib.hid hL
  clear TF hL
  go_enter Tryz.func129, Tryz.ntmps129
  go_wp2_with fail
  refine P.out.mono ?_
  rintro e w1 ⟨v, gs, rfl, h1, h2, h3, h4, h5, hb⟩
  have hLg : L = gs.map bs := by rw [HL.out, h1]
  have HLG := Lib.hid hLg
  have R1 := Lib.hid h2; have B1 := Lib.hid hb; have SZ := Lib.hid h3
  obtain ⟨m, hm⟩ : ∃ m, m = gs.length := ⟨_, rfl⟩
  have HM := Lib.hid hm
  have HML : Hid (L.length = m) := Lib.hid (by rw [hLg, List.length_map, hm])
  have hms : m ≤ s.size + 1 := by rw [hm]; exact h4
  clear P h1 h2 h3 h4 h5 hb hLg
  obtain ⟨ba, cap, rfl, hc, _⟩ := R1.out
  rw [← hm] at hc ⊢
  clear hm
  go_wp2_with fail
  go_loopg [4] m (fun k i wr => ∃ n : Nat, n ≤ m ∧ k = m - n ∧ i = .int .i64 (n : Int) ∧ Hid ((L.take n).any ncB = false) ∧ Hid (Below w1.heap.size w1 wr))
  case atStart => exact ⟨0, by omega, rfl, rfl, Lib.hid rfl, Lib.hid (Below.refl _ _)⟩
  case round =>
    obtain ⟨n, hn, rfl, rfl, hg, hd⟩ := hrel
    by_cases b : n < m
    · have hnl : n < gs.length := by rw [← HM.out]; exact b
      have hnL : n < L.length := by rw [HML.out]; exact b
      obtain ⟨b0, off, cap', e0, _, hb0, hcell⟩ := R1.out.at n hnl
      cases e0
      obtain ⟨g, hg2⟩ : ∃ g, g = gs[n] := ⟨_, rfl⟩
      have hgs : g.size ≤ s.size := by rw [hg2]; exact SZ.out _ (List.getElem_mem hnl)
      have LG : bs g = L[n] := by rw [hg2]; simp [HLG.out]
      rw [← hg2] at hcell
      have hcc : wr.cell? ⟨b0, off + n, none⟩ = some (.string g) := (hd.out.cell (p := ⟨b0, off + n, none⟩) hb0).trans hcell
      have C := Lib.hid (rcomp_any g wr (by unfold maxLen; omega))
      obtain ⟨c, hcx⟩ : ∃ c, c = compB (bs g) := ⟨_, rfl⟩
      rw [← hcx] at C
      have YES : Hid (c = true → (L.take (n + 1)).any ncB = false) := Lib.hid (fun h => anyL_miss hg.out hnL LG (by unfold ncB; rw [← hcx, h]; rfl))
      have NO : Hid (c = false → L.any ncB = true) := Lib.hid (fun h => anyL_hit hnL LG (by unfold ncB; rw [← hcx, h]; rfl))
      clear hcell hg2 LG hcx hg hnl hnL hb0 hgs
      cases c
      · have T12 : Hid (T = 12) := Lib.hid (by rw [TG.out, if_pos (NO.out rfl)])
        clear YES NO
        go_wp2_with fail
        refine C.out.mono ?_
        rintro e w2 ⟨rfl, hd2⟩
        have B2 := Lib.hid (B1.out.trans ((hd.out.trans ((Dr.below hd2).mono hd.out.size)).mono B1.out.size))
        clear hd2 C
        go_wp2_with fail
        go_ret
        exact ⟨by rw [T12.out]; rfl, B2.out⟩
      · have G := Lib.hid (YES.out rfl)
        clear YES NO
        go_wp2_with fail
        refine C.out.mono ?_
        rintro e w2 ⟨rfl, hd2⟩
        have B2 := Lib.hid (hd.out.trans ((Dr.below hd2).mono hd.out.size))
        clear hd2 C
        go_wp2_with fail
        go_roundg (m - (n + 1))
        case measure => omega
        case rel => exact ⟨n + 1, by omega, rfl, by go_num, G, B2⟩
    · have AF : Hid (L.any ncB = false) := Lib.hid (by have h := hg.out; rwa [List.take_of_length_le (by rw [HML.out]; omega)] at h)
      have BW := Lib.hid (B1.out.trans (hd.out.mono B1.out.size))
      clear hg
      by_cases h10 : 10 < m
      · have T9 : Hid (T = 9) := Lib.hid (by rw [TG.out, AF.out, if_neg (by simp), if_pos (by rw [HML.out]; exact h10)])
        go_wp2_with fail
        go_ret
        exact ⟨by rw [T9.out]; rfl, BW.out⟩
      · have T0 : Hid (T = 0) := Lib.hid (by rw [TG.out, AF.out, if_neg (by simp), if_neg (by rw [HML.out]; exact h10)])
        go_wp2_with fail
        go_ret
        exact ⟨by rw [T0.out]; rfl, BW.out⟩
set_option maxHeartbeats 2000000 in
theorem rglist_any (w : World) (v : Value) (gs : List ByteArray) (hr : SRow w v gs) (hl : gs.length ≤ 1000000) (hz : ∀ g ∈ gs, g.size ≤ 1000000) :
    Calls Tryz.prog 87 #[v] w fun e w' => e = .returned (.int .i64 (listF nameF (gs.map bs) : Nat)) ∧ Below w.heap.size w w' := by
  obtain ⟨T, hT⟩ : ∃ T, T = listF nameF (gs.map bs) := ⟨_, rfl⟩
  rw [← hT]
  obtain ⟨m, hm⟩ : ∃ m, m = gs.length := ⟨_, rfl⟩
  have HM := Lib.hid hm
  have R1 := Lib.hid hr; have SZ := Lib.hid hz
  have TF : Hid (T = if 20 < m then 9 else listG nameF 7 ((gs.map bs).take 0) ((gs.map bs).drop 0)) := Lib.hid (by rw [hT, hm]; unfold listF; rw [List.length_map]; rfl)
  obtain ⟨ba, cap, rfl, hc, _⟩ := hr
  rw [← hm] at hc hl ⊢
  clear hT hm hz
  by_cases h20 : 20 < m
  · have T9 : Hid (T = 9) := Lib.hid (by rw [TF.out, if_pos h20])
    go_enter Tryz.func87, Tryz.ntmps87
    go_wp2_with fail
    go_ret
    exact ⟨by rw [T9.out]; rfl, Below.refl _ _⟩
  have TG : Hid (T = listG nameF 7 ((gs.map bs).take 0) ((gs.map bs).drop 0)) := Lib.hid (by rw [TF.out, if_neg h20])
  clear TF
  go_enter Tryz.func87, Tryz.ntmps87
  go_wp2_with fail
  go_loopg [3, 4, 5] m (fun k i _ _ wr => ∃ n : Nat, n ≤ m ∧ k = m - n ∧ i = .int .i64 (n : Int) ∧ Hid (T = listG nameF 7 ((gs.map bs).take n) ((gs.map bs).drop n)) ∧ Hid (Below w.heap.size w wr))
  case atStart => exact ⟨0, by omega, rfl, rfl, TG, Lib.hid (Below.refl _ _)⟩
  case round =>
    clear TG
    obtain ⟨n, hn, rfl, rfl, hg, hd⟩ := hrel
    by_cases b : n < m
    · have hnl : n < gs.length := by rw [← HM.out]; exact b
      have ST := listG_step nameF 7 (gs.map bs) n (by rw [List.length_map]; exact hnl)
      obtain ⟨b0, off, cap', e0, _, hb0, hcell⟩ := R1.out.at n hnl
      cases e0
      obtain ⟨g, hg2⟩ : ∃ g, g = gs[n] := ⟨_, rfl⟩
      have LG : (gs.map bs)[n]'(by rw [List.length_map]; exact hnl) = bs g := by rw [hg2]; simp
      rw [← hg2] at hcell
      rw [LG, ← hg.out] at ST
      have hcc : wr.cell? ⟨b0, off + n, none⟩ = some (.string g) := (hd.out.cell (p := ⟨b0, off + n, none⟩) hb0).trans hcell
      have hgz : g.size ≤ 1000000 := by rw [hg2]; exact SZ.out _ (List.getElem_mem hnl)
      have C := Lib.hid (rgcheck_any g wr (by omega))
      obtain ⟨c, hcx⟩ : ∃ c, c = nameF (bs g) := ⟨_, rfl⟩
      rw [← hcx] at C ST
      have STH := Lib.hid ST
      have CELL := Lib.hid hcell
      clear hcell hg2 LG hcx hg hnl hgz ST
      by_cases c0 : c = 0
      · have q1 : ((c : Int) != 0) = false := int_nneq (by omega)
        have ST2 : Hid (T = if bs g ∈ (gs.map bs).take n then 7 else listG nameF 7 ((gs.map bs).take (n + 1)) ((gs.map bs).drop (n + 1))) := Lib.hid (by rw [STH.out, if_neg (fun h => h c0)])
        clear STH c0
        go_wp2_with fail
        refine C.out.mono ?_
        rintro e w2 ⟨rfl, hb2⟩
        have B2 := Lib.hid (hd.out.trans (hb2.mono hd.out.size))
        clear hb2 C hcc
        go_wp2_with fail
        go_loopg [5] n (fun k i wr => ∃ q : Nat, q ≤ n ∧ k = n - q ∧ i = .int .i64 (q : Int) ∧ Hid (bs g ∉ (gs.map bs).take q) ∧ Hid (Dr w2 wr))
        case atStart => exact ⟨0, by omega, rfl, rfl, Lib.hid (by simp), Lib.hid (Dr.refl _)⟩
        case round =>
          obtain ⟨q, hq, rfl, rfl, hno, hd3⟩ := hrel
          by_cases b2 : q < n
          · have hql : q < gs.length := by rw [← HM.out]; omega
            have hqm : q < m := by omega
            obtain ⟨b1, off1, cap1, e1, _, hb1, hcell1⟩ := R1.out.at q hql
            cases e1
            obtain ⟨h, hh⟩ : ∃ h, h = gs[q] := ⟨_, rfl⟩
            rw [← hh] at hcell1
            have BB : Below w.heap.size w wr := B2.out.trans ((Dr.below hd3.out).mono B2.out.size)
            have k1 : wr.cell? ⟨b0, off + q, none⟩ = some (.string h) := (BB.cell (p := ⟨b0, off + q, none⟩) hb0).trans hcell1
            have k2 : wr.cell? ⟨b0, off + n, none⟩ = some (.string g) := (BB.cell (p := ⟨b0, off + n, none⟩) hb0).trans CELL.out
            have hTK : (gs.map bs).take (q + 1) = (gs.map bs).take q ++ [bs h] := by
              rw [List.take_succ_eq_append_getElem (by rw [List.length_map]; exact hql), hh]; simp
            have TK := Lib.hid hTK
            by_cases e : h = g
            · have e1 := toList_eq e
              have T7 : Hid (T = 7) := Lib.hid (by
                rw [ST2.out, if_pos]
                have : (gs.map bs).take (q + 1) <+: (gs.map bs).take n := List.take_prefix_take_left (by omega)
                exact this.subset (by rw [hTK, e]; simp))
              have BF := Lib.hid BB
              have k1d : wr.drew.cell? ⟨b0, off + q, none⟩ = some (.string h) := k1
              have k2d : wr.drew.cell? ⟨b0, off + n, none⟩ = some (.string g) := k2
              clear e hTK hh BB hcell1
              go_upto_region 12 with fail
              refine wp_region_still_lit (by kernel_rfl) (by kernel_rfl) ?_
              repeat still_step
              refine wpStill_nil ?_
              go_wp2_with fail
              go_ret
              exact ⟨by rw [T7.out]; rfl, by (first | exact BF.out | exact BF.out.drew)⟩
            · have e1 := toList_ne e
              have k1d : wr.drew.cell? ⟨b0, off + q, none⟩ = some (.string h) := k1
              have k2d : wr.drew.cell? ⟨b0, off + n, none⟩ = some (.string g) := k2
              have N2 : Hid (bs g ∉ (gs.map bs).take (q + 1)) := Lib.hid (by
                rw [hTK]
                intro hm
                rcases List.mem_append.1 hm with hm | hm
                · exact hno.out hm
                · simp at hm
                  exact e (by rw [← strN_bs h, ← strN_bs g, hm]))
              clear e hTK hh BB hcell1
              go_upto_region 12 with fail
              refine wp_region_still_lit (by kernel_rfl) (by kernel_rfl) ?_
              repeat still_step
              refine wpStill_nil ?_
              go_wp2_with fail
              go_roundg (n - (q + 1))
              case measure => omega
              case rel => exact ⟨q + 1, by omega, rfl, by go_num, N2, by (first | exact hd3 | exact Lib.hid hd3.out.drew | exact Lib.hid (hd3.out.drewN 1))⟩
          · obtain rfl : q = n := by omega
            have NX : Hid (T = listG nameF 7 ((gs.map bs).take (q + 1)) ((gs.map bs).drop (q + 1))) := Lib.hid (by rw [ST2.out, if_neg hno.out])
            have BF : Hid (Below w.heap.size w wr) := Lib.hid (B2.out.trans ((Dr.below hd3.out).mono B2.out.size))
            go_wp2_with fail
            go_roundg (m - (q + 1))
            case measure => omega
            case rel => exact ⟨q + 1, by omega, rfl, by go_num, NX, by (first | exact BF | exact Lib.hid BF.out.drew)⟩
      · have q1 : ((c : Int) != 0) = true := int_neq (by omega)
        have TC : Hid (T = c) := Lib.hid (by rw [STH.out, if_pos c0])
        clear STH c0
        go_wp2_with fail
        refine C.out.mono ?_
        rintro e w2 ⟨rfl, hb2⟩
        have B2 := Lib.hid (hd.out.trans (hb2.mono hd.out.size))
        clear hb2 C hcc
        go_wp2_with fail
        go_ret
        exact ⟨by rw [TC.out]; rfl, B2.out⟩
    · have T0 : Hid (T = 0) := Lib.hid (by rw [hg.out, List.drop_of_length_le (by rw [List.length_map, ← HM.out]; omega)]; rfl)
      clear hg
      go_wp2_with fail
      go_ret
      exact ⟨by rw [T0.out]; rfl, hd.out⟩
end Go.Proofs.YtohmdledkhgdaaaGreatDoor
