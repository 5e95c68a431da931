/- The words of a command: rest. -/
import Derived.Test.YtohmdledkhgdaaaGreatDoorLo12
import Derived.Lib.BytesEntry
import Derived.Lib.Bytealg
namespace Go.Proofs.YtohmdledkhgdaaaGreatDoor
open Go.RowKit
set_option linter.unusedVariables false
set_option maxRecDepth 100000
def RestPost (w : World) (b : Nat) (t : ByteArray) (en er : Nat) (e : Ending) (w' : World) : Prop :=
  ∃ (s : ByteArray) (st' en' : Nat) (a : Int) (er' : Nat), e = .returned (.string s) ∧ s.size ≤ t.size ∧ WS w' b t st' en' a er' ∧ Fr1 b w w' ∧ fe er' (fin ((bs t).drop en')) = fe er (restF ((bs t).drop en))
theorem fin_end {t : ByteArray} {en : Nat} (h : t.size ≤ en) : fin ((bs t).drop en) = 0 := by
  unfold fin; rw [List.drop_of_length_le (by rw [bs_length]; exact h), if_pos rfl]
theorem fe_z0 (n : Nat) : fe n 0 = n := by unfold fe; split <;> simp_all
set_option maxHeartbeats 2000000 in
theorem rest_any (w : World) (b : Nat) (t : ByteArray) (st en : Nat) (at_ : Int) (er : Nat) (h : WS w b t st en at_ er) (hb9 : 9 ≤ b) (ht : t.size ≤ 1000000) :
    Calls Tryz.prog 191 #[.pointer (some ⟨b, 0, none⟩)] w (RestPost w b t en er) := by
  have hc0 : w.cell? ⟨b, 0, none⟩ = some (.string t) := cell_of_row w b 0 _ _ _ h.1
  have hc2 : w.cell? ⟨b, 2, none⟩ = some (.int .i64 (en : Int)) := cell_of_row w b 2 _ _ _ h.1
  have hc4 : w.cell? ⟨b, 4, none⟩ = some (.int .i64 (er : Int)) := cell_of_row w b 4 _ _ _ h.1
  have hen := h.2
  have H := Lib.hid h; have LEN := Lib.hid (bs_length t)
  clear h
  by_cases h0 : er = 0
  · subst h0
    have hc4' : w.cell? ⟨b, 4, none⟩ = some (.int .i64 0) := hc4
    clear hc4
    by_cases hq : en = t.size
    · have hz : ((en : Int) == (t.size : Int)) = true := by rw [hq]; simp
      have LAW : Hid (fe 0 (fin ((bs t).drop en)) = fe 0 (restF ((bs t).drop en))) := Lib.hid (by
        rw [List.drop_of_length_le (by rw [LEN.out]; omega)]; rfl)
      clear hq
      go_enter Tryz.func191, Tryz.ntmps191
      go_upto_region 1 with fail
      go_quiet (fail)
      go_wp2_with fail
      go_ret
      exact ⟨⟨#[]⟩, st, en, at_, 0, rfl, Nat.zero_le _, H.out.below (Dr.below ⟨nq, rfl⟩), Dr.fr ⟨nq, rfl⟩, LAW.out⟩
    · have hlt : en < t.size := by omega
      have hz : ((en : Int) == (t.size : Int)) = false := int_ne (by omega)
      obtain ⟨t1, ht1⟩ : ∃ t1, t1 = t.extract (en + 1) t.size := ⟨_, rfl⟩
      have hts : t1.size = t.size - (en + 1) := by rw [ht1, ByteArray.size_extract]; omega
      have hb1 : bs t1 = (bs t).drop (en + 1) := by rw [ht1, bs_extract, List.take_of_length_le (by rw [LEN.out]; exact Nat.le_refl _)]
      have HT := Lib.hid ht1
      have LAW : Hid (∀ m, (m = if bs t1 = [] then 4 else txtF (bs t1)) → fe m (fin ((bs t).drop t.size)) = fe 0 (restF ((bs t).drop en))) := Lib.hid (fun m hm => by
        rw [fin_end (Nat.le_refl _), fe_z0, show (bs t).drop en = (bs t)[en]'(by rw [LEN.out]; exact hlt) :: (bs t).drop (en + 1) from List.drop_eq_getElem_cons _, hm, hb1]
        rfl)
      have htt : t1.size ≤ t.size := by omega
      clear hq hts hb1 ht1
      go_enter Tryz.func191, Tryz.ntmps191
      go_upto_region 1 with fail
      go_quiet (fail)
      obtain ⟨w0, hw0⟩ : ∃ w0, w0 = w.drewN nq := ⟨_, rfl⟩
      have H0 : Hid (WS w0 b t st en at_ 0) := Lib.hid (by rw [hw0]; exact H.out.below (Dr.below ⟨nq, rfl⟩))
      have F0 : Hid (Fr1 b w w0) := Lib.hid (by rw [hw0]; exact Dr.fr ⟨nq, rfl⟩)
      rw [← hw0]
      clear hw0 hc0 hc2 hc4' H
      have hc0 : w0.cell? ⟨b, 0, none⟩ = some (.string t) := cell_of_row w0 b 0 _ _ _ H0.out.1
      have hc1 : w0.cell? ⟨b, 1, none⟩ = some (.int .i64 (st : Int)) := cell_of_row w0 b 1 _ _ _ H0.out.1
      have hc2 : w0.cell? ⟨b, 2, none⟩ = some (.int .i64 (en : Int)) := cell_of_row w0 b 2 _ _ _ H0.out.1
      have hf1 : w0.frozen? ⟨b, 1, none⟩ = false := by have := H0.out.1; simp [World.frozen?, this]
      have hf2 : w0.frozen? ⟨b, 2, none⟩ = false := by have := H0.out.1; simp [World.frozen?, this]
      go_upto_region 3 with fail
      go_region
      obtain ⟨w1, hw1⟩ : ∃ w1, w1 = ((w0.setCell ⟨b, 1, none⟩ (.int .i64 ((en : Int) + 1))).setCell ⟨b, 2, none⟩ (.int .i64 (t.size : Int))).drew := ⟨_, rfl⟩
      have H1 : Hid (WS w1 b t (en + 1) t.size at_ 0) := Lib.hid (by rw [hw1]; exact ⟨setB (setB H0.out.1 1 _) 2 _, Nat.le_refl _⟩)
      have F1 : Hid (Fr1 b w w1) := Lib.hid (by rw [hw1]; exact ((F0.out.trans (Fr1.setC _)).trans (Fr1.setC _)).trans (Dr.fr ⟨1, rfl⟩))
      rw [← hw1]
      clear hw1 hc0 hc1 hc2 hf1 hf2
      have hc0 : w1.cell? ⟨b, 0, none⟩ = some (.string t) := cell_of_row w1 b 0 _ _ _ H1.out.1
      have hc1 : w1.cell? ⟨b, 1, none⟩ = some (.int .i64 ((en : Int) + 1)) := cell_of_row w1 b 1 _ _ _ H1.out.1
      go_upto_region 4 with fail
      go_quiet (fail)
      obtain ⟨w2, hw2⟩ : ∃ w2, w2 = w1.drewN nq := ⟨_, rfl⟩
      have H2 : Hid (WS w2 b t (en + 1) t.size at_ 0) := Lib.hid (by rw [hw2]; exact H1.out.below (Dr.below ⟨nq, rfl⟩))
      have F2 : Hid (Fr1 b w w2) := Lib.hid (by rw [hw2]; exact F1.out.trans (Dr.fr ⟨nq, rfl⟩))
      rw [← hw2]
      clear hw2 hc0 hc1
      have hc1 : w2.cell? ⟨b, 1, none⟩ = some (.int .i64 ((en : Int) + 1)) := cell_of_row w2 b 1 _ _ _ H2.out.1
      go_upto_region 5 with fail
      rw [show t.extract (en + 1) t.size = t1 from HT.out.symm]
      clear HT
      have CT : Hid (∀ w, Calls Tryz.prog 227 #[.string t1] w fun e w'' => e = .returned (.int .i64 (txtF (bs t1) : Nat)) ∧ w'' = w) := Lib.hid (fun w => (ctext_any t1 w (by omega)).mono fun e w' h => ⟨h.1, h.2.symm⟩)
      obtain ⟨m, hm⟩ : ∃ m, m = txtF (bs t1) := ⟨_, rfl⟩
      rw [← hm] at CT LAW
      clear hm
      have TAIL : Hid (∀ (wX : World) (a : Int) (n : Nat), WS wX b t (en + 1) t.size a n → Fr1 b w wX → fe n m = (if bs t1 = [] then 4 else m) → ∃ wY, wY = wX.drew ∧ wY.cell? ⟨b, 1, none⟩ = some (.int .i64 ((en : Int) + 1)) ∧ Calls Tryz.prog 146 #[.pointer (some ⟨b, 0, none⟩), .int .i64 ((en : Int) + 1), .int .i64 (m : Int)] wY (fun e w' => (∃ v, e = .returned v) ∧ RestPost w b t en 0 (.returned (.string t1)) w')) := Lib.hid (fun wX a n hw hf hfe => by
        have hb : Below wX.heap.size wX wX.drew := Dr.below ⟨1, rfl⟩
        have hw2 := hw.below hb
        refine ⟨_, rfl, cell_of_row wX.drew b 1 _ _ _ hw2.1, (fail_any wX.drew b t (en + 1) t.size a n hw2 _ m).mono ?_⟩
        rintro e w' ⟨⟨v, rfl⟩, ⟨a', h3⟩, f3⟩
        exact ⟨⟨_, rfl⟩, t1, en + 1, t.size, a', _, rfl, htt, h3, (hf.trans (Fr1.of_below hb)).trans f3, LAW.out _ hfe⟩)
      by_cases he : t1 = ⟨#[]⟩
      · have qe : t1.toList.isEmpty = true := by rw [he, ByteArray.toList_eq]; rfl
        have FL := Lib.hid (fail_any w2 b t (en + 1) t.size at_ 0 H2.out ((en : Int) + 1) 4)
        have BE : Hid (bs t1 = []) := Lib.hid (by rw [he]; rfl)
        clear he
        go_upto_region 6 with fail
        go_wp2_with fail
        refine FL.out.mono ?_
        rintro e w3 ⟨⟨v, rfl⟩, ⟨a', h3⟩, f3⟩
        obtain ⟨wY, hY, hd1, FZ⟩ := TAIL.out w3 a' 4 h3 (F2.out.trans f3) (by rw [if_pos BE.out]; rfl)
        have FZ := Lib.hid FZ
        clear FL f3 hc1 h3 TAIL LAW
        go_upto_region 7 with fail
        refine wp_region_still_tail 7 (by kernel_rfl) (by kernel_rfl) ?_
        simp only [List.take_succ_cons, List.take_zero, List.drop_succ_cons, List.drop_zero]
        change wpStill _ _ w3.drew (fun a' => wpList _ _ _ _ a' w3.drew) _ _
        rw [← hY]
        clear hY
        repeat still_step
        still_call (CT.out _)
        refine wpStill_nil ?_
        go_wp2_with fail
        refine FZ.out.mono ?_
        rintro e w4 ⟨⟨v, rfl⟩, hp⟩
        have HP := Lib.hid hp
        clear hp
        go_wp2_with fail
        go_ret
        exact HP.out
      · have qe : t1.toList.isEmpty = false := str_ne (fun h => he (ByteArray.ext (Array.eq_empty_of_size_eq_zero h)))
        obtain ⟨wY, hY, hd1, FZ⟩ := TAIL.out w2 at_ 0 H2.out F2.out (by rw [if_neg (fun h => he (by
          have : t1.size = 0 := by rw [← bs_length, h]; rfl
          exact ByteArray.ext (Array.eq_empty_of_size_eq_zero this)))]; rfl)
        have FZ := Lib.hid FZ
        clear TAIL LAW hc1 he
        go_upto_region 7 with fail
        refine wp_region_still_tail 7 (by kernel_rfl) (by kernel_rfl) ?_
        simp only [List.take_succ_cons, List.take_zero, List.drop_succ_cons, List.drop_zero]
        change wpStill _ _ w2.drew (fun a' => wpList _ _ _ _ a' w2.drew) _ _
        rw [← hY]
        clear hY
        repeat still_step
        still_call (CT.out _)
        refine wpStill_nil ?_
        go_wp2_with fail
        refine FZ.out.mono ?_
        rintro e w4 ⟨⟨v, rfl⟩, hp⟩
        have HP := Lib.hid hp
        clear hp
        go_wp2_with fail
        go_ret
        exact HP.out
  · have hz : ((er : Int) == 0) = false := int_ne (by omega)
    have hz2 : ((er : Int) != 0) = true := by simp [bne, hz]
    have LAW : Hid (fe er (fin ((bs t).drop en)) = fe er (restF ((bs t).drop en))) := Lib.hid (by unfold fe; rw [if_pos h0, if_pos h0])
    clear h0
    go_enter Tryz.func191, Tryz.ntmps191
    go_upto_region 1 with fail
    go_quiet (fail)
    go_wp2_with fail
    go_ret
    exact ⟨⟨#[]⟩, st, en, at_, er, rfl, Nat.zero_le _, H.out.below (Dr.below ⟨nq, rfl⟩), Dr.fr ⟨nq, rfl⟩, LAW.out⟩
/-- The bytes that the first j digits have made. -/
def pa (l : List Nat) (j : Nat) : List Nat := (List.range 16).map fun k => if 2 * k + 1 < j then 16 * hv (l.getD (2 * k) 0) + hv (l.getD (2 * k + 1) 0) else if 2 * k < j then hv (l.getD (2 * k) 0) else 0
theorem pa_len (l : List Nat) (j : Nat) : (pa l j).length = 16 := by simp [pa]
theorem pa_at {l : List Nat} {j k : Nat} (hk : k < 16) : (pa l j)[k]? = some (if 2 * k + 1 < j then 16 * hv (l.getD (2 * k) 0) + hv (l.getD (2 * k + 1) 0) else if 2 * k < j then hv (l.getD (2 * k) 0) else 0) := by
  simp [pa, hk]
theorem hv_lt (c : Nat) : hv c < 16 := by
  unfold hv
  cases h : hvl c with
  | none => decide
  | some x => unfold hvl at h; split at h <;> (try split at h) <;> simp at h <;> simp <;> omega
theorem pa_zero (l : List Nat) : pa l 0 = List.replicate 16 0 := by
  apply List.ext_getElem?
  intro k
  by_cases hk : k < 16
  · rw [pa_at hk, if_neg (by omega), if_neg (by omega), List.getElem?_replicate, if_pos hk]
  · rw [List.getElem?_eq_none (by rw [pa_len]; omega), List.getElem?_eq_none (by simp; omega)]
theorem pa_step {l : List Nat} {j k v : Nat} (hk : k = j / 2) (hj : j < 32) (hv' : (pa l j)[k]? = some v) : pa l (j + 1) = (pa l j).set k (16 * v % 256 + hv (l.getD j 0)) ∧ v < 16 := by
  rw [pa_at (by omega)] at hv'
  have hv2 := Option.some.inj hv'
  rw [if_neg (by omega)] at hv2
  have h16 : v < 16 := by
    rw [← hv2]; split
    · exact hv_lt _
    · decide
  refine ⟨?_, h16⟩
  apply List.ext_getElem?
  intro n
  by_cases hn : n < 16
  · rw [List.getElem?_set]
    by_cases e : k = n
    · subst e
      rw [if_pos rfl, if_pos (by rw [pa_len]; exact hn), pa_at hn]
      by_cases hp : j = 2 * k
      · rw [if_neg (by omega), if_pos (by omega)]
        rw [if_neg (by omega)] at hv2
        rw [← hv2, ← hp]; simp
      · have e2 : j = 2 * k + 1 := by omega
        rw [if_pos (by omega)]
        rw [if_pos (by omega)] at hv2
        rw [hv2, Nat.mod_eq_of_lt (by omega), e2]
    · rw [if_neg e, pa_at hn, pa_at hn]
      by_cases c1 : 2 * n + 1 < j
      · rw [if_pos (by omega), if_pos c1]
      · rw [if_neg (by omega), if_neg c1]
        by_cases c2 : 2 * n < j
        · rw [if_pos (by omega), if_pos c2]
        · rw [if_neg (by omega), if_neg c2]
  · rw [List.getElem?_eq_none (by rw [pa_len]; omega), List.getElem?_eq_none (by rw [List.length_set, pa_len]; omega)]
theorem uh_at : ∀ (n : Nat) (l : List Nat) (k : Nat), l.length = 2 * n → k < n → (uh l)[k]? = some (16 * hv (l.getD (2 * k) 0) + hv (l.getD (2 * k + 1) 0))
  | n + 1, a :: b :: t, 0, h, hk => by simp [uh]
  | n + 1, a :: b :: t, k + 1, h, hk => by
    simp only [uh, List.getElem?_cons_succ]
    rw [uh_at n t k (by simp at h; omega) (by omega)]
    rw [show 2 * (k + 1) = 2 * k + 1 + 1 by omega]
    simp
  | n + 1, [_], _, h, _ => by simp at h; omega
  | n + 1, [], _, h, _ => by simp at h
theorem pa_end {l : List Nat} (h : l.length = 32) : pa l 32 = uh l := by
  apply List.ext_getElem?
  intro k
  by_cases hk : k < 16
  · rw [pa_at hk, uh_at 16 l k (by omega) hk, if_pos (by omega)]
  · rw [List.getElem?_eq_none (by rw [pa_len]; omega), List.getElem?_eq_none (by rw [uh_len 16 l (by omega)]; omega)]
theorem aut_good {l : List Nat} (h : l.length = 32) (hd : l.all hdB = true) : autP l = some (uh l) := by
  unfold autP; rw [if_pos h]; exact unhex_uh 16 l (by omega) hd
theorem aut_len {l : List Nat} (h : l.length ≠ 32) : autP l = none := by unfold autP; rw [if_neg h]
theorem aut_bad {l : List Nat} {j : Nat} (hj : j < l.length) (hd : hdB (l.getD j 0) = false) : autP l = none := by
  unfold autP
  split
  · refine unhex_bad _ ?_
    rw [List.all_eq_false]
    refine ⟨l[j], List.getElem_mem hj, ?_⟩
    rw [List.getD_eq_getElem?_getD, List.getElem?_eq_getElem hj, Option.getD_some] at hd
    rw [hd]; decide
  · rfl
theorem size16 : (Tryz.prog.info? 33).map (·.size) = some 16 := by kernel_rfl
structure AuOk (l : List Nat) : Prop where
  len : l.length = 16
  lt : ∀ x ∈ l, x < 256
theorem aut_ok {l id : List Nat} (h : autP l = some id) : AuOk id := by
  unfold autP at h
  split at h
  · rename_i h32
    by_cases hd : l.all hdB = true
    · rw [unhex_uh 16 l (by omega) hd] at h; cases h
      exact ⟨uh_len 16 l (by omega), uh_lt l hd⟩
    · rw [unhex_bad l (by simpa using hd)] at h; cases h
  · cases h
theorem cl_au {l : List Nat} (h : AuOk l) : Cl 16 (idA l) := ⟨by rw [idA_size, h.len], one_idA _⟩
def zero16 : List Nat := List.replicate 16 0
theorem zero16_ok : AuOk zero16 := ⟨by simp [zero16], fun x hx => by simp [zero16] at hx; omega⟩
/-- What ParseAuthor returns. -/
def PaPost (l : List Nat) (w : World) (e : Ending) (w' : World) : Prop :=
  ∃ (a er : Int), (match autP l with
    | some id => e = .returned (.tuple #[.agg (idA id), .int .i64 a, .int .i64 0])
    | none => e = .returned (.tuple #[.agg (idA zero16), .int .i64 a, .int .i64 er]) ∧ er ≠ 0) ∧ Below w.heap.size w w'
theorem hvz_bad {c : Nat} (h : hdB c = false) : hvz c = -1 := by
  unfold hdB at h; unfold hvz
  cases hc : hvl c with
  | none => rfl
  | some x => rw [hc] at h; simp at h
theorem hvz_good {c : Nat} (h : hdB c = true) : hvz c = (hv c : Int) := by
  unfold hdB at h; unfold hvz hv
  cases hc : hvl c with
  | none => rw [hc] at h; simp at h
  | some x => rfl
theorem idA_set (l : List Nat) (k v : Nat) : (idA l).setIfInBounds k (U v) = idA (l.set k v) := by
  unfold idA
  rw [List.setIfInBounds_toArray, List.map_set]
set_option maxHeartbeats 4000000 in
theorem pauthor_any (s : ByteArray) (w : World) (hs : s.size ≤ 1000000) :
    Calls Tryz.prog 111 #[.string s] w (PaPost (bs s) w) := by
  obtain ⟨zs, hzs⟩ : ∃ zs, zs = idA zero16 := ⟨_, rfl⟩
  have LEN := Lib.hid (bs_length s)
  have HZS := Lib.hid hzs
  have ZCL : Hid (Cl 16 zs) := Lib.hid (by rw [hzs]; exact cl_au zero16_ok)
  have BU : Hid (∀ w, (Instr.build 33 #[]).run Tryz.prog w = .ok (.agg zs) w) := Lib.hid (fun w => by rw [hzs]; kernel_rfl)
  have START : Hid (w.alloc (.cells (Array.replicate 16 (.int .u8 0)) 33) = w.alloc (.cells zs 33)) := Lib.hid (by rw [hzs]; rfl)
  -- an answer
  have FIN : Hid (∀ (w4 : World) (old cs : Array Value), Cl 16 cs → old.size = 16 → w4.heap[w.heap.size]? = some (.cells old 33 (0, 0)) → Below w.heap.size w w4 →
      (storeVar 33 ⟨w.heap.size, 0, none⟩ (.agg cs)).run Tryz.prog w4 = .ok () (w4.setRow w.heap.size cs) ∧
      (∀ tmps : Array Value, tmps.getD 2 undef = .pointer (some ⟨w.heap.size, 0, none⟩) → (results Tryz.f111 tmps).run Tryz.prog (w4.setRow w.heap.size cs) = .ok (.tuple #[.agg cs, tmps.getD 3 undef, tmps.getD 4 undef]) (w4.setRow w.heap.size cs)) ∧
      Below w.heap.size w (w4.setRow w.heap.size cs)) := Lib.hid (fun w4 old cs hcl ho hg hb =>
    ⟨run_storeVar_row (P := Tryz.prog) w4 w.heap.size _ 33 old cs hg (by rw [hcl.1]; exact size16) (by rw [hcl.1, ho]) hcl.2,
     fun tmps h2 => results_cell_tmp2 Tryz.results111 tmps _ w.heap.size _ _ _ _ h2 (setRow_heap w4 w.heap.size old cs _ _ hg) Tryz.underlying33 rfl (by rw [hcl.1]; exact size16),
     below_setRow hb (Nat.le_refl _) cs⟩)
  have NO : Hid (autP (bs s) = none → ∀ a er : Int, er ≠ 0 → ∀ w', Below w.heap.size w w' → PaPost (bs s) w (.returned (.tuple #[.agg zs, .int .i64 a, .int .i64 er])) w') := Lib.hid (fun h a er he w' hb => ⟨a, er, by rw [h, HZS.out]; exact ⟨rfl, he⟩, hb⟩)
  obtain ⟨mn, hmn⟩ : ∃ mn : Nat, mn = min s.size 32 := ⟨_, rfl⟩
  have hm1 : mn ≤ s.size := by omega
  have hm2 : mn ≤ 32 := by omega
  have HMN := Lib.hid hmn
  have mi : min (s.size : Int) 32 = (mn : Int) := by omega
  have PZ : Hid (zs = idA (pa (bs s) 0)) := Lib.hid (by rw [hzs, pa_zero]; rfl)
  clear hzs hmn
  go_enter Tryz.func111, Tryz.ntmps111
  go_wp2_with fail
  go_loopg [5, 6, 10] mn (fun k x y i wr => ∃ j : Nat, j ≤ mn ∧ k = mn - j ∧ i = .int .i64 (j : Int) ∧ Hid (∀ q, q < j → hdB ((bs s).getD q 0) = true) ∧ Hid (wr.heap[w.heap.size]? = some (.cells (idA (pa (bs s) j)) 33 (0, 0))) ∧ Hid (Below w.heap.size w wr))
  case atStart => exact ⟨0, by omega, rfl, rfl, Lib.hid (fun q hq => by omega), Lib.hid (by have h := heap_alloc_new w (.cells zs 33); rw [← START.out] at h; rw [← PZ.out]; exact h), Lib.hid ((Below.refl _ _).alloc (Nat.le_refl _) _)⟩
  case round =>
    obtain ⟨j, hj, rfl, rfl, hg, hcell, hbel⟩ := hrel
    by_cases hlt : j < mn
    · obtain ⟨c, hc⟩ : ∃ c, c = (bs s).getD j 0 := ⟨_, rfl⟩
      have hc2 : c < 256 := by rw [hc]; exact bs_lt' s j
      have xn : ∀ w, (Instr.index 9 (.string s) (.int .i64 (j : Int))).run Tryz.prog w = .ok (.int .u8 (c : Int)) w := fun w => by rw [idx_str 9 Tryz.underlying9 s .i64 j j rfl (by omega), hc]
      have IX := Lib.hid (ixhexl wr c hc2)
      by_cases hd : hdB c = true
      · rw [hvz_good hd] at IX
        obtain ⟨y, hy⟩ : ∃ y, y = hv c := ⟨_, rfl⟩
        have hy16 : y < 16 := by rw [hy]; exact hv_lt c
        rw [← hy] at IX
        obtain ⟨k, hk⟩ : ∃ k, k = j / 2 := ⟨_, rfl⟩
        have hk16 : k < 16 := by omega
        obtain ⟨v, hv'⟩ : ∃ v, (pa (bs s) j)[k]? = some v := ⟨_, pa_at hk16⟩
        obtain ⟨hst, hv16⟩ := pa_step hk (by omega) hv'
        rw [← hc, ← hy] at hst
        have hck : wr.cell? ⟨w.heap.size, k, none⟩ = some (.int .u8 (v : Int)) := by rw [cell_of_row wr _ k _ _ _ hcell.out]; unfold idA; rw [List.getElem?_toArray, List.getElem?_map, hv']; rfl
        have hfk : wr.frozen? ⟨w.heap.size, k, none⟩ = false := by have := hcell.out; simp [World.frozen?, this]
        obtain ⟨z, hz⟩ : ∃ z, z = 16 * v % 256 + y := ⟨_, rfl⟩
        rw [← hz] at hst
        have s1 : IntKind.u8.wrap ((v : Int) * 16) = (v : Int) * 16 := by rw [IntKind.wrap_u8]; omega
        have s3 : IntKind.u8.wrap (y : Int) = (y : Int) := by rw [IntKind.wrap_u8]; omega
        have s2 : Go.bits .or .u8 ((v : Int) * 16) (y : Int) = (z : Int) := by
          rw [bits_join .u8 8 (by decide) wraps_u8 4 _ _ (by omega) (by omega) (by omega) (by omega) (by omega) (by omega)]; omega
        have hdv : Int.tdiv (j : Int) 2 = (k : Int) := by rw [Int.tdiv_eq_ediv_of_nonneg (by omega)]; omega
        have HW : Hid ((wr.setCell ⟨w.heap.size, k, none⟩ (.int .u8 (z : Int))).heap[w.heap.size]? = some (.cells (idA (pa (bs s) (j + 1))) 33 (0, 0))) := Lib.hid (by rw [hst, ← idA_set]; exact setB hcell.out k _)
        have BW : Hid (Below w.heap.size w (wr.setCell ⟨w.heap.size, k, none⟩ (.int .u8 (z : Int)))) := Lib.hid (hbel.out.setCell (p := ⟨w.heap.size, k, none⟩) (Nat.le_refl _) _)
        have G2 : Hid (∀ q, q < j + 1 → hdB ((bs s).getD q 0) = true) := Lib.hid (fun q hq => by
          by_cases e : q = j
          · rw [e, ← hc]; exact hd
          · exact hg.out q (by omega))
        have HK := Lib.hid hk
        clear hd hc hy hv' hst hz hg hcell hbel FIN NO BU START HK hk PZ
        go_wp2_with (go_at_call 151; refine IX.out.mono ?_; rintro e w' ⟨rfl, rfl⟩)
        go_roundg (mn - (j + 1))
        case measure => omega
        case rel => exact ⟨j + 1, by omega, rfl, by go_num, G2, HW, BW⟩
      · have hd' : hdB c = false := by simpa using hd
        rw [hvz_bad hd'] at IX
        have NN := Lib.hid (NO.out (aut_bad (j := j) (by rw [LEN.out]; omega) (by rw [← hc]; exact hd')))
        obtain ⟨ST, RES, BB⟩ := FIN.out wr _ zs ZCL.out (by rw [idA_size, pa_len]) hcell.out hbel.out
        have ST := Lib.hid ST; have RES := Lib.hid RES; have BB := Lib.hid BB
        clear hd hd' hc FIN NO
        go_wp2_with (first
          | (go_at_call 151; refine IX.out.mono ?_; rintro e w' ⟨rfl, rfl⟩)
          | ((with_reducible refine wpList_build0 33 rfl rfl ?_); refine ⟨_, BU.out _, ?_⟩)
          | ((with_reducible refine wpList_store 33 rfl _ _ rfl ?_); refine ⟨_, _, _, rfl, rfl, ST.out, ?_⟩))
        exact bodyPost_ret (RES.out _ rfl) rfl (NN.out _ 6 (by decide) _ BB.out)
    · obtain rfl : j = mn := by omega
      by_cases h1 : s.size < 32
      · have NN := Lib.hid (NO.out (aut_len (by rw [LEN.out]; omega)))
        obtain ⟨ST, RES, BB⟩ := FIN.out wr _ zs ZCL.out (by rw [idA_size, pa_len]) hcell.out hbel.out
        have ST := Lib.hid ST; have RES := Lib.hid RES; have BB := Lib.hid BB
        clear FIN NO
        go_wp2_with (first
          | ((with_reducible refine wpList_build0 33 rfl rfl ?_); refine ⟨_, BU.out _, ?_⟩)
          | ((with_reducible refine wpList_store 33 rfl _ _ rfl ?_); refine ⟨_, _, _, rfl, rfl, ST.out, ?_⟩))
        exact bodyPost_ret (RES.out _ rfl) rfl (NN.out _ 4 (by decide) _ BB.out)
      · by_cases h2 : 32 < s.size
        · have NN := Lib.hid (NO.out (aut_len (by rw [LEN.out]; omega)))
          obtain ⟨ST, RES, BB⟩ := FIN.out wr _ zs ZCL.out (by rw [idA_size, pa_len]) hcell.out hbel.out
          have ST := Lib.hid ST; have RES := Lib.hid RES; have BB := Lib.hid BB
          clear FIN NO
          go_wp2_with (first
            | ((with_reducible refine wpList_build0 33 rfl rfl ?_); refine ⟨_, BU.out _, ?_⟩)
            | ((with_reducible refine wpList_store 33 rfl _ _ rfl ?_); refine ⟨_, _, _, rfl, rfl, ST.out, ?_⟩))
          exact bodyPost_ret (RES.out _ rfl) rfl (NN.out _ 5 (by decide) _ BB.out)
        · have h32 : s.size = 32 := by omega
          have hj32 : j = 32 := by have := HMN.out; omega
          have GG : (bs s).all hdB = true := all_of_getD (fun q hq => hg.out q (by rw [LEN.out] at hq; omega))
          have YES := Lib.hid (aut_good (by rw [LEN.out]; exact h32) GG)
          have OK := aut_ok YES.out
          have hcell' := hcell.out
          rw [hj32, pa_end (by rw [LEN.out]; exact h32)] at hcell'
          obtain ⟨cs, hcs⟩ : ∃ cs, cs = idA (uh (bs s)) := ⟨_, rfl⟩
          have CL : Cl 16 cs := by rw [hcs]; exact cl_au OK
          rw [← hcs] at hcell'
          obtain ⟨ST, RES, BB⟩ := FIN.out wr _ cs CL CL.1 hcell' hbel.out
          have ST := Lib.hid ST; have RES := Lib.hid RES; have BB := Lib.hid BB
          have LD := Lib.hid (run_load_cl wr w.heap.size 16 _ _ cs _ _ hcell' rfl Tryz.underlying33 size16 CL.1)
          have HCS := Lib.hid hcs
          clear FIN NO OK hcell' CL GG hcs hj32 hcell hbel hg BU START
          go_upto_region 13 with fail
          refine wp_region_list ?_
          simp only []
          refine wpList_load 33 rfl _ rfl ⟨_, _, rfl, LD.out, ?_⟩
          go_wp2_with ((with_reducible refine wpList_store 33 rfl _ _ rfl ?_); refine ⟨_, _, _, rfl, rfl, ST.out, ?_⟩)
          exact bodyPost_ret (RES.out _ rfl) rfl (by unfold PaPost; rw [YES.out]; simp only []; rw [← HCS.out]; exact ⟨_, 0, rfl, BB.out⟩)
def cmpN (l m : List Nat) : Int := Lib.compareBytes (Lib.bytesOf (l.map fun x => ((x : Nat) : Int))) (Lib.bytesOf (m.map fun x => ((x : Nat) : Int)))
theorem u8_lt {a b : Nat} (ha : a < 256) (hb : b < 256) : (UInt8.ofNat a < UInt8.ofNat b) ↔ a < b := by
  rw [UInt8.lt_iff_toNat_lt]
  simp [Nat.mod_eq_of_lt ha, Nat.mod_eq_of_lt hb]
theorem cmpN_lt : ∀ (l m : List Nat), (∀ x ∈ l, x < 256) → (∀ x ∈ m, x < 256) → decide (0 ≤ cmpN l m) = !ltL l m
  | [], [], _, _ => by decide
  | [], y :: m, _, _ => by simp [cmpN, Lib.bytesOf, Lib.compareBytes, ltL]
  | x :: l, [], _, _ => by simp [cmpN, Lib.bytesOf, Lib.compareBytes, ltL]
  | x :: l, y :: m, hl, hm => by
    have ih := cmpN_lt l m (fun z hz => hl z (List.mem_cons_of_mem _ hz)) (fun z hz => hm z (List.mem_cons_of_mem _ hz))
    have hx := hl x (List.mem_cons_self ..)
    have hy := hm y (List.mem_cons_self ..)
    have e : cmpN (x :: l) (y :: m) = if x < y then -1 else if y < x then 1 else cmpN l m := by
      unfold cmpN
      simp only [Lib.bytesOf, List.map_cons, Lib.compareBytes, Int.toNat_natCast]
      simp only [u8_lt hx hy, u8_lt hy hx]
    rw [e]
    by_cases h1 : x < y
    · rw [if_pos h1]; simp [ltL, h1]
    · rw [if_neg h1]
      by_cases h2 : y < x
      · rw [if_pos h2]; simp [ltL]; omega
      · rw [if_neg h2, ih]
        obtain rfl : x = y := by omega
        simp [ltL]
theorem run_bytesOf_row (w : World) {P : Program} (b off cap : Nat) (l : List Nat) (h : ∀ j u, (idA l)[j]? = some u → w.cell? ⟨b, off + j, none⟩ = some u) :
    (Extern.Bytes.bytesOf (.slice (some ⟨b, off, none⟩) l.length cap)).run P w = .ok ⟨(Lib.bytesOf (l.map fun x => ((x : Nat) : Int))).toArray⟩ w := by
  have := Lib.run_loadBytesX (P := P) w (l.map fun x => ((x : Nat) : Int)) ⟨b, off, none⟩ .empty (by
    intro j x hx
    have := h j (.int .u8 x) (by unfold idA; rw [List.getElem?_toArray, List.getElem?_map]; rw [List.getElem?_map] at hx; cases hq : l[j]? with
      | none => rw [hq] at hx; cases hx
      | some y => rw [hq] at hx; simp at hx; subst hx; rfl)
    rw [← this]
    unfold Addr.add
    by_cases hj : j = 0
    · subst hj; rfl
    · simp [hj])
  rw [List.length_map] at this
  unfold Extern.Bytes.bytesOf
  rw [this, show ByteArray.empty.data = #[] from rfl, Array.empty_append]
theorem run_cmp (w : World) {P : Program} (b o c b' o' c' : Nat) (l m : List Nat) (h : ∀ j u, (idA l)[j]? = some u → w.cell? ⟨b, o + j, none⟩ = some u) (h' : ∀ j u, (idA m)[j]? = some u → w.cell? ⟨b', o' + j, none⟩ = some u) :
    (Extern.BytealgCompare.compare #[.slice (some ⟨b, o, none⟩) l.length c, .slice (some ⟨b', o', none⟩) m.length c']).run P w = .ok (.int .i64 (cmpN l m)) w := by
  change Sem.run P (do pure (goInt (Extern.BytealgCompare.cmp (← Extern.Bytes.bytesOf (.slice (some ⟨b, o, none⟩) l.length c)) (← Extern.Bytes.bytesOf (.slice (some ⟨b', o', none⟩) m.length c'))))) w = _
  simp only [Sem.run_bind, Sem.run_pure, run_bytesOf_row w b o c l h, run_bytesOf_row w b' o' c' m h', Result.andThen]
  rw [Lib.cmp_eq]
  rfl
theorem compare_any (w : World) (b o c b' o' c' : Nat) (l m : List Nat) (h : ∀ j u, (idA l)[j]? = some u → w.cell? ⟨b, o + j, none⟩ = some u) (h' : ∀ j u, (idA m)[j]? = some u → w.cell? ⟨b', o' + j, none⟩ = some u) :
    Calls Tryz.prog 248 #[.slice (some ⟨b, o, none⟩) l.length c, .slice (some ⟨b', o', none⟩) m.length c'] w fun e w' => e = .returned (.int .i64 (cmpN l m)) ∧ w' = w := by
  have R := Lib.hid (run_cmp (P := Tryz.prog) w b o c b' o' c' l m h h')
  obtain ⟨z, hz⟩ : ∃ z, z = cmpN l m := ⟨_, rfl⟩
  rw [← hz] at R ⊢
  clear h h' hz
  go_enter Tryz.func248, Tryz.ntmps248
  go_wp2_with fail
  rw [run_callFunc_extern Tryz.func254 (by kernel_rfl) (by kernel_rfl) (by kernel_rfl) (e := Extern.BytealgCompare.compare) (by kernel_rfl), R.out]
  simp only [Result.andThen]
  rw [Oper.upon_value]
  go_wp2_with fail
  go_ret
  exact ⟨rfl, rfl⟩
/-- A slice that reads as a list of authors. -/
def ARow (w : World) (a : Option Addr) (ids : List (List Nat)) : Prop :=
  ids ≠ [] → ∃ b off, a = some ⟨b, off, none⟩ ∧ ∀ j (h : j < ids.length) k u, (idA ids[j])[k]? = some u → w.cell? ⟨b, off + j * 16 + k, none⟩ = some u
theorem inc_no : ∀ (l : List (List Nat)) (i : Nat) (h : i + 1 < l.length), ltL l[i] l[i + 1] = false → incB l = false
  | a :: b :: t, 0, h, hl => by simp at hl; simp [incB, hl]
  | a :: b :: t, i + 1, h, hl => by
    have := inc_no (b :: t) i (by simpa using h) (by simpa using hl)
    simp [incB, this]
  | [_], _, h, _ => by simp at h
  | [], _, h, _ => by simp at h
theorem inc_yes : ∀ (l : List (List Nat)), (∀ i (h : i + 1 < l.length), ltL l[i] l[i + 1] = true) → incB l = true
  | a :: b :: t, h => by
    have h0 := h 0 (by simp)
    have := inc_yes (b :: t) (fun i hi => by have := h (i + 1) (by simpa using hi); simpa using this)
    simp at h0
    simp [incB, h0, this]
  | [_], _ => rfl
  | [], _ => rfl
set_option maxHeartbeats 1000000 in
theorem inc_any (w : World) (a : Option Addr) (cap : Nat) (ids : List (List Nat)) (hn : ids.length ≤ 1000000) (hA : ARow w a ids) (hok : ∀ x ∈ ids, AuOk x) :
    Calls Tryz.prog 226 #[.slice a ids.length cap] w fun e w' => e = .returned (.bool (incB ids)) ∧ Dr w w' := by
  obtain ⟨n, hn'⟩ : ∃ n, n = ids.length := ⟨_, rfl⟩
  have HN := Lib.hid hn'
  rw [← hn'] at hn ⊢
  have HA := Lib.hid hA; have HOK := Lib.hid hok
  clear hn' hA hok
  go_enter Tryz.func226, Tryz.ntmps226
  go_wp2_with fail
  go_loopg [3] n (fun k i wr => ∃ j : Nat, (j + 1 ≤ n ∨ j = 0) ∧ k = n - j ∧ i = .int .i64 ((j : Int) + 1) ∧ Hid (∀ q (h : q + 1 < ids.length), q < j → ltL ids[q] ids[q + 1] = true) ∧ Hid (Dr w wr))
  case atStart => exact ⟨0, .inr rfl, rfl, rfl, Lib.hid (fun q h hq => by omega), Lib.hid (Dr.refl w)⟩
  case round =>
    obtain ⟨j, hj, rfl, rfl, hg, hdr⟩ := hrel
    by_cases hlt : j + 1 < n
    · have hl : j + 1 < ids.length := by rw [← HN.out]; exact hlt
      obtain ⟨b, off, rfl, hcells⟩ := HA.out (fun e => by rw [e] at hl; simp at hl)
      have o1 := HOK.out _ (List.getElem_mem (show j < ids.length by omega))
      have o2 := HOK.out _ (List.getElem_mem hl)
      have CM : Hid (∀ q, Calls Tryz.prog 248 #[.slice (some ⟨b, off + j * 16, none⟩) 16 16, .slice (some ⟨b, off + (j + 1) * 16, none⟩) 16 16] (wr.drewN q) fun e w' => e = .returned (.int .i64 (cmpN ids[j] ids[j + 1])) ∧ w' = wr.drewN q) := Lib.hid (fun q => by
        obtain ⟨p, hp⟩ := hdr.out
        have := compare_any (wr.drewN q) b (off + j * 16) 16 b (off + (j + 1) * 16) 16 ids[j] ids[j + 1] (fun k u hu => by rw [hp]; exact hcells j (by omega) k u hu) (fun k u hu => by rw [hp]; exact hcells (j + 1) hl k u hu)
        rw [o1.len, o2.len] at this
        exact this)
      have CL := Lib.hid (cmpN_lt ids[j] ids[j + 1] o1.lt o2.lt)
      have NO := Lib.hid (inc_no ids j hl)
      have G2 : Hid (ltL ids[j] ids[j + 1] = true → ∀ q (h : q + 1 < ids.length), q < j + 1 → ltL ids[q] ids[q + 1] = true) := Lib.hid (fun ht q h hq => by
        by_cases e : q = j
        · subst e; exact ht
        · exact hg.out q h (by omega))
      obtain ⟨z, hz⟩ : ∃ z, z = cmpN ids[j] ids[j + 1] := ⟨_, rfl⟩
      obtain ⟨r, hr⟩ : ∃ r, r = ltL ids[j] ids[j + 1] := ⟨_, rfl⟩
      rw [← hz] at CM CL
      rw [← hr] at CL NO G2
      have w1 : IntKind.i64.wrap ((j : Int) + 1 - 1) = (j : Int) := by rw [show (j : Int) + 1 - 1 = (j : Int) by omega]; exact IntWalk.i64_in _ (by omega)
      have w2 : IntKind.i64.wrap ((j : Int) + 1 + 1) = (j : Int) + 1 + 1 := IntWalk.i64_in _ (by omega)
      have p0 : (0 : Int) ≤ (j : Int) + 1 := by omega
      have p1 : (j : Int) + 1 < (n : Int) := by omega
      have p2 : (j : Int) < (n : Int) := by omega
      clear hz hr hcells hl o1 o2 HA HOK hg hj
      have cl := CL.out
      cases r
      · have cl' : decide (0 ≤ z) = true := cl
        have NO2 := Lib.hid (NO.out rfl)
        clear NO CL cl G2
        go_wp2_with fail
        go_quiet (first | (go_at_call 248; exact Calls.quiet_of_same (CM.out _)))
        go_wp2_with fail
        go_ret
        obtain ⟨p, hp⟩ := hdr.out
        exact ⟨by rw [NO2.out]; rfl, p + nq, by rw [hp, drewN_drewN]⟩
      · have cl' : decide (0 ≤ z) = false := cl
        have G3 := Lib.hid (G2.out rfl)
        clear NO CL cl G2
        go_wp2_with fail
        go_quiet (first | (go_at_call 248; exact Calls.quiet_of_same (CM.out _)))
        go_wp2_with fail
        go_roundg (n - (j + 1))
        case measure => omega
        case rel => exact ⟨j + 1, .inl hlt, rfl, by go_num, G3, Lib.hid (by obtain ⟨p, hp⟩ := hdr.out; exact ⟨p + nq, by rw [hp, drewN_drewN]⟩)⟩
    · have YES := Lib.hid (inc_yes ids (fun i h => hg.out i h (by rw [← HN.out] at h; omega)))
      go_wp2_with fail
      go_ret
      exact ⟨by rw [YES.out]; rfl, hdr.out⟩
/-- A public key as cells. -/
def pkC (h : Int) (r : List Nat) : Array Value := (.int .i64 h :: r.map U : List Value).toArray
theorem pkC_size {h : Int} {r : List Nat} (hr : r.length = 16) : (pkC h r).size = 17 := by simp [pkC, hr]
theorem pkC_0 (h : Int) (r : List Nat) : (pkC h r)[0]? = some (.int .i64 h) := rfl
theorem size_pk : (Tryz.prog.info? 35).map (·.size) = some 17 := by kernel_rfl
theorem load_pk (w : World) (g off : Nat) {h : Int} {r : List Nat} (hr : r.length = 16) (hp : ∀ j u, (pkC h r)[j]? = some u → w.cell? ⟨g, off + j, none⟩ = some u) :
    (loadVar 35 ⟨g, off, none⟩).run Tryz.prog w = .ok (.agg (pkC h r)) w :=
  run_loadVar_cells w g off 35 (pkC h r) _ Tryz.underlying35 rfl (by rw [pkC_size hr]; exact size_pk) hp
theorem cells_self (w : World) (g : Nat) (t : TypeId) (cs : Array Value) (fr : Nat × Nat) (hg : w.heap[g]? = some (.cells cs t fr)) : ∀ j u, cs[j]? = some u → w.cell? ⟨g, 0 + j, none⟩ = some u := fun j u hu => by
  rw [Nat.zero_add, cell_of_row w g j _ _ _ hg]; exact hu
theorem pkcheck_any (w : World) (h : Int) {r : List Nat} (hr : r.length = 16) :
    Calls Tryz.prog 63 #[.agg (pkC h r)] w fun e w' => e = .returned (.int .i64 (eIf (!heightB h) 2 : Nat)) ∧ Below w.heap.size w w' := by
  have H := Lib.hid (fun w => height_any w h)
  have c0 := pkC_0 h r
  obtain ⟨cs, hcs⟩ : ∃ cs, cs = pkC h r := ⟨_, rfl⟩
  obtain ⟨m, hm⟩ : ∃ m, m = eIf (!heightB h) 2 := ⟨_, rfl⟩
  rw [← hcs] at c0 ⊢
  rw [← hm] at H ⊢
  clear hcs hm hr
  go_enter Tryz.func63, Tryz.ntmps63
  go_wp2_with (go_at_call 106; refine (H.out _).mono ?_; rintro e w' ⟨rfl, rfl⟩)
  go_ret
  exact ⟨rfl, (Below.refl _ _).alloc (Nat.le_refl _) _⟩
set_option maxHeartbeats 1000000 in
theorem leaves_any (w : World) (h : Int) {r : List Nat} (hr : r.length = 16) :
    Calls Tryz.prog 64 #[.agg (pkC h r)] w fun e w' => e = .returned (.int .i64 (leavesN h)) ∧ Below w.heap.size w w' := by
  have c0 := pkC_0 h r
  have LD := Lib.hid (load_pk (w.alloc (.cells (pkC h r) 35)) w.heap.size 0 (h := h) hr (cells_self _ _ _ _ _ (heap_alloc_last w _)))
  have P := Lib.hid (pkcheck_any (w.alloc (.cells (pkC h r) 35)) h hr)
  obtain ⟨cs, hcs⟩ : ∃ cs, cs = pkC h r := ⟨_, rfl⟩
  have B0 : Hid (Below w.heap.size w (w.alloc (.cells cs 35))) := Lib.hid ((Below.refl _ _).alloc (Nat.le_refl _) _)
  rw [← hcs] at c0 P LD ⊢
  have HB0 : Hid ((w.alloc (.cells cs 35)).heap[w.heap.size]? = some (.cells cs 35 (0, 0))) := Lib.hid (heap_alloc_last w _)
  clear hcs hr
  by_cases hh : 1 ≤ h ∧ h ≤ 8
  · have hb : heightB h = true := by unfold heightB; rw [decide_eq_true hh.1, decide_eq_true hh.2]; rfl
    have LN : Hid (leavesN h = 2 ^ h.toNat) := Lib.hid (by unfold leavesN; rw [if_pos hb])
    rw [hb] at P
    clear hb
    obtain ⟨h1, h2⟩ := hh
    rcases (by omega : h = 1 ∨ h = 2 ∨ h = 3 ∨ h = 4 ∨ h = 5 ∨ h = 6 ∨ h = 7 ∨ h = 8) with rfl | rfl | rfl | rfl | rfl | rfl | rfl | rfl
    all_goals
      go_enter Tryz.func64, Tryz.ntmps64
      go_upto_region 1 with fail
      refine wp_region_list ?_
      simp only []
      refine wpList_load 35 rfl _ rfl ⟨_, _, rfl, LD.out, ?_⟩
      go_wp2_with fail
      refine P.out.mono ?_
      rintro e w1 ⟨rfl, hb1⟩
      have hz : w1.cell? ⟨w.heap.size, 0, none⟩ = cs[0]? := by
        rw [hb1.cell (p := ⟨w.heap.size, 0, none⟩) (by simp), cell_of_row _ _ _ _ _ _ HB0.out]
      rw [c0] at hz
      have B1 := Lib.hid (B0.out.trans (hb1.mono B0.out.size))
      clear hb1
      go_wp2_with fail
      go_ret
      exact ⟨by rw [LN.out]; rfl, B1.out⟩
  · have hb : heightB h = false := by unfold heightB; rw [Bool.eq_false_iff]; intro e; simp at e; exact hh e
    have LN : Hid (leavesN h = 0) := Lib.hid (by unfold leavesN; rw [if_neg (by rw [hb]; decide)])
    rw [hb] at P
    clear hb hh
    go_enter Tryz.func64, Tryz.ntmps64
    go_upto_region 1 with fail
    refine wp_region_list ?_
    simp only []
    refine wpList_load 35 rfl _ rfl ⟨_, _, rfl, LD.out, ?_⟩
    go_wp2_with fail
    refine P.out.mono ?_
    rintro e w1 ⟨rfl, hb1⟩
    have B1 := Lib.hid (B0.out.trans (hb1.mono B0.out.size))
    clear hb1
    go_wp2_with fail
    go_ret
    exact ⟨by rw [LN.out]; rfl, B1.out⟩
end Go.Proofs.YtohmdledkhgdaaaGreatDoor
/- Plain functions on lists: what the reference for base64 computes, and that it is the same. -/
namespace Go.Proofs.YtohmdledkhgdaaaGreatDoor
set_option linter.unusedVariables false
theorem drain_pre (f : Nat → Nat) (tt : Nat) (xs : List Nat) : ∀ (k b c : Nat) (ys : List Nat), drain f tt k b c (xs ++ ys) = ((drain f tt k b c ys).1, (drain f tt k b c ys).2.1, xs ++ (drain f tt k b c ys).2.2) := by
  intro k
  induction k with
  | zero => intro b c ys; rfl
  | succ k ih =>
    intro b c ys
    by_cases h : c < tt
    · simp [drain, h]
    · rw [drain_succ _ _ _ _ _ _ h, drain_succ _ _ _ _ _ _ h, List.append_assoc, ih]
theorem encF_len (l : List Nat) (hl : ∀ x ∈ l, x < 256) : (encF l).length = (l.length + 2) / 3 * 4 := by
  have h := encSt_inv l hl
  unfold encF
  rw [pad4_len]
  unfold encTail
  split
  · simp only [List.length_append, List.length_singleton]; omega
  · omega
end Go.Proofs.YtohmdledkhgdaaaGreatDoor
