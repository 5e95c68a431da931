/- Walk of base64.values: the map from letters to their values. -/
import Derived.Test.YtohmdledkhgdaaaGreatDoorLo03
import Derived.Deep.MidRow
import Derived.Maps.OwnOps
import Derived.Maps.OwnSet
import Derived.Laws.BitsLemmas
namespace Go.Proofs.YtohmdledkhgdaaaGreatDoor
open Go.RowKit Go.Maps
set_option linter.unusedVariables false
set_option maxRecDepth 100000
def alphCells : List Value := alph.map U
theorem alphCells_at (k : Nat) (h : k < 64) : alphCells[k]? = some (U (al k)) := by
  have hl : k < alph.length := by simp [alph]; omega
  simp [alphCells, al, List.getD, List.getElem?_eq_getElem hl]
theorem tab_range {w : World} (h : Tab w) : w.rangeAt 3 0 alphCells := by
  intro j v hv
  have hj : j < 64 := by
    have := (List.getElem?_eq_some_iff.1 hv).1
    simpa [alphCells, alph] using this
  rw [alphCells_at j hj] at hv
  cases hv
  rw [Nat.zero_add]
  exact h.cell j hj
theorem idx_alph (k : Nat) (h : k < 64) (w : World) : (Instr.index 177 (.agg alphCells.toArray) (.int .i64 k)).run Tryz.prog w = .ok (.int .u8 (al k)) w := by
  have hi : (0 : Int) ≤ (k : Int) ∧ (k : Int) < 64 := by omega
  simp [Instr.index, run_underlying Tryz.underlying177, asIntOf, hi, go_sem]
  rw [if_pos h, alphCells_at k h]
  rfl
theorem law5 : Keyed Tryz.prog 5 := int_keyed Tryz.underlying5
theorem zero3 (w : World) : (zeroValue 3).run Tryz.prog w = .ok (.int .i64 0) w := by kernel_rfl
theorem mkmap (w : World) : (Instr.makeMap 271 (some (.int .i64 64))).run Tryz.prog w = .ok (.map (some w.heap.size)) (w.alloc (.map #[] 0)) := by
  kernel_rfl
/-- The map behind k rounds. -/
def vMap (k : Nat) : DataW Unit := (List.range k).foldl (fun D i => D.put (.int .u8 (al i)) (.lit (.int .i64 i))) (.map [])
theorem vMap_succ (k : Nat) : vMap (k + 1) = (vMap k).put (.int .u8 (al k)) (.lit (.int .i64 k)) := by simp [vMap, List.range_succ]
theorem vMap_has : ∀ c : Nat, c < 256 → Maps.has (vMap 64) (.int .u8 c) = (vOf c).isSome := by decide +kernel
theorem vMap_at0 : ∀ c : Nat, c < 256 → (match (vMap 64).atKey (.int .u8 c) (.lit (.int .i64 0)) with | .lit (.int .i64 x) => decide (x = ((vOf c).getD 0 : Nat)) | _ => false) = true := by decide +kernel
theorem vMap_at (c : Nat) (h : c < 256) (x : Int) (hx : (vMap 64).atKey (.int .u8 c) (.lit (.int .i64 0)) = .lit (.int .i64 x)) : x = ((vOf c).getD 0 : Nat) := by
  have := vMap_at0 c h
  rw [hx] at this
  simpa using this
set_option maxHeartbeats 400000 in
theorem values_any (w : World) (ht : Tab w) :
    Calls Tryz.prog 235 #[] w fun e w' => e = .returned (.map (some w.heap.size)) ∧ w'.ownsMap Tryz.prog 5 (plainElem (H := Unit) Tryz.prog 3) w.heap.size 64 (vMap 64) ∧ Below w.heap.size w w' := by
  have hmm := mkmap
  have hr := tab_range ht
  have RA : Hid ((w.alloc (.map #[] 0)).rangeAt 3 0 alphCells) := tab_range (ht.below ((Below.refl _ _).alloc (Nat.le_refl _) _) ht.size)
  have hi : (Tryz.prog.info? 177).map (·.size) = some alphCells.length := by kernel_rfl
  obtain ⟨cs, hcs⟩ : ∃ cs, cs = alphCells := ⟨_, rfl⟩
  rw [← hcs] at RA hi
  have HCS := Lib.hid hcs; have HI := Lib.hid hi
  clear hr ht hcs hi
  go_enter Tryz.func235, Tryz.ntmps235
  go_wp2_with (with_reducible refine wpList_load_mid rfl 177 _ rfl 3 0 rfl cs _ RA.out Tryz.underlying177 rfl HI.out ?_)
  go_loopg [6] 64 (fun k i wr => ∃ j, j ≤ 64 ∧ k = 64 - j ∧ i = .int .i64 (j : Int) ∧ wr.ownsMap Tryz.prog 5 (plainElem (H := Unit) Tryz.prog 3) w.heap.size j (vMap j) ∧ Below w.heap.size w wr)
  case atStart => exact ⟨0, by omega, by omega, rfl, World.ownsMap_made _ _ _ _, (Below.refl _ _).alloc (Nat.le_refl _) _⟩
  case round =>
    obtain ⟨j, hj, rfl, rfl, hown, hb⟩ := hrel
    by_cases hlt : j < 64
    · have hx : ∀ w, (Instr.index 177 (.agg cs.toArray) (.int .i64 (j : Int))).run Tryz.prog w = .ok (.int .u8 (al j)) w := fun w => by rw [HCS.out]; exact idx_alph j hlt w
      have hal := al_lt j
      have hkey : keyOf Tryz.prog 5 (.int .u8 (al j)) = some (.int .u8 (al j)) := keyOf_int_mk Tryz.underlying5 (WalkArith.wf_u8 (by omega))
      go_wp2_with (at_mapUpdate; refine wpList_mapUpdate_own _ rfl _ _ _ 271 rfl 5 3 law5 Tryz.underlying271 _ w.heap.size j _ rfl hown (by unfold maxLen; omega) _ _ _ rfl rfl hkey _ [] (plainElem_int Tryz.underlying3 (WalkArith.wf_i64 (by omega))) ?_; intro w1 hown1 hgrow1)
      go_roundg (64 - (j + 1))
      case measure => omega
      case rel => exact ⟨j + 1, by omega, rfl, by go_num, by rw [vMap_succ]; exact hown1, hb.grown hgrow1 hb.size (fun j hj => by cases hj; exact Nat.le_refl _)⟩
    · obtain rfl : j = 64 := by omega
      go_wp2_with fail
      go_ret
      exact ⟨rfl, hown, hb⟩
/-- 's[i]' as a number. -/
theorem idx_str {P : Program} (t : TypeId) (ht : P.underlying t = some .string) (s : ByteArray) (k : IntKind) (i : Int) (j : Nat) (hi : i = j) (hj : j < s.size) (w : World) :
    (Instr.index t (.string s) (.int k i)).run P w = .ok (.int .u8 (((bs s).getD j 0 : Nat) : Int)) w := by
  subst hi
  rw [run_index_string w t s _ _ ht, dif_pos ⟨by omega, by omega⟩, bs_getD s j hj]
  rfl
theorem int_eq {a b : Int} (h : a = b) : (a == b) = true := by rw [h]; exact beq_self_eq_true b
theorem int_ne {a b : Int} (h : ¬ a = b) : (a == b) = false := beq_eq_false_iff_ne.2 h
theorem int_neq {a b : Int} (h : ¬ a = b) : (a != b) = true := bne_iff_ne.2 h
theorem int_nneq {a b : Int} (h : a = b) : (a != b) = false := by rw [h]; simp
theorem data_any (s : ByteArray) (w : World) (hs : s.size ≤ maxLen) :
    Calls Tryz.prog 233 #[.string s] w fun e w' => e = .returned (.int .i64 (dataF (bs s) : Nat)) ∧ w = w' := by
  unfold maxLen at hs
  by_cases h0 : s.size = 0
  · have hf : dataF (bs s) = 0 := by unfold dataF; rw [if_pos (by rw [bs_length]; exact .inl h0), bs_length, h0]
    rw [hf]
    have h0' : ((s.size : Int) == 0) = true := int_eq (by omega)
    clear hf
    go_enter Tryz.func233, Tryz.ntmps233
    go_wp2_with fail
    go_ret
    exact ⟨rfl, rfl⟩
  · have h0' : ((s.size : Int) == 0) = false := int_ne (by omega)
    by_cases h4 : s.size % 4 = 0
    · have h4' : ((s.size : Int) % 4 != 0) = false := int_nneq (by omega)
      obtain ⟨c1, hc1⟩ : ∃ c1, c1 = (bs s).getD (s.size - 1) 0 := ⟨_, rfl⟩
      obtain ⟨c2, hc2⟩ : ∃ c2, c2 = (bs s).getD (s.size - 2) 0 := ⟨_, rfl⟩
      have hx : ∀ w, (Instr.index 9 (.string s) (.int .i64 ((s.size : Int) - 1))).run Tryz.prog w = .ok (.int .u8 (c1 : Int)) w := fun w => by
        rw [idx_str 9 Tryz.underlying9 s .i64 ((s.size : Int) - 1) (s.size - 1) (by omega) (by omega), hc1]
      have hx2 : ∀ w, (Instr.index 9 (.string s) (.int .i64 ((s.size : Int) - 2))).run Tryz.prog w = .ok (.int .u8 (c2 : Int)) w := fun w => by
        rw [idx_str 9 Tryz.underlying9 s .i64 ((s.size : Int) - 2) (s.size - 2) (by omega) (by omega), hc2]
      by_cases hl : c1 = 61
      · have hl' : ((c1 : Int) != 61) = false := int_nneq (by omega)
        by_cases hm : c2 = 61
        · have hf : dataF (bs s) = s.size - 2 := by unfold dataF; rw [if_neg (by rw [bs_length, ← hc1]; omega), if_pos (by rw [bs_length, ← hc2]; exact hm), bs_length]
          rw [hf]
          have hm' : ((c2 : Int) == 61) = true := int_eq (by omega)
          clear hf hc1 hc2 hl hm
          go_enter Tryz.func233, Tryz.ntmps233
          go_wp2_with fail
          go_ret
          refine ⟨?_, rfl⟩
          simp; omega
        · have hf : dataF (bs s) = s.size - 1 := by unfold dataF; rw [if_neg (by rw [bs_length, ← hc1]; omega), if_neg (by rw [bs_length, ← hc2]; exact hm), bs_length]
          rw [hf]
          have hm' : ((c2 : Int) == 61) = false := int_ne (by omega)
          clear hf hc1 hc2 hl hm
          go_enter Tryz.func233, Tryz.ntmps233
          go_wp2_with fail
          go_ret
          refine ⟨?_, rfl⟩
          simp; omega
      · have hf : dataF (bs s) = s.size := by unfold dataF; rw [if_pos (by rw [bs_length, ← hc1]; exact .inr (.inr hl)), bs_length]
        rw [hf]
        have hl' : ((c1 : Int) != 61) = true := int_neq (by omega)
        clear hf hc1 hc2 hl
        go_enter Tryz.func233, Tryz.ntmps233
        go_wp2_with fail
        go_ret
        exact ⟨rfl, rfl⟩
    · have h4' : ((s.size : Int) % 4 != 0) = true := int_neq (by omega)
      have hf : dataF (bs s) = s.size := by unfold dataF; rw [if_pos (by rw [bs_length]; exact .inr (.inl h4)), bs_length]
      rw [hf]
      clear hf
      go_enter Tryz.func233, Tryz.ntmps233
      go_wp2_with fail
      go_ret
      exact ⟨rfl, rfl⟩
end Go.Proofs.YtohmdledkhgdaaaGreatDoor
/- The package utf8: how long a character is, and valid texts. -/
namespace Go.Proofs.YtohmdledkhgdaaaGreatDoor
open Go.RowKit
set_option linter.unusedVariables false
set_option maxRecDepth 100000
/-- A world that differs by draws alone. -/
def Dr (w w' : World) : Prop := ∃ q, w' = w.drewN q
theorem Dr.refl (w : World) : Dr w w := ⟨0, rfl⟩
theorem drewN_drewN (w : World) (a b : Nat) : (w.drewN a).drewN b = w.drewN (a + b) := by simp [World.drewN, Nat.add_assoc]
theorem Dr.drewN {w w' : World} (h : Dr w w') (q : Nat) : Dr w (w'.drewN q) := by
  obtain ⟨p, rfl⟩ := h; exact ⟨p + q, drewN_drewN _ _ _⟩
theorem Dr.trans {a b c : World} (h : Dr a b) (h' : Dr b c) : Dr a c := by obtain ⟨q, rfl⟩ := h'; exact h.drewN q
theorem ulen_any (w : World) (c : Nat) (hc : c < 256) : Calls Tryz.prog 246 #[.int .u8 (c : Int)] w fun e w' => e = .returned (.int .i64 (uLen c : Int)) ∧ w = w' := by
  have hk : c ≤ 127 ∨ (127 < c ∧ c < 194) ∨ (194 ≤ c ∧ c ≤ 223) ∨ (224 ≤ c ∧ c ≤ 239) ∨ (240 ≤ c ∧ c ≤ 244) ∨ 244 < c := by omega
  have e0 : uLen c = if c ≤ 127 then 1 else if c < 194 then 0 else if c ≤ 223 then 2 else if c ≤ 239 then 3 else if c ≤ 244 then 4 else 0 := rfl
  have E0 := Lib.hid e0
  clear e0
  rcases hk with h | ⟨h, h2⟩ | ⟨h, h2⟩ | ⟨h, h2⟩ | ⟨h, h2⟩ | h
  all_goals
    go_enter Tryz.func246, Tryz.ntmps246
    go_wp2_with fail
    go_ret
    refine ⟨?_, rfl⟩
    rw [E0.out]
    first
      | rw [if_pos (by omega)]; rfl
      | rw [if_neg (by omega), if_pos (by omega)]; rfl
      | rw [if_neg (by omega), if_neg (by omega), if_pos (by omega)]; rfl
      | rw [if_neg (by omega), if_neg (by omega), if_neg (by omega), if_pos (by omega)]; rfl
      | rw [if_neg (by omega), if_neg (by omega), if_neg (by omega), if_neg (by omega), if_pos (by omega)]; rfl
      | rw [if_neg (by omega), if_neg (by omega), if_neg (by omega), if_neg (by omega), if_neg (by omega)]; rfl
theorem uCont_val {f i c lo hi : Nat} (h1 : (if i = 1 ∧ f = 224 then 160 else if i = 1 ∧ f = 240 then 144 else 128) = lo) (h2 : (if i = 1 ∧ f = 237 then 159 else if i = 1 ∧ f = 244 then 143 else 191) = hi) {b : Bool} (hb : b = (decide (lo ≤ c) && decide (c ≤ hi))) : uCont f i c = b := by
  unfold uCont; rw [h1, h2, hb]
theorem ret_bool {a b : Bool} (h : a = b) : Ending.returned (.bool a) = .returned (.bool b) := by rw [h]
set_option maxHeartbeats 1000000 in
theorem ucont_any (w : World) (f i c : Nat) (hf : f < 256) (hi : i < 5) (hc : c < 256) : Calls Tryz.prog 247 #[.int .u8 (f : Int), .int .i64 (i : Int), .int .u8 (c : Int)] w fun e w' => e = .returned (.bool (uCont f i c)) ∧ w = w' := by
  obtain ⟨b, hb⟩ : ∃ b, b = uCont f i c := ⟨_, rfl⟩
  rw [← hb]
  have HB := Lib.hid hb
  clear hb
  by_cases h1 : i = 1
  · subst h1
    have hk : (f ≠ 224 ∧ f ≠ 237 ∧ f ≠ 240 ∧ f ≠ 244) ∨ f = 224 ∨ f = 237 ∨ f = 240 ∨ f = 244 := by omega
    rcases hk with ⟨h, h2, h3, h4⟩ | rfl | rfl | rfl | rfl
    · rcases (by omega : c < 128 ∨ (128 ≤ c ∧ c ≤ 191) ∨ 191 < c) with a | ⟨a, a'⟩ | a
      all_goals
        have q0 : ((f : Int) == 224) = false := int_ne (by omega)
        have q1 : ((f : Int) == 237) = false := int_ne (by omega)
        have q2 : ((f : Int) == 240) = false := int_ne (by omega)
        have q3 : ((f : Int) == 244) = false := int_ne (by omega)
        go_enter Tryz.func247, Tryz.ntmps247
        go_wp2_with fail
        go_ret
        refine ⟨?_, rfl⟩
        rw [HB.out, uCont_val (lo := 128) (hi := 191) (by rw [if_neg (fun h' => h h'.2), if_neg (fun h' => h3 h'.2)]) (by rw [if_neg (fun h' => h2 h'.2), if_neg (fun h' => h4 h'.2)]) rfl]
        exact ret_bool (by rw [Bool.eq_iff_iff]; simp only [Bool.and_eq_true, decide_eq_true_eq, false_iff, Bool.false_eq_true]; omega)
    · rcases (by omega : c < 160 ∨ (160 ≤ c ∧ c ≤ 191) ∨ 191 < c) with a | ⟨a, a'⟩ | a
      all_goals
        go_enter Tryz.func247, Tryz.ntmps247
        go_wp2_with fail
        go_ret
        refine ⟨?_, rfl⟩
        rw [HB.out, uCont_val (lo := 160) (hi := 191) (by rfl) (by rfl) rfl]
        exact ret_bool (by rw [Bool.eq_iff_iff]; simp only [Bool.and_eq_true, decide_eq_true_eq, false_iff, Bool.false_eq_true]; omega)
    · rcases (by omega : c < 128 ∨ (128 ≤ c ∧ c ≤ 159) ∨ 159 < c) with a | ⟨a, a'⟩ | a
      all_goals
        go_enter Tryz.func247, Tryz.ntmps247
        go_wp2_with fail
        go_ret
        refine ⟨?_, rfl⟩
        rw [HB.out, uCont_val (lo := 128) (hi := 159) (by rfl) (by rfl) rfl]
        exact ret_bool (by rw [Bool.eq_iff_iff]; simp only [Bool.and_eq_true, decide_eq_true_eq, false_iff, Bool.false_eq_true]; omega)
    · rcases (by omega : c < 144 ∨ (144 ≤ c ∧ c ≤ 191) ∨ 191 < c) with a | ⟨a, a'⟩ | a
      all_goals
        go_enter Tryz.func247, Tryz.ntmps247
        go_wp2_with fail
        go_ret
        refine ⟨?_, rfl⟩
        rw [HB.out, uCont_val (lo := 144) (hi := 191) (by rfl) (by rfl) rfl]
        exact ret_bool (by rw [Bool.eq_iff_iff]; simp only [Bool.and_eq_true, decide_eq_true_eq, false_iff, Bool.false_eq_true]; omega)
    · rcases (by omega : c < 128 ∨ (128 ≤ c ∧ c ≤ 143) ∨ 143 < c) with a | ⟨a, a'⟩ | a
      all_goals
        go_enter Tryz.func247, Tryz.ntmps247
        go_wp2_with fail
        go_ret
        refine ⟨?_, rfl⟩
        rw [HB.out, uCont_val (lo := 128) (hi := 143) (by rfl) (by rfl) rfl]
        exact ret_bool (by rw [Bool.eq_iff_iff]; simp only [Bool.and_eq_true, decide_eq_true_eq, false_iff, Bool.false_eq_true]; omega)
  · rcases (by omega : c < 128 ∨ (128 ≤ c ∧ c ≤ 191) ∨ 191 < c) with a | ⟨a, a'⟩ | a
    all_goals
      have q0 : ((i : Int) == 1) = false := int_ne (by omega)
      go_enter Tryz.func247, Tryz.ntmps247
      go_wp2_with fail
      go_ret
      refine ⟨?_, rfl⟩
      rw [HB.out, uCont_val (lo := 128) (hi := 191) (by rw [if_neg (fun h' => h1 h'.1), if_neg (fun h' => h1 h'.1)]) (by rw [if_neg (fun h' => h1 h'.1), if_neg (fun h' => h1 h'.1)]) rfl]
      exact ret_bool (by rw [Bool.eq_iff_iff]; simp only [Bool.and_eq_true, decide_eq_true_eq, false_iff, Bool.false_eq_true]; omega)
/-- What measure returns. -/
def MeasPost (l : List Nat) (w : World) (e : Ending) (w' : World) : Prop :=
  ∃ n : Nat, e = .returned (.tuple #[.int .i64 (n : Int), .bool (wholeB l)]) ∧ n ≤ l.length ∧ n ≤ 4 ∧ (wholeB l = true → n = rn l) ∧ Dr w w'
theorem idx0 (s : ByteArray) (c : Nat) (hc : c = (bs s).getD 0 0) (h : 0 < s.size) (w : World) : (Instr.index 9 (.string s) (.int .i64 0)).run Tryz.prog w = .ok (.int .u8 (c : Int)) w := by
  rw [idx_str 9 Tryz.underlying9 s .i64 0 0 rfl h, hc]
theorem bs_lt' (s : ByteArray) (i : Nat) : (bs s).getD i 0 < 256 := by
  by_cases h : i < (bs s).length
  · have := bs_lt s (bs s)[i] (List.getElem_mem h)
    simpa [List.getD, h] using this
  · simp [List.getD, h]
theorem bs_emp {s : ByteArray} (h : s.size = 0) : bs s = [] := List.length_eq_zero_iff.1 (by rw [bs_length]; exact h)
theorem str_emp {s : ByteArray} (h : s.size = 0) : s = ⟨#[]⟩ := by
  rw [← strN_bs s, bs_emp h]; rfl
theorem str_ne {s : ByteArray} (h : s.size ≠ 0) : s.toList.isEmpty = false := by
  rw [List.isEmpty_eq_false_iff]; intro e; apply h
  rw [← bs_length, bs, ← ByteArray.toList_eq, e]; rfl
set_option maxHeartbeats 1000000 in
theorem measure_any (s : ByteArray) (w : World) (hs : s.size ≤ maxLen) :
    Calls Tryz.prog 222 #[.string s] w (MeasPost (bs s) w) := by
  unfold maxLen at hs
  by_cases h0 : s.size = 0
  · obtain rfl := str_emp h0
    clear h0 hs
    go_enter Tryz.func222, Tryz.ntmps222
    go_wp2_with fail
    go_ret2
    exact ⟨0, rfl, by simp, by omega, (fun h => by cases h), Dr.refl _⟩
  · obtain ⟨f, hf⟩ : ∃ f, f = (bs s).getD 0 0 := ⟨_, rfl⟩
    have hf2 : f < 256 := by rw [hf]; exact bs_lt' s 0
    have x0 := idx0 s f hf (by omega)
    have n0 := str_ne h0
    obtain ⟨z, hz⟩ : ∃ z, z = uLen f := ⟨_, rfl⟩
    have hz4 : z ≤ 4 := by rw [hz]; exact uLen_le f
    have L0 : Hid (∀ w, Calls Tryz.prog 246 #[.int .u8 (f : Int)] w fun e w' => e = .returned (.int .i64 (z : Int)) ∧ w = w') := fun w => by rw [hz]; exact ulen_any w f hf2
    have HF := Lib.hid hf; have HZ := Lib.hid hz
    clear hf hz
    by_cases hz0 : z = 0
    · have z1 : ((z : Int) == 0) = true := int_eq (by omega)
      go_enter Tryz.func222, Tryz.ntmps222
      go_wp2_with (go_at_call 246; refine (L0.out _).mono ?_; rintro e w' ⟨rfl, rfl⟩)
      go_ret2
      have hw : wholeB (bs s) = false := whole_no _ (by rw [← HF.out, ← HZ.out]; exact fun h => h.1 hz0)
      exact ⟨0, by rw [hw]; rfl, by simp, by omega, (fun h => by rw [hw] at h; cases h), Dr.refl _⟩
    · have z1 : ((z : Int) == 0) = false := int_ne (by omega)
      go_enter Tryz.func222, Tryz.ntmps222
      go_wp2_with (go_at_call 246; refine (L0.out _).mono ?_; rintro e w' ⟨rfl, rfl⟩)
      go_loopg [2] 3 (fun k i wr => ∃ n : Nat, 1 ≤ n ∧ n ≤ z ∧ n ≤ s.size ∧ k = 4 - n ∧ i = .int .i64 (n : Int) ∧ Hid (∀ j, 1 ≤ j → j < n → uCont f j ((bs s).getD j 0) = true) ∧ Dr w wr)
      case atStart => exact ⟨1, by omega, by omega, by omega, rfl, rfl, (fun j a b => by omega), Dr.refl _⟩
      case round =>
        obtain ⟨n, h1, h2, h3, rfl, rfl, hc, hd⟩ := hrel
        have exit : ∀ (b : Bool) (w' : World), Dr w w' → b = ((n : Int) == (z : Int)) → (n = z ∨ (n < z ∧ (s.size ≤ n ∨ uCont f n ((bs s).getD n 0) = false))) → MeasPost (bs s) w (.returned (.tuple #[.int .i64 (n : Int), .bool b])) w' := by
          intro b w' hd' hb hex
          rcases hex with rfl | ⟨hlt, hno⟩
          · have hw : wholeB (bs s) = true := (whole_iff _).2 (by rw [← HF.out, ← HZ.out]; exact ⟨hz0, by rw [bs_length]; exact h3, hc.out⟩)
            exact ⟨n, by rw [hb, hw]; simp, by rw [bs_length]; exact h3, by omega, (fun _ => by rw [(rn_pos hw).1, ← HF.out, ← HZ.out]), hd'⟩
          · have hw : wholeB (bs s) = false := whole_no _ (by
              rw [← HF.out, ← HZ.out, bs_length]; rintro ⟨_, k2, k3⟩
              rcases hno with h | h
              · omega
              · rw [k3 n h1 hlt] at h; cases h)
            exact ⟨n, by rw [hb, hw, int_ne (by omega)], by rw [bs_length]; exact h3, by omega, (fun h => by rw [hw] at h; cases h), hd'⟩
        have EX := Lib.hid exit; have HD := Lib.hid hd
        clear exit hd
        by_cases a : n < z
        · have a1 : decide ((n : Int) < (z : Int)) = true := by simpa using a
          have z3 : ((n : Int) == (z : Int)) = false := int_ne (by omega)
          by_cases b : n < s.size
          · have b1 : decide ((n : Int) < (s.size : Int)) = true := by simpa using b
            obtain ⟨c, hcc⟩ : ∃ c, c = (bs s).getD n 0 := ⟨_, rfl⟩
            have hc2 : c < 256 := by rw [hcc]; exact bs_lt' s n
            have xn : ∀ w, (Instr.index 9 (.string s) (.int .i64 (n : Int))).run Tryz.prog w = .ok (.int .u8 (c : Int)) w := fun w => by rw [idx_str 9 Tryz.underlying9 s .i64 n n rfl b, hcc]
            by_cases u : uCont f n c = true
            · have CC : Hid (∀ q, Calls Tryz.prog 247 #[.int .u8 (f : Int), .int .i64 (n : Int), .int .u8 (c : Int)] (wr.drewN q) fun e w' => e = .returned (.bool true) ∧ w' = wr.drewN q) := fun q => (ucont_any _ f n c hf2 (by omega) hc2).mono fun e w' h => ⟨by rw [← u]; exact h.1, h.2.symm⟩
              have U := Lib.hid u; have HCC := Lib.hid hcc
              clear u hcc
              go_wp2_with fail
              go_quiet ((go_at_call 247; exact Calls.quiet_of_same (CC.out _)))
              go_wp2_with fail
              go_roundg (4 - (n + 1))
              case measure => omega
              case rel => exact ⟨n + 1, by omega, by omega, by omega, rfl, by go_num, (fun j k1 k2 => by
                by_cases e : j = n
                · rw [e, ← HCC.out]; exact U.out
                · exact hc.out j k1 (by omega)), HD.out.drewN _⟩
            · have u' : uCont f n c = false := by simpa using u
              have CC : Hid (∀ q, Calls Tryz.prog 247 #[.int .u8 (f : Int), .int .i64 (n : Int), .int .u8 (c : Int)] (wr.drewN q) fun e w' => e = .returned (.bool false) ∧ w' = wr.drewN q) := fun q => (ucont_any _ f n c hf2 (by omega) hc2).mono fun e w' h => ⟨by rw [← u']; exact h.1, h.2.symm⟩
              have U := Lib.hid u'; have HCC := Lib.hid hcc
              clear u u' hcc
              go_wp2_with fail
              go_quiet ((go_at_call 247; exact Calls.quiet_of_same (CC.out _)))
              go_wp2_with fail
              go_ret2
              exact EX.out _ _ (HD.out.drewN _) (int_ne (by omega)).symm (.inr ⟨a, .inr (by rw [← HCC.out]; exact U.out)⟩)
          · have b1 : decide ((n : Int) < (s.size : Int)) = false := by simpa using b
            go_wp2_with fail
            go_quiet (fail)
            go_wp2_with fail
            go_ret2
            exact EX.out _ _ (HD.out.drewN _) (int_ne (by omega)).symm (.inr ⟨a, .inl (by omega)⟩)
        · have a1 : decide ((n : Int) < (z : Int)) = false := by simpa using a
          have z3 : ((n : Int) == (z : Int)) = true := int_eq (by omega)
          go_wp2_with fail
          go_quiet (fail)
          go_wp2_with fail
          go_ret2
          exact EX.out _ _ (HD.out.drewN _) (int_eq (by omega)).symm (.inl (by omega))
def SomeI32 (w : World) (e : Ending) (w' : World) : Prop := ∃ r : Int, e = .returned (.int .i32 r) ∧ w = w'
set_option maxHeartbeats 1000000 in
theorem uvalue_any (s : ByteArray) (w : World) (h0 : 0 < s.size) (hs : s.size ≤ 4) :
    Calls Tryz.prog 223 #[.string s] w (SomeI32 w) := by
  obtain ⟨f, hf⟩ : ∃ f, f = (bs s).getD 0 0 := ⟨_, rfl⟩
  have hf2 : f < 256 := by rw [hf]; exact bs_lt' s 0
  have x0 := idx0 s f hf h0
  clear hf
  by_cases h1 : 1 < s.size
  all_goals
    go_enter Tryz.func223, Tryz.ntmps223
    go_wp2_with fail
    go_loopg [3, 4] 3 (fun k r i wr => ∃ (n : Nat) (x : Int), 1 ≤ n ∧ n ≤ s.size ∧ k = 4 - n ∧ i = .int .i64 (n : Int) ∧ r = .int .i32 x ∧ w = wr)
    case atStart => exact ⟨1, _, by omega, by omega, rfl, rfl, rfl, rfl⟩
    case round =>
      obtain ⟨n, x, hn, hn2, rfl, rfl, rfl, rfl⟩ := hrel
      by_cases b : n < s.size
      · obtain ⟨c, hcc⟩ : ∃ c, c = (bs s).getD n 0 := ⟨_, rfl⟩
        have hc2 : c < 256 := by rw [hcc]; exact bs_lt' s n
        have xn : ∀ w, (Instr.index 9 (.string s) (.int .i64 (n : Int))).run Tryz.prog w = .ok (.int .u8 (c : Int)) w := fun w => by rw [idx_str 9 Tryz.underlying9 s .i64 n n rfl b, hcc]
        clear hcc
        go_wp2_with fail
        go_roundg (4 - (n + 1))
        case measure => omega
        case rel => exact ⟨n + 1, _, by omega, by omega, rfl, by go_num, rfl, rfl⟩
      · go_wp2_with fail
        go_ret
        exact ⟨_, rfl, rfl⟩
theorem bs_extract (t : ByteArray) (a b : Nat) : bs (t.extract a b) = ((bs t).take b).drop a := by
  unfold bs
  simp [ByteArray.data_extract, Array.toList_extract, List.extract_eq_take_drop, List.drop_take]
theorem bs_from (t : ByteArray) (a : Nat) : bs (t.extract a t.size) = (bs t).drop a := by
  rw [bs_extract, List.take_of_length_le (by rw [bs_length]; exact Nat.le_refl _)]
theorem bs_to (t : ByteArray) (b : Nat) : bs (t.extract 0 b) = (bs t).take b := by
  rw [bs_extract]; simp
/-- What Decode of utf8 returns. -/
def UdPost (l : List Nat) (w : World) (e : Ending) (w' : World) : Prop :=
  ∃ (r : Int) (er : Int), e = .returned (.tuple #[.int .i32 r, .int .i64 (rn l : Int), .int .i64 er]) ∧ (rn l ≠ 0 → er = 0) ∧ (rn l = 0 → er ≠ 0) ∧ Dr w w'
set_option maxHeartbeats 1000000 in
theorem udecode_any (s : ByteArray) (w : World) (hs : s.size ≤ maxLen) :
    Calls Tryz.prog 181 #[.string s] w (UdPost (bs s) w) := by
  have M := Lib.hid (measure_any s w hs)
  unfold maxLen at hs
  by_cases h0 : s.size = 0
  · obtain rfl := str_emp h0
    clear h0 hs M
    go_enter Tryz.func181, Tryz.ntmps181
    go_wp2_with fail
    go_ret3
    exact ⟨0, 1, rfl, (fun h => absurd rfl h), (fun _ => by decide), Dr.refl _⟩
  · have n0 := str_ne h0
    go_enter Tryz.func181, Tryz.ntmps181
    go_wp2_with fail
    refine M.out.mono ?_
    rintro e w1 ⟨n, rfl, hn, hn4, hw, hd⟩
    rw [bs_length] at hn
    cases hb : wholeB (bs s)
    · have hr := rn_zero hb
      have HR := Lib.hid hr
      clear hw hr hb M
      by_cases z : n = 0
      · have z1 : ((n : Int) == 0) = true := int_eq (by omega)
        go_wp2_with fail
        go_ret3
        exact ⟨0, 6, by rw [HR.out]; rfl, (fun h => absurd HR.out h), (fun _ => by decide), hd⟩
      · have z1 : ((n : Int) == 0) = false := int_ne (by omega)
        by_cases y : n = s.size
        · have y1 : ((n : Int) == (s.size : Int)) = true := int_eq (by omega)
          go_wp2_with fail
          go_ret3
          exact ⟨0, 23, by rw [HR.out]; rfl, (fun h => absurd HR.out h), (fun _ => by decide), hd⟩
        · have y1 : ((n : Int) == (s.size : Int)) = false := int_ne (by omega)
          go_wp2_with fail
          go_ret3
          exact ⟨0, 3, by rw [HR.out]; rfl, (fun h => absurd HR.out h), (fun _ => by decide), hd⟩
    · obtain rfl := hw hb
      have hp := (rn_pos hb).2
      obtain ⟨n, hn'⟩ : ∃ n, n = rn (bs s) := ⟨_, rfl⟩
      rw [← hn'] at hn hn4 hp ⊢
      have HN := Lib.hid hn'
      clear hw hb M hn'
      go_wp2_with (go_at_call 223; refine (uvalue_any _ _ (by rw [ByteArray.size_extract]; omega) (by rw [ByteArray.size_extract]; omega)).mono ?_; rintro e w' ⟨r, rfl, rfl⟩)
      go_ret3
      exact ⟨r, 0, by rw [HN.out]; rfl, (fun _ => rfl), (fun h => by rw [HN.out] at hp; omega), hd⟩
def CkPost (l : List Nat) (w : World) (e : Ending) (w' : World) : Prop :=
  ∃ (n : Nat) (er : Int), e = .returned (.tuple #[.int .i64 (n : Int), .int .i64 er]) ∧ (vld l = true → er = 0) ∧ (vld l = false → er ≠ 0) ∧ Dr w w'
set_option maxHeartbeats 1000000 in
theorem ucheck_any (s : ByteArray) (w : World) (hs : s.size ≤ maxLen) :
    Calls Tryz.prog 149 #[.string s] w (CkPost (bs s) w) := by
  have hs' := hs
  have HS := Lib.hid hs'
  clear hs'
  unfold maxLen at hs
  go_enter Tryz.func149, Tryz.ntmps149
  go_wp2_with fail
  go_loopg [4] s.size (fun k i wr => ∃ n : Nat, n ≤ s.size ∧ k = s.size - n ∧ i = .int .i64 (n : Int) ∧ Hid (vld (bs s) = vld ((bs s).drop n)) ∧ Dr w wr)
  case atStart => exact ⟨0, by omega, rfl, rfl, rfl, Dr.refl _⟩
  case round =>
    obtain ⟨n, hn, rfl, rfl, hv, hd⟩ := hrel
    by_cases b : n < s.size
    · have hsz : (s.extract n s.size).size = s.size - n := by rw [ByteArray.size_extract]; omega
      have D := Lib.hid (udecode_any (s.extract n s.size) wr (by rw [hsz]; unfold maxLen; omega))
      have hl := (rn_le ((bs s).drop n)).1
      rw [List.length_drop, bs_length] at hl
      clear hsz
      go_wp2_with fail
      refine D.out.mono ?_
      rintro e w1 ⟨r, er, rfl, h1, h2, hd1⟩
      rw [bs_from] at h1 h2 ⊢
      obtain ⟨m, hm⟩ : ∃ m, m = rn ((bs s).drop n) := ⟨_, rfl⟩
      rw [← hm] at hl h1 h2 ⊢
      have hne : (bs s).drop n ≠ [] := by intro e; have := congrArg List.length e; rw [List.length_drop, bs_length] at this; simp at this; omega
      have hst := vld_step hne
      rw [← hm, List.drop_drop] at hst
      by_cases z : m = 0
      · have q := h2 z
        have q1 : (er != 0) = true := int_neq q
        have ST := Lib.hid hst; have H2 := Lib.hid h2; have H1 := Lib.hid h1
        clear hst hm h1 h2 hne D
        go_wp2_with fail
        go_ret2
        exact ⟨n, _, rfl, (fun h => by rw [hv.out, ST.out, z] at h; simp at h), (fun _ => q), hd.trans hd1⟩
      · obtain rfl := h1 z
        have ST := Lib.hid hst
        clear hst hm h1 h2 hne D
        go_wp2_with fail
        go_roundg (s.size - (n + m))
        case measure => omega
        case rel => exact ⟨n + m, by omega, rfl, by go_num, Lib.hid (by rw [hv.out, ST.out]; simp [z]), hd.trans hd1⟩
    · go_wp2_with fail
      go_ret2
      exact ⟨0, _, rfl, (fun _ => rfl), (fun h => by rw [hv.out, List.drop_of_length_le (by rw [bs_length]; omega)] at h; cases h), hd⟩
theorem uvalid_any (s : ByteArray) (w : World) (hs : s.size ≤ maxLen) :
    Calls Tryz.prog 141 #[.string s] w fun e w' => e = .returned (.bool (vld (bs s))) ∧ Dr w w' := by
  have C := Lib.hid (ucheck_any s w hs)
  clear hs
  go_enter Tryz.func141, Tryz.ntmps141
  go_wp2_with fail
  refine C.out.mono ?_
  rintro e w1 ⟨n, er, rfl, h1, h2, hd⟩
  cases hv : vld (bs s)
  · have q : (er == 0) = false := int_ne (h2 hv)
    have HV := Lib.hid hv
    clear h1 h2 hv C
    go_wp2_with fail
    go_ret
    exact ⟨by rw [HV.out]; rfl, hd⟩
  · obtain rfl := h1 hv
    have HV := Lib.hid hv
    clear h1 h2 hv C
    go_wp2_with fail
    go_ret
    exact ⟨by rw [HV.out]; rfl, hd⟩
/-- The value of an encoding, its first n bytes read. -/
def vini (l : List Nat) : Nat := if l.length ≤ 1 then l.getD 0 0 else l.getD 0 0 % 2 ^ (7 - l.length)
def vst (l : List Nat) (n : Nat) : Nat := ((l.take n).drop 1).foldl (fun r x => r * 64 + x % 64) (vini l)
theorem vst_succ (l : List Nat) (n : Nat) (h1 : 1 ≤ n) (h : n < l.length) : vst l (n + 1) = vst l n * 64 + l.getD n 0 % 64 := by
  unfold vst
  rw [List.take_succ_eq_append_getElem h, List.drop_append_of_le_length (by simp; omega), List.foldl_append]
  simp [List.getD, List.getElem?_eq_getElem h]
theorem vst_one (l : List Nat) : vst l 1 = vini l := by
  unfold vst; cases l <;> simp
theorem cpt_vst (l : List Nat) (h : rn l ≠ 0) : cpt l = vst (l.take (rn l)) (rn l) := by
  have hl := (rn_le l).1
  unfold cpt vst vini
  rw [List.take_take, Nat.min_self, List.length_take, Nat.min_eq_left hl]
  have e : (l.take (rn l)).getD 0 0 = l.getD 0 0 := by
    simp only [List.getD_eq_getElem?_getD, List.getElem?_take, if_pos (show 0 < rn l by omega)]
  rw [e]
theorem vini_lt (l : List Nat) (hb : l.getD 0 0 < 256) (h : 1 < l.length) (h4 : l.length ≤ 4) : vini l < 2 ^ (7 - l.length) := by
  unfold vini; rw [if_neg (by omega)]; exact Nat.mod_lt _ (Nat.two_pow_pos _)
theorem vst_lt (l : List Nat) (hb : l.getD 0 0 < 256) (h1 : 1 < l.length) (h4 : l.length ≤ 4) : ∀ n, 1 ≤ n → n ≤ l.length → vst l n < 2 ^ (7 - l.length) * 64 ^ (n - 1) := by
  intro n hn
  induction n with
  | zero => omega
  | succ n ih =>
    intro hle
    by_cases h : n = 0
    · subst h; rw [vst_one]; simpa using vini_lt l hb h1 h4
    · have := ih (by omega) (by omega)
      rw [vst_succ l n (by omega) (by omega)]
      have e : 64 ^ (n + 1 - 1) = 64 ^ (n - 1) * 64 := by rw [← Nat.pow_succ]; congr 1; omega
      rw [e, ← Nat.mul_assoc]
      have hm : l.getD n 0 % 64 < 64 := Nat.mod_lt _ (by decide)
      omega
theorem vst_lt' (l : List Nat) (hb : l.getD 0 0 < 256) (h1 : 1 < l.length) (h4 : l.length ≤ 4) (n : Nat) (hn : 1 ≤ n) (hle : n < l.length) : vst l n < 32768 := by
  have := vst_lt l hb h1 h4 n hn (by omega)
  rcases (by omega : l.length = 2 ∨ l.length = 3 ∨ l.length = 4) with h | h | h
  · rw [h] at this hle; obtain rfl : n = 1 := by omega
    simp at this; omega
  · rw [h] at this hle
    rcases (by omega : n = 1 ∨ n = 2) with rfl | rfl <;> simp at this <;> omega
  · rw [h] at this hle
    rcases (by omega : n = 1 ∨ n = 2 ∨ n = 3) with rfl | rfl | rfl <;> simp at this <;> omega
theorem and_msk (k : Nat) (hk : k ≤ 7) (c : Nat) (hc : c < 256) : Go.bits .and .i32 (c : Int) ((2 : Int) ^ k - 1) = ((c % 2 ^ k : Nat) : Int) := by
  rw [bits_mask .i32 31 (by decide) wraps_i32 k (by omega) (c : Int) (by omega) (by omega)]
  simp
theorem and63 (c : Nat) (hc : c < 256) : Go.bits .and .u8 (c : Int) 63 = ((c % 64 : Nat) : Int) := by
  rw [u8_and63 _ (by omega) (by omega)]; simp
theorem or6 (r c : Nat) (hr : r < 32768) (hc : c < 64) : Go.bits .or .i32 ((r : Int) * 64) (c : Int) = ((r * 64 + c : Nat) : Int) := by
  have := bits_join .i32 31 (by decide) wraps_i32 6 ((r : Int) * 64) (c : Int) (by omega) (by omega) (by omega) (by omega) (by omega) (by omega)
  rw [this]; simp
set_option maxHeartbeats 1000000 in
theorem uvalx_any (s : ByteArray) (w : World) (h0 : 0 < s.size) (hs : s.size ≤ 4) :
    Calls Tryz.prog 223 #[.string s] w fun e w' => e = .returned (.int .i32 ((vst (bs s) s.size : Nat) : Int)) ∧ w = w' := by
  obtain ⟨f, hf⟩ : ∃ f, f = (bs s).getD 0 0 := ⟨_, rfl⟩
  have hf2 : f < 256 := by rw [hf]; exact bs_lt' s 0
  have x0 := idx0 s f hf h0
  have hl := bs_length s
  by_cases h1 : s.size = 1
  · have R : Hid (vst (bs s) s.size = f) := Lib.hid (by rw [h1, vst_one]; unfold vini; rw [if_pos (by omega), hf])
    have d1 : decide ((1 : Int) < (s.size : Int)) = false := by simp; omega
    clear hf hl
    go_enter Tryz.func223, Tryz.ntmps223
    go_wp2_with fail
    go_loopg [3, 4] 3 (fun k r i wr => r = .int .i32 (f : Int) ∧ i = .int .i64 1 ∧ w = wr)
    case atStart => exact ⟨rfl, rfl, rfl⟩
    case round =>
      obtain ⟨rfl, rfl, rfl⟩ := hrel
      go_wp2_with fail
      go_ret
      exact ⟨by rw [R.out]; rfl, rfl⟩
  · have h2 : 1 < s.size := by omega
    have R : Hid (∀ k, k = 7 - s.size → ((vini (bs s) : Nat) : Int) = Go.bits .and .i32 (f : Int) ((2 : Int) ^ k - 1)) := Lib.hid (by
      intro k hk; rw [and_msk k (by omega) f hf2]; unfold vini; rw [if_neg (by omega), hl, ← hf, hk])
    have V : Hid (∀ n, 1 ≤ n → n < s.size → vst (bs s) n < 32768) := Lib.hid (fun n a b => vst_lt' (bs s) (by rw [← hf]; exact hf2) (by omega) (by omega) n a (by omega))
    have N : Hid (∀ n, 1 ≤ n → n < s.size → vst (bs s) (n + 1) = vst (bs s) n * 64 + (bs s).getD n 0 % 64) := Lib.hid (fun n a b => vst_succ _ n a (by omega))
    have d1 : decide ((1 : Int) < (s.size : Int)) = true := by simp; omega
    clear hf hl
    have HS := hs
    rcases (by omega : s.size = 2 ∨ s.size = 3 ∨ s.size = 4) with h | h | h
    all_goals
      have R2 := R.out (7 - s.size) rfl
      rw [h] at R2
      simp only [Nat.reduceSub, Int.reducePow, Int.reduceSub] at R2
      have R3 := Lib.hid R2
      clear R2
      have L : ((s.size : Nat) : Int) = _ := congrArg _ h
      go_enter Tryz.func223, Tryz.ntmps223
      go_wp2_with fail
      go_loopg [3, 4] 3 (fun k r i wr => ∃ (n : Nat), 1 ≤ n ∧ n ≤ s.size ∧ k = 4 - n ∧ i = .int .i64 (n : Int) ∧ r = .int .i32 ((vst (bs s) n : Nat) : Int) ∧ w = wr)
      case atStart => exact ⟨1, by omega, by omega, rfl, rfl, by rw [vst_one, R3.out], rfl⟩
      case round =>
        obtain ⟨n, hn, hn2, rfl, rfl, rfl, rfl⟩ := hrel
        by_cases b : n < s.size
        · obtain ⟨c, hcc⟩ : ∃ c, c = (bs s).getD n 0 := ⟨_, rfl⟩
          have hc2 : c < 256 := by rw [hcc]; exact bs_lt' s n
          have xn : ∀ w, (Instr.index 9 (.string s) (.int .i64 (n : Int))).run Tryz.prog w = .ok (.int .u8 (c : Int)) w := fun w => by rw [idx_str 9 Tryz.underlying9 s .i64 n n rfl b, hcc]
          obtain ⟨x, hx⟩ : ∃ x, x = vst (bs s) n := ⟨_, rfl⟩
          have hx2 : x < 32768 := by rw [hx]; exact V.out n hn b
          rw [← hx]
          have NX : Hid (vst (bs s) (n + 1) = x * 64 + c % 64) := Lib.hid (by rw [hx, hcc]; exact N.out n hn b)
          have a63 := and63 c hc2
          have o6 := or6 x (c % 64) hx2 (Nat.mod_lt _ (by decide))
          clear hcc hx h
          go_wp2_with fail
          go_roundg (4 - (n + 1))
          case measure => omega
          case rel => exact ⟨n + 1, by omega, by omega, rfl, by go_num, by rw [NX.out]; first | rfl | (congr 1), rfl⟩
        · obtain rfl : n = s.size := by omega
          go_wp2_with fail
          go_ret
          exact ⟨rfl, rfl⟩
end Go.Proofs.YtohmdledkhgdaaaGreatDoor
