/- Walk of strings.IndexByte and of base64.Unwrap. -/
import Derived.Test.YtochlfmajkkddaaDoorPureU
import Derived.Test.YtochlfmajkkddaaDoorBldS
import Derived.Test.YtochlfmajkkddaaDoorDec
import Derived.Lib.Bytealg
namespace Go.Proofs.YtochlfmajkkddaaDoor
open Go.RowKit Go.Maps
set_option linter.unusedVariables false

theorem ixi_eq (l : List UInt8) (c : UInt8) : Lib.indexByte l c = ixi (l.map UInt8.toNat) c.toNat := by
  induction l with
  | nil => rfl
  | cons b l ih =>
    unfold Lib.indexByte
    rw [ih]
    unfold ixi ixo
    rw [List.map_cons, List.findIdx?_cons]
    by_cases h : b = c
    · subst h; simp
    · have h1 : (b == c) = false := by simpa using h
      have h2 : (b.toNat == c.toNat) = false := by
        simp only [beq_eq_false_iff_ne, ne_eq]
        intro e
        exact h (UInt8.toNat_inj.1 e)
      rw [h1, h2]
      simp only [Bool.false_eq_true, if_false]
      cases hf : List.findIdx? (fun x => x == c.toNat) (List.map UInt8.toNat l) with
      | none => simp
      | some k =>
        simp only [Option.map_some]
        have : ((k : Int) == -1) = false := by simp
        rw [this]
        simp
theorem ext_indexByte (s : ByteArray) (c : Nat) (hc : c < 256) (w : World) : (callFunc 49 #[.string s, .int .u8 (c : Int)]).run Tryd.prog w = .ok (.value (.int .i64 (ixi (bs s) c))) w := by
  rw [run_callFunc_extern Tryd.func49 (by kernel_rfl) (by kernel_rfl) (by kernel_rfl) (e := Extern.BytealgIndexByte.indexByte) (by kernel_rfl), Lib.run_indexByteString, ixi_eq]
  have e : ((c : Int).toNat.toUInt8).toNat = c := by
    rw [Int.toNat_natCast]
    exact Nat.mod_eq_of_lt hc
  rw [e]
  rfl
theorem indexByte_any (w : World) (s : ByteArray) (c : Nat) (hc : c < 256) :
    Calls Tryd.prog 35 #[.string s, .int .u8 (c : Int)] w fun e w' => e = .returned (.int .i64 (ixi (bs s) c)) ∧ w = w' := by
  have h := fun w => ext_indexByte s c hc w
  go_enter Tryd.func35, Tryd.ntmps35
  go_wp2
  go_ret
  exact ⟨rfl, rfl⟩
theorem extract_strN (s : ByteArray) (a b : Nat) : s.extract a b = strN (((bs s).drop a).take (b - a)) := by
  apply ByteArray.ext
  rw [ByteArray.data_extract]
  unfold strN bs
  apply Array.ext'
  rw [Array.toList_extract]
  simp only [List.map_take, List.map_drop, List.map_map, List.extract_eq_take_drop]
  congr 2
  have : (UInt8.ofNat ∘ UInt8.toNat) = id := by funext u; exact UInt8.ofNat_toNat
  rw [this, List.map_id]

/-- Three results: a text, an offset, an error. -/
def UnwPost (w : World) (r : List Nat × Nat × Nat) (e : Ending) (w' : World) : Prop :=
  e = .returned (.tuple #[.string (strN r.1), .int .i64 (r.2.1 : Int), .int .i64 (r.2.2 : Int)]) ∧ Below w.heap.size w w'
theorem sizeMax : sizeF 131072 = 174764 := by decide
theorem liesB : liesAt Tryd.prog Tryd.prog.depth 67 (2 / Tryd.prog.cellsOf 67) 0 67 1 = true := by kernel_rfl

theorem unwrap_empty (w : World) : Calls Tryd.prog 20 #[.string ⟨#[]⟩] w (UnwPost w (unwF [])) := by
  have hu : unwF [] = ([], 0, 0) := by decide
  rw [hu]
  have hm := sizeMax
  have I1 := Lib.hid (indexByte_any (w.alloc (.cells #[.pointer none, .slice none 0 0] 67)) ⟨#[]⟩ 10 (by decide))
  have b0 : Bd (w.alloc (.cells #[.pointer none, .slice none 0 0] 67)) w.heap.size w.heap.size 0 67 #[.pointer none, .slice none 0 0] (.slice none 0 0) [] := ⟨heap_alloc_new w _, .inl rfl, rfl, World.ownsRowF_nil _ _ _ _⟩
  have L1 := Lib.hid (blen_any _ _ _ _ _ _ _ _ b0)
  have S1 := Lib.hid (bstring_any _ _ _ _ _ _ _ _ b0 (by decide) (by simp) (by simp))
  have BL : Hid (Below w.heap.size w (w.alloc (.cells #[.pointer none, .slice none 0 0] 67))) := (Below.refl _ _).alloc (Nat.le_refl _) _
  clear b0 hu
  go_enter Tryd.func20, Tryd.ntmps20
  go_wp2_with (first | (go_at_call 15; refine (size_any _ _ (by omega) (by omega)).mono ?_; rintro e w' ⟨rfl, rfl⟩; rw [hm]) | (go_at_call 35; refine I1.out.mono ?_; rintro e w' ⟨rfl, rfl⟩))
  refine wp_loop_rounds 1 ?_
  rw [rounds_succ]
  go_wp2_with (first | (go_at_call 37; refine L1.out.mono ?_; rintro e w' ⟨rfl, rfl⟩) | (go_at_call 15; refine (size_any _ _ (by omega) (by omega)).mono ?_; rintro e w' ⟨rfl, rfl⟩; rw [hm]) | (go_at_call 38; refine S1.out.mono ?_; rintro e w1 ⟨rfl, hbd, hfr⟩; have FR := Lib.hid hfr; clear hfr hbd))
  go_ret3
  refine ⟨rfl, BL.out.trans (FR.out.below (by simp) (Nat.le_refl _) (fun k hk => by simp [Value.ownBlock] at hk))⟩

theorem str_ne (s : ByteArray) (h : s.size ≠ 0) : s.toList ≠ [] := by
  intro e
  have : s.toList.length = s.size := by rw [ByteArray.toList_eq]; exact Array.length_toList
  rw [e] at this
  exact h this.symm

theorem unwrap_short (w : World) (s : ByteArray) (hs : s.size ≤ 349528) (h0 : s.size ≠ 0) (hl : (bs s).getD (s.size - 1) 0 ≠ 10) : Calls Tryd.prog 20 #[.string s] w (UnwPost w (unwF (bs s))) := by
  have hu : unwF (bs s) = ([], s.size, 4) := by
    unfold unwF
    rw [if_neg (by rw [bs_length]; omega), if_pos ⟨by intro e; rw [← bs_length, e] at h0; exact h0 rfl, by rw [bs_length]; exact hl⟩, bs_length]
  rw [hu]
  have hm := sizeMax
  obtain ⟨c, hc⟩ : ∃ c, c = (bs s).getD (s.size - 1) 0 := ⟨_, rfl⟩
  have hx : ∀ w, (Instr.index 9 (.string s) (.int .i64 ((s.size : Int) - 1))).run Tryd.prog w = .ok (.int .u8 (c : Int)) w := fun w => by
    rw [idx_str 9 Tryd.underlying9 s .i64 ((s.size : Int) - 1) (s.size - 1) (by omega) (by omega), hc]
  rw [← hc] at hl
  have hc' : ((c : Int) != 10) = true := int_neq (by omega)
  have hne := str_ne s h0
  have hne2 : s.toList.isEmpty = false := by simpa using hne
  clear hc hl hu
  go_enter Tryd.func20, Tryd.ntmps20
  go_wp2_with (first | (go_at_call 15; refine (size_any _ _ (by omega) (by omega)).mono ?_; rintro e w' ⟨rfl, rfl⟩; rw [hm]))
  go_ret3
  exact ⟨rfl, Below.refl _ _⟩

set_option maxHeartbeats 1000000 in
theorem unwrap_lines (w : World) (s : ByteArray) (hs : s.size ≤ 349528) (h0 : s.size ≠ 0) (hl : (bs s).getD (s.size - 1) 0 = 10) : Calls Tryd.prog 20 #[.string s] w (UnwPost w (unwF (bs s))) := by
  have hu : unwF (bs s) = unw (bs s) (nl (bs s)) (s.size + 1) 0 [] := by
    unfold unwF
    rw [if_neg (by rw [bs_length]; omega), if_neg (by rw [bs_length]; intro h; exact h.2 hl), bs_length]
  rw [hu]
  have hm := sizeMax
  obtain ⟨c, hc⟩ : ∃ c, c = (bs s).getD (s.size - 1) 0 := ⟨_, rfl⟩
  have hx : ∀ w, (Instr.index 9 (.string s) (.int .i64 ((s.size : Int) - 1))).run Tryd.prog w = .ok (.int .u8 (c : Int)) w := fun w => by
    rw [idx_str 9 Tryd.underlying9 s .i64 ((s.size : Int) - 1) (s.size - 1) (by omega) (by omega), hc]
  have hc' : ((c : Int) != 10) = false := int_nneq (by omega)
  have hne := str_ne s h0
  have hne2 : s.toList.isEmpty = false := by simpa using hne
  obtain ⟨l, hll⟩ : ∃ l, l = bs s := ⟨_, rfl⟩
  have hlen : l.length = s.size := by rw [hll, bs_length]
  have hlast : l.getD (l.length - 1) 0 = 10 := by rw [hlen, hll]; exact hl
  obtain ⟨first, hf⟩ : ∃ f, f = nl l := ⟨_, rfl⟩
  have hf0 := nl_rest (fr := 0) hlast (by omega)
  rw [List.drop_zero, ← hf] at hf0
  have hix : ixi (bs s) 10 = (first : Int) := by unfold ixi; rw [← hll, hf0.1]
  have I1 : Hid (∀ w, Calls Tryd.prog 35 #[.string s, .int .u8 10] w fun e w' => e = .returned (.int .i64 (first : Int)) ∧ w = w') := fun w => by
    have := indexByte_any w s 10 (by decide)
    rw [hix] at this
    exact this
  rw [← hll, ← hf]
  have b0 : Bd (w.alloc (.cells #[.pointer none, .slice none 0 0] 67)) w.heap.size w.heap.size 0 67 #[.pointer none, .slice none 0 0] (.slice none 0 0) [] := ⟨heap_alloc_new w _, .inl rfl, rfl, World.ownsRowF_nil _ _ _ _⟩
  have BL : Hid (Below w.heap.size w (w.alloc (.cells #[.pointer none, .slice none 0 0] 67))) := (Below.refl _ _).alloc (Nat.le_refl _) _
  have hl256 : ∀ x ∈ l, x < 256 := by rw [hll]; exact bs_lt s
  have B0 := Lib.hid b0; have HLL := Lib.hid hll; have HLEN := Lib.hid hlen; have HLAST := Lib.hid hlast; have H256 := Lib.hid hl256
  have hfs : first ≤ 349528 := by have := hf0.2; omega
  clear b0 hu hc hl hll hlen hlast hf hf0 hix hl256
  go_enter Tryd.func20, Tryd.ntmps20
  go_wp2_with (first | (go_at_call 15; refine (size_any _ _ (by omega) (by omega)).mono ?_; rintro e w' ⟨rfl, rfl⟩; rw [hm]) | (go_at_call 35; refine (I1.out _).mono ?_; rintro e w' ⟨rfl, rfl⟩))
  clear hx hc' hne hne2
  go_loopg [7] s.size (fun gk i wr => ∃ (fr k : Nat) (acc : List Nat) (cs : Array Value) (v : Value), fr ≤ s.size ∧ gk = s.size - fr ∧ i = .int .i64 (fr : Int) ∧ s.size - fr < k ∧ acc.length ≤ fr ∧ (∀ x ∈ acc, x < 256) ∧ cs.size = 2 ∧ Bd wr w.heap.size w.heap.size 0 67 cs v acc ∧ Below w.heap.size w wr ∧ unw l first k fr acc = unw l first (s.size + 1) 0 [])
  case atStart => exact ⟨0, s.size + 1, [], _, _, by omega, by omega, rfl, by omega, by simp, by simp, rfl, B0.out, BL.out, rfl⟩
  case round =>
    obtain ⟨fr, k, acc, cs, v, hfr, rfl, rfl, hk, hal, ha256, hcs, hbd, hbl, hun⟩ := hrel
    have HA := Lib.hid ha256; have HCS := Lib.hid hcs; have HBD := Lib.hid hbd; have HBL := Lib.hid hbl; have HUN := Lib.hid hun
    clear B0 BL ha256 hcs hbd hbl hun
    by_cases hlt : fr < s.size
    · have hr := nl_rest (l := l) (fr := fr) HLAST.out (by rw [HLEN.out]; exact hlt)
      obtain ⟨wd, hwd⟩ : ∃ x, x = nl (l.drop fr) := ⟨_, rfl⟩
      rw [← hwd, HLEN.out] at hr
      have hrn : fr + wd < s.size := hr.2
      have hex := extract_strN s fr s.size
      rw [List.take_of_length_le (by rw [List.length_drop, bs_length]; omega), ← HLL.out] at hex
      have hbs : bs (strN (l.drop fr)) = l.drop fr := bs_strN _ (fun x hx => H256.out x (List.mem_of_mem_drop hx))
      have I2 : Hid (∀ w, Calls Tryd.prog 35 #[.string (strN (l.drop fr)), .int .u8 10] w fun e w' => e = .returned (.int .i64 (wd : Int)) ∧ w = w') := fun w => by
        have := indexByte_any w (strN (l.drop fr)) 10 (by decide)
        rw [hbs] at this
        unfold ixi at this
        rw [hr.1] at this
        exact this
      have WD := Lib.hid hwd
      clear hr hbs hwd
      have hun_k : 0 < k := by omega
      by_cases hbad : wd = 0 ∨ 998 < wd ∨ first < wd ∨ (wd < first ∧ fr + wd + 1 < s.size)
      · have HB := Lib.hid hbad
        by_cases c0 : wd = 0
        · have c0' : ((wd : Int) == 0) = true := int_eq (by omega)
          clear hbad
          go_wp2_with (first | (go_at_call 35; refine (I2.out _).mono ?_; rintro e w' ⟨rfl, rfl⟩))
          all_goals go_ret3
          all_goals
            rw [← HUN.out, unw_bad (by rw [HLEN.out]; omega) hun_k (by rw [← WD.out, HLEN.out]; exact HB.out)]
            exact ⟨rfl, HBL.out⟩
        · have c0' : ((wd : Int) == 0) = false := int_ne (by omega)
          clear hbad
          by_cases c1 : 998 < wd
          · go_wp2_with (first | (go_at_call 35; refine (I2.out _).mono ?_; rintro e w' ⟨rfl, rfl⟩))
            all_goals go_ret3
            all_goals
              rw [← HUN.out, unw_bad (by rw [HLEN.out]; omega) hun_k (by rw [← WD.out, HLEN.out]; exact HB.out)]
              exact ⟨rfl, HBL.out⟩
          · by_cases c2 : first < wd
            · go_wp2_with (first | (go_at_call 35; refine (I2.out _).mono ?_; rintro e w' ⟨rfl, rfl⟩))
              all_goals go_ret3
              all_goals
                rw [← HUN.out, unw_bad (by rw [HLEN.out]; omega) hun_k (by rw [← WD.out, HLEN.out]; exact HB.out)]
                exact ⟨rfl, HBL.out⟩
            · have c3 : wd < first := by have := HB.out; omega
              have c4 : fr + wd + 1 < s.size := by have := HB.out; omega
              go_wp2_with (first | (go_at_call 35; refine (I2.out _).mono ?_; rintro e w' ⟨rfl, rfl⟩))
              all_goals go_ret3
              all_goals
                rw [← HUN.out, unw_bad (by rw [HLEN.out]; omega) hun_k (by rw [← WD.out, HLEN.out]; exact HB.out)]
                exact ⟨rfl, HBL.out⟩
      · have c0' : ((wd : Int) == 0) = false := int_ne (by omega)
        have hex2 := extract_strN s fr (fr + wd)
        rw [← HLL.out, show fr + wd - fr = wd by omega] at hex2
        obtain ⟨S2, hS2⟩ : ∃ S, S = strN ((l.drop fr).take wd) := ⟨_, rfl⟩
        rw [← hS2] at hex2
        have hS2s : S2.size = wd := by rw [hS2, strN_size, List.length_take, List.length_drop, HLEN.out]; omega
        have hS2b : bs S2 = (l.drop fr).take wd := by rw [hS2]; exact bs_strN _ (fun x hx => H256.out x (List.mem_of_mem_drop (List.mem_of_mem_take hx)))
        have hw := writeString_any wr w.heap.size w.heap.size 0 67 cs v acc S2 HBD.out (by decide) HBL.out.size (by rw [HCS.out]; exact liesB) (by rw [hS2s]; omega)
        rw [hS2b] at hw
        have W1 := Lib.hid hw
        have e1 : ((fr : Int) + (wd : Int) + 1 - 1) = ((fr + wd : Nat) : Int) := by omega
        have S2S := Lib.hid hS2s
        clear hw hS2 hS2b
        have c1 : wd ≤ 998 := by omega
        have c2 : wd ≤ first := by omega
        by_cases c5 : wd < first
        · have c6 : ¬ (fr + wd + 1 < s.size) := by omega
          have NB := Lib.hid hbad
          clear hbad
          go_wp2_with (first | (go_at_call 35; refine (I2.out _).mono ?_; rintro e w' ⟨rfl, rfl⟩) | (go_at_call 36; refine W1.out.mono ?_; rintro e w1 ⟨rfl, cs', v', hbd', hcs', _, _, hfr'⟩; have HBD' := Lib.hid hbd'; have HCS' := Lib.hid hcs'; have HFR' := Lib.hid hfr'; clear hbd' hcs' hfr'))
          go_roundg (s.size - (fr + wd + 1))
          case measure => omega
          case rel =>
            obtain ⟨k', rfl⟩ : ∃ k', k = k' + 1 := ⟨k - 1, by omega⟩
            refine ⟨fr + wd + 1, k', acc ++ (l.drop fr).take wd, cs', v', by omega, rfl, by go_num, by omega, ?_, ?_, by rw [HCS'.out, HCS.out], HBD'.out, HBL.out.trans (HFR'.out.below HBL.out.size (Nat.le_refl _) (fun j hj => (HBD.out.row.lt j hj).1)), ?_⟩
            · rw [List.length_append, List.length_take]; omega
            · intro x hx
              rcases List.mem_append.1 hx with h | h
              · exact HA.out x h
              · exact H256.out x (List.mem_of_mem_drop (List.mem_of_mem_take h))
            · rw [← HUN.out, unw_step (by rw [HLEN.out]; omega) (by rw [← WD.out, HLEN.out]; exact NB.out), ← WD.out]
        · have NB := Lib.hid hbad
          clear hbad
          go_wp2_with (first | (go_at_call 35; refine (I2.out _).mono ?_; rintro e w' ⟨rfl, rfl⟩) | (go_at_call 36; refine W1.out.mono ?_; rintro e w1 ⟨rfl, cs', v', hbd', hcs', _, _, hfr'⟩; have HBD' := Lib.hid hbd'; have HCS' := Lib.hid hcs'; have HFR' := Lib.hid hfr'; clear hbd' hcs' hfr'))
          go_roundg (s.size - (fr + wd + 1))
          case measure => omega
          case rel =>
            obtain ⟨k', rfl⟩ : ∃ k', k = k' + 1 := ⟨k - 1, by omega⟩
            refine ⟨fr + wd + 1, k', acc ++ (l.drop fr).take wd, cs', v', by omega, rfl, by go_num, by omega, ?_, ?_, by rw [HCS'.out, HCS.out], HBD'.out, HBL.out.trans (HFR'.out.below HBL.out.size (Nat.le_refl _) (fun j hj => (HBD.out.row.lt j hj).1)), ?_⟩
            · rw [List.length_append, List.length_take]; omega
            · intro x hx
              rcases List.mem_append.1 hx with h | h
              · exact HA.out x h
              · exact H256.out x (List.mem_of_mem_drop (List.mem_of_mem_take h))
            · rw [← HUN.out, unw_step (by rw [HLEN.out]; omega) (by rw [← WD.out, HLEN.out]; exact NB.out), ← WD.out]
    · have hfe : fr = s.size := by omega
      have L1 := Lib.hid (blen_any _ _ _ _ _ _ _ _ HBD.out)
      have S1 := Lib.hid (bstring_any _ _ _ _ _ _ _ _ HBD.out (by decide) HA.out (by omega))
      have hd := unw_done (l := l) (first := first) (k := k) (fr := fr) (acc := acc) (by rw [HLEN.out]; omega) (by omega)
      have HD := Lib.hid hd
      clear hd hfe
      by_cases hbig : 174764 < acc.length
      · go_wp2_with (first | (go_at_call 37; refine L1.out.mono ?_; rintro e w' ⟨rfl, rfl⟩) | (go_at_call 15; refine (size_any _ _ (by omega) (by omega)).mono ?_; rintro e w' ⟨rfl, rfl⟩; rw [hm]))
        go_ret3
        rw [← HUN.out, HD.out, if_pos hbig]
        exact ⟨rfl, HBL.out⟩
      · go_wp2_with (first | (go_at_call 37; refine L1.out.mono ?_; rintro e w' ⟨rfl, rfl⟩) | (go_at_call 15; refine (size_any _ _ (by omega) (by omega)).mono ?_; rintro e w' ⟨rfl, rfl⟩; rw [hm]) | (go_at_call 38; refine S1.out.mono ?_; rintro e w1 ⟨rfl, hbd, hfr'⟩; have FR := Lib.hid hfr'; clear hfr' hbd))
        go_ret3
        rw [← HUN.out, HD.out, if_neg hbig]
        exact ⟨rfl, HBL.out.trans (FR.out.below HBL.out.size (Nat.le_refl _) (fun j hj => (HBD.out.row.lt j hj).1))⟩

theorem unwrap_any (w : World) (s : ByteArray) (hs : s.size ≤ 349528) : Calls Tryd.prog 20 #[.string s] w (UnwPost w (unwF (bs s))) := by
  by_cases h0 : s.size = 0
  · obtain rfl : s = ⟨#[]⟩ := by
      apply ByteArray.ext
      exact Array.eq_empty_of_size_eq_zero h0
    exact unwrap_empty w
  · by_cases hl : (bs s).getD (s.size - 1) 0 = 10
    · exact unwrap_lines w s hs h0 hl
    · exact unwrap_short w s hs h0 hl

end Go.Proofs.YtochlfmajkkddaaDoor
