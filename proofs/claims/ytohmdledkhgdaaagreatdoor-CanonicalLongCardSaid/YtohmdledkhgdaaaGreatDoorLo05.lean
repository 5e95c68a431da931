/- utf8: Decode exactly, control characters, the iterator Runes, Printable. -/
import Derived.RangeFuncNested
import Derived.RangeFuncBound
import Derived.RangeFuncCalls
import Derived.RangeFuncLeaves
import Derived.RangeFuncBox
import Derived.Shelf.Abstract
import Derived.Shelf.RegionOpen
import Derived.OwnWalkIn
import Derived.TacticsInMore
import Derived.LoopNIn
import Derived.LoopIn
import Derived.Maps.AppendAt
import Derived.Test.YtohmdledkhgdaaaGreatDoorLo04
import Derived.Laws.BitsAllLaws
import Derived.Laws.Rows
import Derived.Laws.CopyOwn
namespace Go.Proofs.YtohmdledkhgdaaaGreatDoor
open Go.RowKit Go.Shelf
attribute [local go_sem] Oper.semAt_some
set_option linter.unusedVariables false
set_option maxRecDepth 100000
/-- What Decode of utf8 returns, exactly where it decodes. -/
def UxPost (l : List Nat) (w : World) (e : Ending) (w' : World) : Prop :=
  ∃ (r er : Int), e = .returned (.tuple #[.int .i32 r, .int .i64 (rn l : Int), .int .i64 er]) ∧ (rn l ≠ 0 → er = 0 ∧ r = (cpt l : Int)) ∧ (rn l = 0 → er ≠ 0) ∧ Dr w w'
theorem Dr.below {w w' : World} (h : Dr w w') : Below w.heap.size w w' := by
  obtain ⟨q, rfl⟩ := h
  exact ⟨rfl, rfl, rfl, Nat.le_refl _, fun b hb => rfl⟩
theorem Dr.size {w w' : World} (h : Dr w w') : w'.heap.size = w.heap.size := by obtain ⟨q, rfl⟩ := h; rfl
set_option maxHeartbeats 1000000 in
theorem udecx_any (s : ByteArray) (w : World) (hs : s.size ≤ maxLen) :
    Calls Tryz.prog 181 #[.string s] w (UxPost (bs s) w) := by
  have M := Lib.hid (measure_any s w hs)
  unfold maxLen at hs
  by_cases h0 : s.size = 0
  · obtain rfl := str_emp h0
    clear h0 hs M
    go_enter Tryz.func181, Tryz.ntmps181
    go_wp2_with fail
    go_ret3
    exact ⟨0, 1, rfl, (fun h => absurd rfl h), (fun _ => by decide), Dr.refl _⟩
  · have n0 := str_ne h0
    go_enter Tryz.func181, Tryz.ntmps181
    go_wp2_with fail
    refine M.out.mono ?_
    rintro e w1 ⟨n, rfl, hn, hn4, hw, hd⟩
    rw [bs_length] at hn
    cases hb : wholeB (bs s)
    · have hr := rn_zero hb
      have HR := Lib.hid hr
      clear hw hr hb M
      by_cases z : n = 0
      · have z1 : ((n : Int) == 0) = true := int_eq (by omega)
        go_wp2_with fail
        go_ret3
        exact ⟨0, 6, by rw [HR.out]; rfl, (fun h => absurd HR.out h), (fun _ => by decide), hd⟩
      · have z1 : ((n : Int) == 0) = false := int_ne (by omega)
        by_cases y : n = s.size
        · have y1 : ((n : Int) == (s.size : Int)) = true := int_eq (by omega)
          go_wp2_with fail
          go_ret3
          exact ⟨0, 23, by rw [HR.out]; rfl, (fun h => absurd HR.out h), (fun _ => by decide), hd⟩
        · have y1 : ((n : Int) == (s.size : Int)) = false := int_ne (by omega)
          go_wp2_with fail
          go_ret3
          exact ⟨0, 3, by rw [HR.out]; rfl, (fun h => absurd HR.out h), (fun _ => by decide), hd⟩
    · obtain rfl := hw hb
      have hp := (rn_pos hb).2
      have CP := Lib.hid (cpt_vst (bs s) (by omega))
      obtain ⟨n, hn'⟩ : ∃ n, n = rn (bs s) := ⟨_, rfl⟩
      rw [← hn'] at hn hn4 hp CP ⊢
      have SZ : (s.extract 0 n).size = n := by rw [ByteArray.size_extract]; omega
      have U : Hid (∀ w, Calls Tryz.prog 223 #[.string (s.extract 0 n)] w fun e w' => e = .returned (.int .i32 ((cpt (bs s) : Nat) : Int)) ∧ w = w') := Lib.hid (fun w => (uvalx_any (s.extract 0 n) w (by omega) (by omega)).mono fun e w' h => ⟨by rw [h.1, CP.out, bs_to, SZ], h.2⟩)
      have HN := Lib.hid hn'
      clear hw hb M hn' SZ CP
      go_wp2_with (go_at_call 223; refine (U.out _).mono ?_; rintro e w' ⟨rfl, rfl⟩)
      go_ret3
      exact ⟨_, 0, by rw [HN.out]; rfl, (fun _ => ⟨rfl, rfl⟩), (fun h => by rw [HN.out] at hp; omega), hd⟩
theorem uctl_any (w : World) (n : Nat) : Calls Tryz.prog 143 #[.int .i32 (n : Int)] w fun e w' => e = .returned (.bool (ctlC n)) ∧ w = w' := by
  obtain ⟨b, hb⟩ : ∃ b, b = ctlC n := ⟨_, rfl⟩
  rw [← hb]
  have HB := Lib.hid hb
  clear hb
  rcases (by omega : n < 32 ∨ (32 ≤ n ∧ n < 127) ∨ (127 ≤ n ∧ n ≤ 159) ∨ (n = 8232) ∨ (n = 8233) ∨ (159 < n ∧ n ≠ 8232 ∧ n ≠ 8233)) with h | ⟨h, h2⟩ | ⟨h, h2⟩ | rfl | rfl | ⟨h, h2, h3⟩
  all_goals
    try have q1 : ((n : Int) == 8232) = false := int_ne (by omega)
    try have q2 : ((n : Int) == 8233) = false := int_ne (by omega)
    go_enter Tryz.func143, Tryz.ntmps143
    go_wp2_with fail
    go_ret
    exact ⟨ret_bool (by rw [HB.out, Bool.eq_iff_iff]; simp [ctlC]; try omega), rfl⟩
/-- The block B lies as it lay. -/
def KeepB (B : Nat) (A C : World) : Prop := C.heap[B]? = A.heap[B]?
theorem KeepB.cell {B : Nat} {A C : World} (h : KeepB B A C) : C.cell? ⟨B, 0, none⟩ = A.cell? ⟨B, 0, none⟩ := by
  unfold World.cell?; simp only; rw [show C.heap[B]? = A.heap[B]? from h]
def rnV (x : Nat × Nat) : Array Value := #[.int .i64 (x.1 : Int), .int .i32 (x.2 : Int)]
theorem grown_drewN (w : World) (q : Nat) : w.grownBy (w.drewN q) none := ⟨rfl, rfl, rfl, Nat.le_refl _, fun _ _ _ => rfl⟩
set_option maxHeartbeats 2000000 in
theorem rns1_in (n : Nat) (hn : 1 ≤ n) (l Bs B : Nat) (s : ByteArray) (hs : s.size ≤ maxLen) (J Jx : List (Nat × Nat) → World → Prop) (hJa : AbidesFrom B J)
    (hY : ∀ pre x W, J pre W → pre.length < s.size + 1 → YieldAt Fence.wide (n - 1) Tryz.prog l (rnV x) W fun e W' =>
      (e = .returned (.bool true) ∧ J (pre ++ [x]) W' ∧ KeepB Bs W W') ∨ (e = .returned (.bool false) ∧ Jx (pre ++ [x]) W'))
    (W : World) (hBs : W.cell? ⟨Bs, 0, none⟩ = some (.string s)) (h0 : J [] W) :
    CallsIn Fence.wide n Tryz.prog 180 #[.func (.yield l) #[] #[], .pointer (some ⟨Bs, 0, none⟩)] W fun e W' => (∃ v, e = .returned v) ∧
      ((∃ ys : List (Nat × Nat), ys = rns (bs s) ∧ J ys W') ∨ (∃ pre : List (Nat × Nat), (∃ q, pre ++ q = rns (bs s)) ∧ Jx pre W')) := by
  unfold maxLen at hs
  refine callsIn_of_wp Tryz.func180 rfl trivial ?_ rfl
  simp only [Tryz.ntmps180, List.size_toArray, List.length_cons, List.length_nil, Nat.reduceAdd, Nat.reduceSub, Array.replicate_succ, Array.replicate_zero, List.push_toArray, List.append_toArray, List.nil_append, List.cons_append]
  gi_wp2
  gi_loopw [3] (fun i wr => ∃ (k : Nat) (pre : List (Nat × Nat)), k ≤ s.size ∧ i = .int .i64 (k : Int) ∧ Hid (rns (bs s) = pre ++ rsN ((bs s).drop k).length k ((bs s).drop k)) ∧ pre.length ≤ k ∧ wr.cell? ⟨Bs, 0, none⟩ = some (.string s) ∧ J pre wr)
    (fun i wr => s.size - (intOf i).toNat)
  case atStart =>
    exact ⟨0, [], by omega, rfl, rfl, Nat.zero_le _, hBs, h0⟩
  case round =>
    obtain ⟨k, pre, hk, rfl, hpre, hpl, hc, hJ⟩ := hrel
    by_cases h1 : k < s.size
    · have hsz : (s.extract k s.size).size = s.size - k := by rw [ByteArray.size_extract]; omega
      have D := Lib.hid (udecx_any (s.extract k s.size) wr (by rw [hsz]; unfold maxLen; omega))
      have hl := (rn_le ((bs s).drop k)).1
      rw [List.length_drop, bs_length] at hl
      clear hsz
      gi_wp2_with fail
      refine ⟨trivial, ?_⟩
      refine (callsIn_wide.2 D.out).mono ?_
      rintro e w1 ⟨r, er, rfl, h2, h3, hd1⟩
      rw [bs_from] at h2 h3 ⊢
      have J1 : J pre w1 := by obtain ⟨q, rfl⟩ := hd1; exact hJa _ _ _ _ hJ (grown_drewN _ _) (fun r e => by cases e)
      have C1 : w1.cell? ⟨Bs, 0, none⟩ = some (.string s) := by obtain ⟨q, rfl⟩ := hd1; exact hc
      obtain ⟨m, hm⟩ : ∃ m, m = rn ((bs s).drop k) := ⟨_, rfl⟩
      obtain ⟨c, hcp⟩ : ∃ c, c = cpt ((bs s).drop k) := ⟨_, rfl⟩
      rw [← hm] at hl h2 h3 ⊢
      rw [← hcp] at h2
      clear hJ hc D hd1
      by_cases z : m = 0
      · have q := h3 z
        have q1 : (er != 0) = true := int_neq q
        have ST : Hid (rns (bs s) = pre) := Lib.hid (by rw [hpre.out, rsN_stop _ _ _ (by rw [← hm]; exact z), List.append_nil])
        clear hm hcp h2 h3
        gi_wp2
        refine ⟨fun _ h => (by cases h), ?_⟩
        gi_wp2
        refine bodyPost_ret (results_none rfl _ _ _) rfl ?_
        exact ⟨⟨_, rfl⟩, .inl ⟨pre, ST.out.symm, J1⟩⟩
      · obtain ⟨rfl, rfl⟩ := h2 z
        have ST : Hid (rns (bs s) = (pre ++ [(k, c)]) ++ rsN ((bs s).drop (k + m)).length (k + m) ((bs s).drop (k + m))) := Lib.hid (by
          rw [hpre.out, rsN_step _ _ _ (by rw [← hm]; exact z) (Nat.le_refl _), ← hm, ← hcp, List.drop_drop]; simp)
        clear hm hcp h2 h3
        obtain ⟨fn, tmps, assign, body, hy, hR⟩ := hY pre (k, c) w1 J1 (by omega)
        unfold rnV at hy
        dsimp only at hy
        gi_wp2
        refine hR.mono ?_
        rintro e W3 (⟨rfl, hJ3, hk3⟩ | ⟨rfl, hJx3⟩)
        · have hc3 : W3.cell? ⟨Bs, 0, none⟩ = some (.string s) := hk3.cell.trans C1
          gi_wp2
          go_roundw
          case rel => exact ⟨k + m, pre ++ [(k, c)], by omega, by go_num, ST, by simp; omega, hc3, hJ3⟩
          case measure => simp [intOf]; omega
        · gi_wp2
          refine bodyPost_ret (results_none rfl _ _ _) rfl ?_
          exact ⟨⟨_, rfl⟩, .inr ⟨_, ⟨_, ST.out.symm⟩, hJx3⟩⟩
    · obtain rfl : k = s.size := by omega
      have ST : Hid (rns (bs s) = pre) := Lib.hid (by rw [hpre.out, List.drop_of_length_le (by rw [bs_length]; exact Nat.le_refl _)]; simp [rsN])
      gi_wp2
      go_end0
      exact ⟨⟨_, rfl⟩, .inl ⟨pre, ST.out.symm, hJ⟩⟩
end Go.Proofs.YtohmdledkhgdaaaGreatDoor
/- The checker of a content: an error in a box. -/
namespace Go.Proofs.YtohmdledkhgdaaaGreatDoor
open Go.RowKit Go.Maps
set_option linter.unusedVariables false
set_option maxRecDepth 100000
/-- The checker in block b holds the error n. -/
def Ck (w : World) (b n : Nat) : Prop := w.heap[b]? = some (.cells #[.int .i64 (n : Int)] 96 (0, 0))
/-- Nothing but the block b (and new blocks) has turned. -/
structure Fr1 (b : Nat) (w w' : World) : Prop where
  os : w'.os = w.os
  tape : w'.tape = w.tape
  output : w'.output = w.output
  size : w.heap.size ≤ w'.heap.size
  other : ∀ k, k < w.heap.size → k ≠ b → w'.heap[k]? = w.heap[k]?
theorem Fr1.refl (b : Nat) (w : World) : Fr1 b w w := ⟨rfl, rfl, rfl, Nat.le_refl _, fun _ _ _ => rfl⟩
theorem Fr1.of_below {b : Nat} {w w' : World} (h : Below w.heap.size w w') : Fr1 b w w' := ⟨h.os, h.tape, h.output, h.size, fun k hk _ => h.block k hk⟩
theorem Fr1.trans {b : Nat} {u v w : World} (h : Fr1 b u v) (h' : Fr1 b v w) : Fr1 b u w :=
  ⟨h'.os.trans h.os, h'.tape.trans h.tape, h'.output.trans h.output, Nat.le_trans h.size h'.size, fun k hk hne => (h'.other k (Nat.lt_of_lt_of_le hk h.size) hne).trans (h.other k hk hne)⟩
theorem Fr1.below {b B : Nat} {w w' : World} (h : Fr1 b w w') (hB : B ≤ w.heap.size) (hb : B ≤ b) : Below B w w' :=
  ⟨h.os, h.tape, h.output, h.size, fun k hk => h.other k (Nat.lt_of_lt_of_le hk hB) (by omega)⟩
theorem Fr1.set {b n : Nat} {w : World} (h : Ck w b n) (u : Value) : Fr1 b w (w.setCell ⟨b, 0, none⟩ u) :=
  ⟨rfl, rfl, rfl, by simp [World.setCell], fun k _ hne => Below.heap_setCell _ _ _ _ hne⟩
theorem Ck.lt {w : World} {b n : Nat} (h : Ck w b n) : b < w.heap.size := lt_of_block h
theorem Ck.below {w w' : World} {b n : Nat} (h : Ck w b n) (hb : Below w.heap.size w w') : Ck w' b n := (hb.block b h.lt).trans h
theorem Ck.cell {w : World} {b n : Nat} (h : Ck w b n) : w.cell? ⟨b, 0, none⟩ = some (.int .i64 (n : Int)) := cell_of_row w b 0 _ _ _ h
theorem Ck.free {w : World} {b n : Nat} (h : Ck w b n) : w.frozen? ⟨b, 0, none⟩ = false := by unfold Ck at h; simp [World.frozen?, h]
theorem Ck.set {w : World} {b n : Nat} (h : Ck w b n) (m : Nat) : Ck (w.setCell ⟨b, 0, none⟩ (.int .i64 (m : Int))) b m :=
  setB h 0 _
/-- What a method of the checker leaves. -/
def ChkPost (w : World) (b n : Nat) (e : Ending) (w' : World) : Prop := (∃ v, e = .returned v) ∧ Ck w' b n ∧ Fr1 b w w'
theorem when_any (w : World) (b n : Nat) (h : Ck w b n) (bad : Bool) (e : Nat) :
    Calls Tryz.prog 59 #[.pointer (some ⟨b, 0, none⟩), .bool bad, .int .i64 (e : Int)] w (ChkPost w b (fe n (eIf bad e))) := by
  have hc := h.cell
  have hf := h.free
  have H := Lib.hid h
  clear h
  by_cases h0 : n = 0
  · subst h0
    cases bad
    · go_enter Tryz.func59, Tryz.ntmps59
      go_wp2_with fail
      go_end0
      exact ⟨⟨_, rfl⟩, H.out, Fr1.refl _ _⟩
    · go_enter Tryz.func59, Tryz.ntmps59
      go_wp2_with fail
      go_end0
      exact ⟨⟨_, rfl⟩, H.out.set e, Fr1.set H.out _⟩
  · have hz : ((n : Int) == 0) = false := int_ne (by omega)
    have HE : Hid (fe n (eIf bad e) = n) := Lib.hid (by unfold fe; rw [if_pos h0])
    clear h0
    go_enter Tryz.func59, Tryz.ntmps59
    go_wp2_with fail
    go_end0
    exact ⟨⟨_, rfl⟩, by rw [HE.out]; exact H.out, Fr1.refl _ _⟩
theorem take_any (w : World) (b n : Nat) (h : Ck w b n) (e : Nat) :
    Calls Tryz.prog 51 #[.pointer (some ⟨b, 0, none⟩), .int .i64 (e : Int)] w (ChkPost w b (fe n e)) := by
  have W := Lib.hid (when_any w b n h true e)
  clear h
  go_enter Tryz.func51, Tryz.ntmps51
  go_wp2_with fail
  refine W.out.mono ?_
  rintro e w' ⟨⟨v, rfl⟩, h1, h2⟩
  have H1 := Lib.hid h1; have H2 := Lib.hid h2
  clear h1 h2 W
  go_wp2_with fail
  go_end0
  exact ⟨⟨_, rfl⟩, H1.out, H2.out⟩
theorem rl_and : ∀ m : Nat, m < 32 → 1 ≤ m → bits .and .u64 (IntKind.u64.wrap (-(m : Int))) 31 = ((32 - m : Nat) : Int) := by decide +kernel
theorem rl_sub : ∀ m : Nat, m < 32 → 1 ≤ m → IntKind.u64.wrap (32 - ((32 - m : Nat) : Int)) = (m : Int) := by decide +kernel
theorem rot_lt {x m : Nat} (hx : x < 4294967296) : rot x m < 4294967296 := by
  unfold rot shl32
  exact Nat.or_lt_two_pow (n := 32) (by omega) (Nat.lt_of_le_of_lt (Nat.div_le_self _ _) (by omega))
theorem rotl_any (w : World) (x m : Nat) (hx : x < 4294967296) (hm : 1 ≤ m) (hm2 : m < 32) : Calls Tryz.prog 204 #[.int .u32 (x : Int), .int .i64 (-(m : Int))] w fun e w' => e = .returned (.int .u32 ((rot x m : Nat) : Int)) ∧ w = w' := by
  have e := rl_and m hm2 hm
  have e2 := rl_sub m hm2 hm
  obtain ⟨r, hr⟩ : ∃ r, r = 32 - m := ⟨_, rfl⟩
  rw [← hr] at e e2
  have hr2 : r ≤ 31 := by omega
  have HR := Lib.hid hr
  clear hr
  go_enter Tryz.func204, Tryz.ntmps204
  go_wp2_with fail
  go_ret
  refine ⟨?_, rfl⟩
  have e1 : ((x : Int) * 2 ^ r % 4294967296) = ((x * 2 ^ r % 4294967296 : Nat) : Int) := by rw [Int.natCast_emod, Int.natCast_mul, Int.natCast_pow]; rfl
  have e3 : ((x : Int) / 2 ^ m) = ((x / 2 ^ m : Nat) : Int) := by rw [Int.natCast_ediv, Int.natCast_pow]; rfl
  rw [e1, e3, u32_or_nat _ _ (by omega) (Nat.lt_of_le_of_lt (Nat.div_le_self _ _) hx), HR.out]
  rfl
theorem rot_any (w : World) (x : Nat) (hx : x < 4294967296) (m : Nat) (hm : 1 ≤ m) (hm2 : m < 32) (k : Int) (hk : k = (m : Int)) : Calls Tryz.prog 161 #[.int .u32 (x : Int), .int .i64 k] w fun e w' => e = .returned (.int .u32 ((rot x m : Nat) : Int)) ∧ w = w' := by
  subst hk
  have R := Lib.hid (rotl_any w x m hx hm hm2)
  have hm3 : (m : Int) < 32 := by omega
  go_enter Tryz.func161, Tryz.ntmps161
  go_wp2_with fail
  refine R.out.mono ?_
  rintro e w' ⟨rfl, rfl⟩
  clear R
  go_wp2_with fail
  go_ret
  exact ⟨rfl, rfl⟩
/-- The cells of a state. -/
def wC (v : W8) : Array Value := #[.int .u32 (v.a : Int), .int .u32 (v.b : Int), .int .u32 (v.c : Int), .int .u32 (v.d : Int), .int .u32 (v.e : Int), .int .u32 (v.f : Int), .int .u32 (v.g : Int), .int .u32 (v.i : Int)]
def wZ : Array Value := #[.int .u32 0, .int .u32 0, .int .u32 0, .int .u32 0, .int .u32 0, .int .u32 0, .int .u32 0, .int .u32 0]
structure W8.Ok (v : W8) : Prop where
  a : v.a < 4294967296
  b : v.b < 4294967296
  c : v.c < 4294967296
  d : v.d < 4294967296
  e : v.e < 4294967296
  f : v.f < 4294967296
  g : v.g < 4294967296
  i : v.i < 4294967296
theorem size_words : (Tryz.prog.info? 176).map (·.size) = some 8 := by kernel_rfl
theorem init_any (w : World) : Calls Tryz.prog 121 #[] w fun e w' => e = .returned (.agg (wC sh0)) ∧ Below w.heap.size w w' := by
  go_enter Tryz.func121, Tryz.ntmps121
  go_wp2_with fail
  exact bodyPost_ret (v := .agg (wC sh0)) (by simp [results, Tryz.results121, go_sem]; rfl) rfl ⟨rfl, (Below.refl _ _).alloc (Nat.le_refl _) _⟩
theorem set8 {w : World} {b T : Nat} (h : w.heap[b]? = some (.cells wZ T (0, 0))) (u0 u1 u2 u3 u4 u5 u6 u7 : Value) : ((((((((w.setCell ⟨b, 0, none⟩ u0).setCell ⟨b, 1, none⟩ u1).setCell ⟨b, 2, none⟩ u2).setCell ⟨b, 3, none⟩ u3).setCell ⟨b, 4, none⟩ u4).setCell ⟨b, 5, none⟩ u5).setCell ⟨b, 6, none⟩ u6).setCell ⟨b, 7, none⟩ u7).heap[b]? = some (.cells #[u0, u1, u2, u3, u4, u5, u6, u7] T (0, 0)) := by
  have h0 := setB h 0 u0
  have h1 := setB h0 1 u1
  have h2 := setB h1 2 u2
  have h3 := setB h2 3 u3
  have h4 := setB h3 4 u4
  have h5 := setB h4 5 u5
  have h6 := setB h5 6 u6
  have h7 := setB h6 7 u7
  simpa [wZ] using h7
theorem below_set8 {B b : Nat} {w0 w : World} (h : Below B w0 w) (hb : B ≤ b) (u0 u1 u2 u3 u4 u5 u6 u7 : Value) : Below B w0 ((((((((w.setCell ⟨b, 0, none⟩ u0).setCell ⟨b, 1, none⟩ u1).setCell ⟨b, 2, none⟩ u2).setCell ⟨b, 3, none⟩ u3).setCell ⟨b, 4, none⟩ u4).setCell ⟨b, 5, none⟩ u5).setCell ⟨b, 6, none⟩ u6).setCell ⟨b, 7, none⟩ u7) := ((((((((h.setCell hb _).setCell hb _).setCell hb _).setCell hb _).setCell hb _).setCell hb _).setCell hb _).setCell hb _)
theorem u32_not (x : Nat) (hx : x < 4294967296) : bits .xor .u32 (if IntKind.u32.signed = true then -1 else IntKind.u32.max) (x : Int) = ((not32 x : Nat) : Int) := by
  show IntKind.u32.wrap ((BitVec.ofInt 32 4294967295 ^^^ BitVec.ofInt 32 (x : Int)).toNat : Int) = _
  rw [show BitVec.ofInt 32 4294967295 = BitVec.allOnes 32 by decide, BitVec.allOnes_xor, BitVec.toNat_not, ofInt_u32 x hx, IntKind.wrap_u32']
  unfold not32
  omega
theorem add32_cast (a b : Nat) : ((add32 a b : Nat) : Int) = ((a : Int) + (b : Int)) % 4294967296 := by unfold add32; omega
theorem and_lt {a b : Nat} (h : a < 4294967296) : a &&& b < 4294967296 := Nat.lt_of_le_of_lt Nat.and_le_left h
theorem xor_lt {a b : Nat} (h : a < 4294967296) (h2 : b < 4294967296) : a ^^^ b < 4294967296 := Nat.xor_lt_two_pow (n := 32) h h2
theorem not_lt (a : Nat) : not32 a < 4294967296 := by unfold not32; omega
theorem add_lt (a b : Nat) : add32 a b < 4294967296 := Nat.mod_lt _ (by omega)
theorem rnd_ok {v : W8} (hv : v.Ok) (k t : Nat) : (rnd v k t).Ok := ⟨add_lt _ _, hv.a, hv.b, hv.c, add_lt _ _, hv.e, hv.f, hv.g⟩
theorem plus_ok (x y : W8) : (plusW x y).Ok := ⟨add_lt _ _, add_lt _ _, add_lt _ _, add_lt _ _, add_lt _ _, add_lt _ _, add_lt _ _, add_lt _ _⟩
theorem sh0_ok : sh0.Ok := ⟨by decide, by decide, by decide, by decide, by decide, by decide, by decide, by decide⟩
theorem rawT {v : W8} (hv : v.Ok) (k t s1 : Nat) (hs : s1 = rot v.e 6 ^^^ rot v.e 11 ^^^ rot v.e 25) :
    (((v.i : Int) + (s1 : Int) + bits .xor .u32 (bits .and .u32 (v.e : Int) (v.f : Int)) (bits .and .u32 (bits .xor .u32 (if IntKind.u32.signed = true then -1 else IntKind.u32.max) (v.e : Int)) (v.g : Int)) + (k : Int)) % 4294967296 + (t : Int)) % 4294967296 = ((rndT v k t : Nat) : Int) := by
  unfold rndT
  rw [add32_cast, add32_cast, add32_cast, add32_cast, ← hs, u32_not _ hv.e, u32_and_nat _ _ hv.e hv.f, u32_and_nat _ _ (not_lt _) hv.g, u32_xor_nat _ _ (and_lt hv.e) (and_lt (not_lt _))]
  generalize (((v.e &&& v.f ^^^ not32 v.e &&& v.g : Nat)) : Int) = X
  omega
theorem rawU {v : W8} (hv : v.Ok) (s0 : Nat) (hs : s0 = rot v.a 2 ^^^ rot v.a 13 ^^^ rot v.a 22) :
    ((s0 : Int) + bits .xor .u32 (bits .xor .u32 (bits .and .u32 (v.a : Int) (v.b : Int)) (bits .and .u32 (v.a : Int) (v.c : Int))) (bits .and .u32 (v.b : Int) (v.c : Int))) % 4294967296 = ((rndU v : Nat) : Int) := by
  unfold rndU
  rw [add32_cast, ← hs, u32_and_nat _ _ hv.a hv.b, u32_and_nat _ _ hv.a hv.c, u32_and_nat _ _ hv.b hv.c, u32_xor_nat _ _ (and_lt hv.a) (and_lt hv.a), u32_xor_nat _ _ (xor_lt (and_lt hv.a) (and_lt hv.a)) (and_lt hv.b)]
theorem round_any (w : World) (v : W8) (k t : Nat) (hv : v.Ok) (hk : k < 4294967296) (ht : t < 4294967296) :
    Calls Tryz.prog 162 #[.agg (wC v), .int .u32 (k : Int), .int .u32 (t : Int)] w fun e w' => e = .returned (.agg (wC (rnd v k t))) ∧ Below w.heap.size w w' := by
  have ra := fun (m : Nat) (hm : 1 ≤ m) (hm2 : m < 32) (k : Int) (hk : k = (m : Int)) (w : World) => (rot_any w v.a hv.a m hm hm2 k hk).mono (fun _ _ h => (⟨h.1, h.2.symm⟩ : _ ∧ _))
  have re := fun (m : Nat) (hm : 1 ≤ m) (hm2 : m < 32) (k : Int) (hk : k = (m : Int)) (w : World) => (rot_any w v.e hv.e m hm hm2 k hk).mono (fun _ _ h => (⟨h.1, h.2.symm⟩ : _ ∧ _))
  have R1 := Lib.hid (ra 2 (by decide) (by decide) 2 rfl)
  have R2 := Lib.hid (ra 13 (by decide) (by decide) 13 rfl)
  have R3 := Lib.hid (ra 22 (by decide) (by decide) 22 rfl)
  have R4 := Lib.hid (re 6 (by decide) (by decide) 6 rfl)
  have R5 := Lib.hid (re 11 (by decide) (by decide) 11 rfl)
  have R6 := Lib.hid (re 25 (by decide) (by decide) 25 rfl)
  have HV := Lib.hid hv
  obtain ⟨s0, hs0⟩ : ∃ s, s = rot v.a 2 ^^^ rot v.a 13 ^^^ rot v.a 22 := ⟨_, rfl⟩
  obtain ⟨s1, hs1⟩ : ∃ s, s = rot v.e 6 ^^^ rot v.e 11 ^^^ rot v.e 25 := ⟨_, rfl⟩
  have l0 : s0 < 4294967296 := by rw [hs0]; exact Nat.xor_lt_two_pow (n := 32) (Nat.xor_lt_two_pow (n := 32) (rot_lt hv.a) (rot_lt hv.a)) (rot_lt hv.a)
  have l1 : s1 < 4294967296 := by rw [hs1]; exact Nat.xor_lt_two_pow (n := 32) (Nat.xor_lt_two_pow (n := 32) (rot_lt hv.e) (rot_lt hv.e)) (rot_lt hv.e)
  have X0 : Hid (bits .xor .u32 (bits .xor .u32 ((rot v.a 2 : Nat) : Int) ((rot v.a 13 : Nat) : Int)) ((rot v.a 22 : Nat) : Int) = (s0 : Int)) := Lib.hid (by
    rw [u32_xor_nat _ _ (rot_lt hv.a) (rot_lt hv.a), u32_xor_nat _ _ (Nat.xor_lt_two_pow (n := 32) (rot_lt hv.a) (rot_lt hv.a)) (rot_lt hv.a), hs0])
  have X1 : Hid (bits .xor .u32 (bits .xor .u32 ((rot v.e 6 : Nat) : Int) ((rot v.e 11 : Nat) : Int)) ((rot v.e 25 : Nat) : Int) = (s1 : Int)) := Lib.hid (by
    rw [u32_xor_nat _ _ (rot_lt hv.e) (rot_lt hv.e), u32_xor_nat _ _ (Nat.xor_lt_two_pow (n := 32) (rot_lt hv.e) (rot_lt hv.e)) (rot_lt hv.e), hs1])
  have HS0 := Lib.hid hs0
  have HS1 := Lib.hid hs1
  clear ra re hv hs0 hs1
  unfold wC
  go_enter Tryz.func162, Tryz.ntmps162
  go_wp2_with fail
  go_quiet ((go_at_call 161; first | with_reducible exact Calls.quiet_of_same (R1.out _) | with_reducible exact Calls.quiet_of_same (R2.out _) | with_reducible exact Calls.quiet_of_same (R3.out _)))
  rw [X0.out]
  clear R1 R2 R3 X0
  obtain ⟨w0, hw0⟩ : ∃ w0, w0 = ((w.alloc (.cells (wC v) 176)).alloc (.cells wZ 176)).drewN nq := ⟨_, rfl⟩
  have b0 : w0.heap[w.heap.size]? = some (.cells (wC v) 176 (0, 0)) := by
    rw [hw0]; exact (((Below.refl _ (w.alloc (.cells (wC v) 176))).alloc (Nat.le_refl _) (.cells wZ 176)).block w.heap.size (by simp)).trans (heap_alloc_new w _)
  have b1 : w0.heap[w.heap.size + 1]? = some (.cells wZ 176 (0, 0)) := by
    rw [hw0]; have := heap_alloc_new (w.alloc (.cells (wC v) 176)) (.cells wZ 176); rw [World.size_alloc] at this; exact this
  have BW : Hid (Below w.heap.size w w0) := Lib.hid (by
    rw [hw0]; exact (((Below.refl _ _).alloc (Nat.le_refl _) _).alloc (by simp) _).trans ((Dr.below ⟨nq, rfl⟩).mono (by simp; omega)))
  have hw0' := hw0
  unfold wC wZ at hw0'
  rw [← hw0']
  have c0 : w0.cell? ⟨w.heap.size, 0, none⟩ = some (.int .u32 (v.a : Int)) := cell_of_row w0 _ 0 _ _ _ b0
  have c1 : w0.cell? ⟨w.heap.size, 1, none⟩ = some (.int .u32 (v.b : Int)) := cell_of_row w0 _ 1 _ _ _ b0
  have c2 : w0.cell? ⟨w.heap.size, 2, none⟩ = some (.int .u32 (v.c : Int)) := cell_of_row w0 _ 2 _ _ _ b0
  have c3 : w0.cell? ⟨w.heap.size, 3, none⟩ = some (.int .u32 (v.d : Int)) := cell_of_row w0 _ 3 _ _ _ b0
  have c4 : w0.cell? ⟨w.heap.size, 4, none⟩ = some (.int .u32 (v.e : Int)) := cell_of_row w0 _ 4 _ _ _ b0
  have c5 : w0.cell? ⟨w.heap.size, 5, none⟩ = some (.int .u32 (v.f : Int)) := cell_of_row w0 _ 5 _ _ _ b0
  have c6 : w0.cell? ⟨w.heap.size, 6, none⟩ = some (.int .u32 (v.g : Int)) := cell_of_row w0 _ 6 _ _ _ b0
  have c7 : w0.cell? ⟨w.heap.size, 7, none⟩ = some (.int .u32 (v.i : Int)) := cell_of_row w0 _ 7 _ _ _ b0
  have d0 : w0.cell? ⟨w.heap.size + 1, 0, none⟩ = some (.int .u32 0) := cell_of_row w0 _ 0 _ _ _ b1
  have e0 : w0.frozen? ⟨w.heap.size + 1, 0, none⟩ = false := freeB b1 0
  have d1 : w0.cell? ⟨w.heap.size + 1, 1, none⟩ = some (.int .u32 0) := cell_of_row w0 _ 1 _ _ _ b1
  have e1 : w0.frozen? ⟨w.heap.size + 1, 1, none⟩ = false := freeB b1 1
  have d2 : w0.cell? ⟨w.heap.size + 1, 2, none⟩ = some (.int .u32 0) := cell_of_row w0 _ 2 _ _ _ b1
  have e2 : w0.frozen? ⟨w.heap.size + 1, 2, none⟩ = false := freeB b1 2
  have d3 : w0.cell? ⟨w.heap.size + 1, 3, none⟩ = some (.int .u32 0) := cell_of_row w0 _ 3 _ _ _ b1
  have e3 : w0.frozen? ⟨w.heap.size + 1, 3, none⟩ = false := freeB b1 3
  have d4 : w0.cell? ⟨w.heap.size + 1, 4, none⟩ = some (.int .u32 0) := cell_of_row w0 _ 4 _ _ _ b1
  have e4 : w0.frozen? ⟨w.heap.size + 1, 4, none⟩ = false := freeB b1 4
  have d5 : w0.cell? ⟨w.heap.size + 1, 5, none⟩ = some (.int .u32 0) := cell_of_row w0 _ 5 _ _ _ b1
  have e5 : w0.frozen? ⟨w.heap.size + 1, 5, none⟩ = false := freeB b1 5
  have d6 : w0.cell? ⟨w.heap.size + 1, 6, none⟩ = some (.int .u32 0) := cell_of_row w0 _ 6 _ _ _ b1
  have e6 : w0.frozen? ⟨w.heap.size + 1, 6, none⟩ = false := freeB b1 6
  have d7 : w0.cell? ⟨w.heap.size + 1, 7, none⟩ = some (.int .u32 0) := cell_of_row w0 _ 7 _ _ _ b1
  have e7 : w0.frozen? ⟨w.heap.size + 1, 7, none⟩ = false := freeB b1 7
  have B1 : Hid (w0.heap[w.heap.size + 1]? = some (.cells wZ 176 (0, 0))) := Lib.hid b1
  clear hw0 hw0' b0 b1
  go_wp2_with fail
  go_quiet ((go_at_call 161; first | with_reducible exact Calls.quiet_of_same (R4.out _) | with_reducible exact Calls.quiet_of_same (R5.out _) | with_reducible exact Calls.quiet_of_same (R6.out _)))
  rw [X1.out]
  clear R4 R5 R6 X1
  have T := Lib.hid (rawT HV.out k t s1 HS1.out)
  have U := Lib.hid (rawU HV.out s0 HS0.out)
  have RES : Hid (#[Value.int .u32 (((rndT v k t : Nat) : Int) + ((rndU v : Nat) : Int)) , Value.int .u32 (v.a : Int)] = #[Value.int .u32 (((rndT v k t : Nat) : Int) + ((rndU v : Nat) : Int)) , Value.int .u32 (v.a : Int)]) := Lib.hid rfl
  go_upto_region 5 with fail
  rw [T.out, U.out]
  obtain ⟨tt, htt⟩ : ∃ x, x = rndT v k t := ⟨_, rfl⟩
  obtain ⟨uu, huu⟩ : ∃ x, x = rndU v := ⟨_, rfl⟩
  have R : Hid (wC (rnd v k t) = #[.int .u32 (((tt : Int) + (uu : Int)) % 4294967296), .int .u32 (v.a : Int), .int .u32 (v.b : Int), .int .u32 (v.c : Int), .int .u32 (((v.d : Int) + (tt : Int)) % 4294967296), .int .u32 (v.e : Int), .int .u32 (v.f : Int), .int .u32 (v.g : Int)]) := Lib.hid (by unfold wC rnd; simp only [add32_cast]; rw [htt, huu])
  rw [← htt, ← huu]
  clear T U RES htt huu HS0 HS1
  go_wp2_with fail
  exact bodyPost_ret (results_cell_row Tryz.results162 _ _ (w.heap.size + 1) _ _ _ _ rfl (set8 (w := w0.drewN nq) B1.out _ _ _ _ _ _ _ _) Tryz.underlying176 rfl size_words) rfl ⟨(by have := R.out; unfold wC at this; rw [this]), below_set8 (BW.out.trans ((Dr.below ⟨nq, rfl⟩).mono BW.out.size)) (Nat.le_succ _) _ _ _ _ _ _ _ _⟩
/-- Words of 32 bits in cells. -/
def wA (ws : List Nat) : Array Value := (ws.map fun x => Value.int .u32 ((x : Nat) : Int)).toArray
theorem wA_size (ws : List Nat) : (wA ws).size = ws.length := by simp [wA]
theorem wA_set (ws : List Nat) (q x : Nat) : (wA ws).setIfInBounds q (.int .u32 ((x : Nat) : Int)) = wA (ws.set q x) := by simp [wA, List.map_set]
theorem wA_one (ws : List Nat) : (wA ws).all (·.oneCell') = true := by
  rw [Array.all_eq_true']
  intro x hx
  unfold wA at hx
  rw [List.mem_toArray, List.mem_map] at hx
  obtain ⟨y, _, rfl⟩ := hx
  rfl
/-- Sixteen words. -/
structure L16 (ws : List Nat) : Prop where
  len : ws.length = 16
  lt : ∀ x ∈ ws, x < 4294967296
theorem L16.at {ws : List Nat} (h : L16 ws) (q : Nat) : ws.getD q 0 < 4294967296 := by
  by_cases hq : q < ws.length
  · rw [List.getD_eq_getElem?_getD, List.getElem?_eq_getElem hq, Option.getD_some]; exact h.lt _ (List.getElem_mem hq)
  · rw [List.getD_eq_getElem?_getD, List.getElem?_eq_none (by omega)]; decide
theorem L16.set {ws : List Nat} (h : L16 ws) (q : Nat) {x : Nat} (hx : x < 4294967296) : L16 (ws.set q x) := ⟨by simp [h.len], fun y hy => by
  rcases List.mem_or_eq_of_mem_set hy with hy | rfl
  · exact h.lt _ hy
  · exact hx⟩
theorem l16_z : L16 (List.replicate 16 0) := ⟨by simp, fun x hx => by rw [List.mem_replicate] at hx; omega⟩
/-- A block of words. -/
def WB (w : World) (b : Nat) (T : TypeId) (ws : List Nat) : Prop := w.heap[b]? = some (.cells (wA ws) T (0, 0))
theorem WB.lt {w : World} {b : Nat} {T : TypeId} {ws : List Nat} (h : WB w b T ws) : b < w.heap.size := lt_of_block h
theorem WB.cell {w : World} {b : Nat} {T : TypeId} {ws : List Nat} (h : WB w b T ws) {q : Nat} (hq : q < ws.length) : w.cell? ⟨b, q, none⟩ = some (.int .u32 ((ws.getD q 0 : Nat) : Int)) := by
  rw [cell_of_row w b q _ _ _ h]
  simp [wA, List.getD, hq]
theorem WB.set {w : World} {b : Nat} {T : TypeId} {ws : List Nat} (h : WB w b T ws) (q x : Nat) : WB (w.setCell ⟨b, q, none⟩ (.int .u32 ((x : Nat) : Int))) b T (ws.set q x) := by
  have := setB h q (.int .u32 ((x : Nat) : Int))
  rw [wA_set] at this
  exact this
theorem WB.below {w w' : World} {b : Nat} {T : TypeId} {ws : List Nat} (h : WB w b T ws) (hb : Below w.heap.size w w') : WB w' b T ws := (hb.block b h.lt).trans h
theorem size_w16 : (Tryz.prog.info? 182).map (·.size) = some 16 := by kernel_rfl
theorem size_b64 : (Tryz.prog.info? 177).map (·.size) = some 64 := by kernel_rfl
theorem WB.load {w : World} {b : Nat} {ws : List Nat} (h : WB w b 182 ws) (hl : L16 ws) : (loadVar 182 ⟨b, 0, none⟩).run Tryz.prog w = .ok (.agg (wA ws)) w :=
  run_loadVar_row w b _ 182 _ _ _ h Tryz.underlying182 rfl (by rw [wA_size, hl.len]; exact size_w16)
theorem idx_blk {l : List Nat} (hl : l.length = 64) (j : Nat) (hj : j < 64) (c : Nat) (hc : c = l.getD j 0) (w : World) : (Instr.index 177 (.agg (idA l)) (.int .i64 (j : Int))).run Tryz.prog w = .ok (.int .u8 (c : Int)) w := by
  have hi : (0 : Int) ≤ (j : Int) ∧ (j : Int) < 64 := by omega
  have hjl : j < l.length := by omega
  have e : (idA l)[j]? = some (U c) := by
    rw [hc]; unfold idA
    simp [List.getD, hjl]
  simp [Instr.index, run_underlying Tryz.underlying177, asIntOf, hi, go_sem]
  rw [if_pos hj, e]
  rfl
theorem ldStep_ok {b ws : List Nat} (hb : ∀ x ∈ b, x < 256) (h : L16 ws) (i : Nat) : L16 (ldStep b ws i) := by
  refine h.set _ ?_
  have h1 : shl32 (ws.getD (i / 4) 0) 8 < 2 ^ 32 := Nat.mod_lt _ (by decide)
  have h2 : b.getD i 0 < 2 ^ 32 := by
    by_cases hq : i < b.length
    · rw [List.getD_eq_getElem?_getD, List.getElem?_eq_getElem hq, Option.getD_some]; have := hb _ (List.getElem_mem hq); omega
    · rw [List.getD_eq_getElem?_getD, List.getElem?_eq_none (by omega)]; decide
  exact Nat.or_lt_two_pow h1 h2
theorem ldSt_ok {b : List Nat} (hb : ∀ x ∈ b, x < 256) (n : Nat) : L16 (ldSt b n) := by
  induction n with
  | zero => exact l16_z
  | succ n ih => rw [ldSt_succ]; exact ldStep_ok hb ih n
structure B64 (l : List Nat) : Prop where
  len : l.length = 64
  lt : ∀ x ∈ l, x < 256
set_option maxHeartbeats 1000000 in
theorem load_any (w : World) {l : List Nat} (hl : B64 l) :
    Calls Tryz.prog 123 #[.agg (idA l)] w fun e w' => e = .returned (.agg (wA (ldF l))) ∧ Below w.heap.size w w' := by
  obtain ⟨cs, hcs⟩ : ∃ cs, cs = idA l := ⟨_, rfl⟩
  obtain ⟨p, hp⟩ : ∃ p, p = w.heap.size := ⟨_, rfl⟩
  have HL := Lib.hid hl; have HP := Lib.hid hp; have HCS := Lib.hid hcs
  obtain ⟨zs, hzs⟩ : ∃ zs, zs = wA (List.replicate 16 0) := ⟨_, rfl⟩
  have Z0 : Hid (zs = #[.int .u32 0, .int .u32 0, .int .u32 0, .int .u32 0, .int .u32 0, .int .u32 0, .int .u32 0, .int .u32 0, .int .u32 0, .int .u32 0, .int .u32 0, .int .u32 0, .int .u32 0, .int .u32 0, .int .u32 0, .int .u32 0]) := Lib.hid (by rw [hzs]; rfl)
  obtain ⟨w3, hw3⟩ : ∃ w3, w3 = (((w.alloc (.cells cs 177)).alloc (.cells zs 182)).alloc (.cells zs 182)) := ⟨_, rfl⟩
  have B3 : Hid (Below w.heap.size w w3) := Lib.hid (by rw [hw3]; exact (((Below.refl _ _).alloc (Nat.le_refl _) _).alloc (by simp) _).alloc (by simp; omega) _)
  have b0 : w3.heap[w.heap.size]? = some (.cells cs 177 (0, 0)) := by
    rw [hw3]; exact alloc_block (alloc_block (heap_alloc_last w _))
  have b1 : WB w3 (w.heap.size + 1) 182 (List.replicate 16 0) := by
    unfold WB; rw [hw3, ← hzs]; have := heap_alloc_last (w.alloc (.cells cs 177)) (.cells zs 182); rw [World.size_alloc] at this; exact alloc_block this
  have b2 : WB w3 (w.heap.size + 2) 182 (List.replicate 16 0) := by
    unfold WB; rw [hw3, ← hzs]; have := heap_alloc_last ((w.alloc (.cells cs 177)).alloc (.cells zs 182)) (.cells zs 182); rw [World.size_alloc, World.size_alloc] at this; exact this
  have W3 := Lib.hid hw3
  have LD := Lib.hid (run_loadVar_row (P := Tryz.prog) w3 w.heap.size _ 177 cs _ _ b0 Tryz.underlying177 rfl (by rw [hcs, idA_size, hl.len]; exact size_b64))
  have EX := Lib.hid (fun j hj c hc w => idx_blk hl.len j hj c hc w)
  rw [← hcs]
  clear hl hcs hp hw3 b0 hzs
  go_enter Tryz.func123, Tryz.ntmps123
  go_upto_region 2 with fail
  have W3' := W3.out
  rw [Z0.out] at W3'
  rw [← W3']
  rw [show w.heap.size + 1 + 1 = w.heap.size + 2 from rfl]
  clear W3' W3
  refine wp_region_list ?_
  simp only []
  refine wpList_load 177 rfl _ rfl ⟨_, _, rfl, LD.out, ?_⟩
  clear LD
  go_wp2_with fail
  go_loopg [4, 5, 7] 64 (fun k v4 v5 i wr => ∃ j : Nat, j ≤ 64 ∧ k = 64 - j ∧ i = .int .i64 (j : Int) ∧ WB wr (w.heap.size + 2) 182 (ldSt l j) ∧ WB wr (w.heap.size + 1) 182 (List.replicate 16 0) ∧ Below w.heap.size w wr)
  case atStart => exact ⟨0, by omega, rfl, rfl, b2, b1, B3.out⟩
  case round =>
    obtain ⟨j, hj, rfl, rfl, h2, h1, hbw⟩ := hrel
    have HB := Lib.hid hbw
    have H1 := Lib.hid h1; have H2 := Lib.hid h2
    have LO := Lib.hid (ldSt_ok HL.out.lt j)
    clear hbw h1 h2 b1 b2
    by_cases h : j < 64
    · obtain ⟨c, hc⟩ : ∃ c, c = l.getD j 0 := ⟨_, rfl⟩
      have ix : ∀ w, (Instr.index 177 (.agg cs) (.int .i64 (j : Int))).run Tryz.prog w = .ok (.int .u8 (c : Int)) w := fun w => by rw [HCS.out]; exact EX.out j h c hc w
      have hjl : j < l.length := by rw [HL.out.len]; exact h
      have hc2 : c < 256 := by rw [hc, List.getD_eq_getElem?_getD, List.getElem?_eq_getElem hjl, Option.getD_some]; exact HL.out.lt _ (List.getElem_mem hjl)
      obtain ⟨q, hq⟩ : ∃ q, q = j / 4 := ⟨_, rfl⟩
      have hq2 : q < 16 := by omega
      obtain ⟨v, hv⟩ : ∃ v, v = (ldSt l j).getD q 0 := ⟨_, rfl⟩
      have hv2 : v < 4294967296 := by rw [hv]; exact LO.out.at q
      have cl : wr.cell? ⟨w.heap.size + 2, q, none⟩ = some (.int .u32 ((v : Nat) : Int)) := by rw [hv]; exact H2.out.cell (by rw [LO.out.len]; exact hq2)
      have fr : wr.frozen? ⟨w.heap.size + 2, q, none⟩ = false := freeB H2.out q
      have NX : Hid (ldSt l (j + 1) = (ldSt l j).set q (shl32 v 8 ||| c)) := Lib.hid (by rw [ldSt_succ]; unfold ldStep; rw [← hq, ← hv, ← hc])
      have jq : (j : Int) / 4 = (q : Int) := by omega
      clear hq hv hc hjl
      go_wp2_with fail
      have e0 : ((v : Int) * 256 % 4294967296) = ((shl32 v 8 : Nat) : Int) := by unfold shl32; omega
      rw [e0, u32_or_nat (shl32 v 8) c (Nat.mod_lt _ (by omega)) (by omega)]
      go_roundg (64 - (j + 1))
      case measure => omega
      case rel => exact ⟨j + 1, by omega, rfl, by go_num, by rw [NX.out]; exact H2.out.set q _, by have := H1.out; unfold WB at this ⊢; rw [otherB _ _ _ _ _ (by omega)]; exact this, HB.out.setCell (Nat.le_add_right _ 2) _⟩
    · obtain rfl : j = 64 := by omega
      have L2 := Lib.hid (H2.out.load LO.out)
      have Z1 := wA_size (List.replicate 16 0)
      have ST := Lib.hid (run_storeVar_row (P := Tryz.prog) wr (w.heap.size + 1) _ 182 (wA (List.replicate 16 0)) (wA (ldF l)) H1.out (by rw [wA_size]; unfold ldF; rw [LO.out.len]; exact size_w16) (by rw [wA_size, wA_size]; unfold ldF; rw [LO.out.len]; simp) (wA_one _))
      have W2 := Lib.hid (setRow_heap wr (w.heap.size + 1) _ (wA (ldF l)) _ _ H1.out)
      have SZ : Hid ((Tryz.prog.info? 182).map (·.size) = some (wA (ldF l)).size) := Lib.hid (by rw [wA_size]; unfold ldF; rw [LO.out.len]; exact size_w16)
      have BE := Lib.hid (below_setRow HB.out (Nat.le_succ _) (wA (ldF l)))
      obtain ⟨rs, hrs⟩ : ∃ rs, rs = wA (ldF l) := ⟨_, rfl⟩
      have e1 : wA (ldSt l 64) = wA (ldF l) := rfl
      rw [e1, ← hrs] at L2
      rw [← hrs] at ST W2 SZ BE
      have HRS := Lib.hid hrs
      clear hrs e1 Z1 h HB EX
      go_wp2_with (first
        | ((with_reducible refine wpList_load 182 rfl _ rfl ?_); refine ⟨_, _, rfl, L2.out, ?_⟩)
        | ((with_reducible refine wpList_store 182 rfl _ _ rfl ?_); refine ⟨_, _, _, rfl, rfl, ST.out, ?_⟩))
      exact bodyPost_ret (results_cell_row Tryz.results123 _ _ (w.heap.size + 1) _ _ _ _ rfl W2.out Tryz.underlying182 rfl SZ.out) rfl ⟨by rw [HRS.out], BE.out⟩
end Go.Proofs.YtohmdledkhgdaaaGreatDoor
