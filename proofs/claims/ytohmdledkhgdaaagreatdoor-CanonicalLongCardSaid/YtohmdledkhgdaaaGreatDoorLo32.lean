/- bulletinref03.All (printed by gen_all.py). -/
import Derived.Test.YtohmdledkhgdaaaGreatDoorLo31
import Derived.Test.YtohmdledkhgdaaaGreatDoorLo28
namespace Go.Proofs.YtohmdledkhgdaaaGreatDoor
open Go.RowKit
set_option linter.unusedVariables false
set_option maxRecDepth 100000
/-- Two rows of numbers that grow side by side. -/
structure TA (w : World) (u1 u2 : Value) (n1 n2 : Nat) (xs1 xs2 : List Value) (W : World) : Prop where
  r1 : W.ownsRow w.heap.size 3 1 u1 n1 xs1
  r2 : W.ownsRow w.heap.size 3 1 u2 n2 xs2
  sep : ∀ k, u1.ownBlock = some k → u2.ownBlock ≠ some k
  bel : Below w.heap.size w W
theorem TA.alloc {w : World} {u1 u2 : Value} {n1 n2 : Nat} {xs1 xs2 : List Value} {W : World} (h : TA w u1 u2 n1 n2 xs1 xs2 W) (o : Obj) : TA w u1 u2 n1 n2 xs1 xs2 (W.alloc o) := ⟨h.r1.alloc o, h.r2.alloc o, h.sep, h.bel.alloc h.bel.size o⟩
theorem TA.symm {w : World} {u1 u2 : Value} {n1 n2 : Nat} {xs1 xs2 : List Value} {W : World} (h : TA w u1 u2 n1 n2 xs1 xs2 W) : TA w u2 u1 n2 n1 xs2 xs1 W := ⟨h.r2, h.r1, fun k h1 h2 => h.sep k h2 h1, h.bel⟩
theorem TA.app {w : World} {u1 u2 : Value} {n1 n2 : Nat} {xs1 xs2 : List Value} {W : World} (h : TA w u1 u2 n1 n2 xs1 xs2 W) (hn : n1 ≤ 100000000) (q : Nat) (x : Value) (hx : x.oneCell' = true) (hq : W.heap[q]? = some (.cells #[x] 3 (0, 0))) :
    ∃ v' W', (Builtin.append_ #[133, 133] 133 #[u1, .slice (some ⟨q, 0, none⟩) 1 1]).run Tryz.prog W = .ok v' W' ∧ TA w v' u2 (n1 + 1) n2 (xs1 ++ [x]) xs2 W' ∧ (∀ k, k < W.heap.size → u1.ownBlock ≠ some k → W'.heap[k]? = W.heap[k]?) := by
  obtain ⟨i0, hi0, hz0, hz1, hz2⟩ := info_parts infoN
  have hnews : ∀ (j : Nat) u, [x][j]? = some u → W.cell? ((⟨q, 0, none⟩ : Addr).add j) = some u := World.news_of_block (cs := #[x]) (t := 3) (fr := (0, 0)) hq
  have h63 : n1 + 1 ≤ maxLen := by unfold maxLen; omega
  obtain ⟨v', w', hr, h2, h3, h4⟩ := run_append_own (P := Tryz.prog) W w.heap.size 133 133 3 i0 (.int .i64 0) 1 8 Tryz.underlying133 hi0 hz0 hz1 hz2 rfl (by decide) u1 n1 xs1 h.r1 ⟨q, 0, none⟩ 1 1 [x] rfl hnews (by simpa using hx) h63 (by omega) h.bel.size
  have h5 := append_block (P := Tryz.prog) W w.heap.size 133 133 3 i0 (.int .i64 0) 1 8 Tryz.underlying133 hi0 hz0 hz1 hz2 u1 n1 xs1 h.r1 ⟨q, 0, none⟩ 1 1 [x] rfl hnews (by simpa using hx) h63 (by omega) (by omega) v' w' hr
  have e2 : u2.ownBlock = none ∨ u2.ownBlock ≠ u1.ownBlock := by
    cases e : u2.ownBlock with
    | none => exact .inl rfl
    | some k => exact .inr (fun e' => h.sep k e'.symm e)
  refine ⟨v', w', hr, ⟨h2, h.r2.kept h3 e2, fun k hk hk2 => ?_, Below.grown h.bel h3 h.bel.size (fun k hk => (h.r1.lt k hk).1)⟩, fun k hk hne => h3.block k hk (fun e => hne e.symm)⟩
  rcases h5 k hk with h6 | h6
  · exact h.sep k h6 hk2
  · have := (h.r2.lt k hk2).2; omega
theorem bs1_n (w : World) (x : Int) : (Instr.buildSlice 133 1 #[(0, .int .i64 x)]).run Tryz.prog w = .ok (.slice (some ⟨w.heap.size, 0, none⟩) 1 1) (w.alloc (.cells #[.int .i64 x] 3)) := by kernel_rfl
theorem exec_bsn {P : Program} {o : Oper} {a : Act} (w : World) {t e : TypeId} {x : Operand} {v : Value} (ho : o.op = .buildSlice t 1 #[(0, x)]) (hx : a.eval x = v) (h : (Instr.buildSlice t 1 #[(0, v)]).run P w = .ok (.slice (some ⟨w.heap.size, 0, none⟩) 1 1) (w.alloc (.cells #[v] e))) : (execOp a.eval o).run P w = .ok (.value (.slice (some ⟨w.heap.size, 0, none⟩) 1 1)) (w.alloc (.cells #[v] e)) := by
  unfold execOp
  rw [ho]
  simp only [List.map_toArray, List.map_cons, List.map_nil, hx]
  rw [Sem.run_bind, h]
  rfl
/-- What All returns. -/
def AllPost (l : List Nat) (w : World) (e : Ending) (w' : World) : Prop :=
  ∃ (v1 v2 : Value) (a er : Nat), e = .returned (.tuple #[v1, v2, .int .i64 (a : Int), .int .i64 (er : Int)]) ∧ NRow w' v1 ((rns l).map Prod.snd) ∧ NRow w' v2 ((rns l).map Prod.fst) ∧ (vld l = true → er = 0) ∧ (vld l = false → er ≠ 0) ∧ a ≤ l.length ∧ Below w.heap.size w w'
theorem rns_eq (l : List Nat) : rns l = rsN l.length 0 l := rfl
theorem rns_len (l : List Nat) : (rns l).length ≤ l.length := rsN_len _ _ _
theorem results_tmp4 {fn : Func} {t u v x : Tmp} (h : fn.results = #[.tmp t, .tmp u, .tmp v, .tmp x]) (tmps : Array Value) (P : Program) (w : World) :
    (results fn tmps).run P w = .ok (.tuple #[tmps.getD t undef, tmps.getD u undef, tmps.getD v undef, tmps.getD x undef]) w := by
  simp [results, h]
/-- The state of the loop. -/
structure AlI (s : ByteArray) (w : World) (n : Nat) (u1 u2 : Value) (pre : List (Nat × Nat)) (wr : World) : Prop where
  rn1 : rns (bs s) = pre ++ rsN (s.size - n) n ((bs s).drop n)
  vd1 : vld (bs s) = vld ((bs s).drop n)
  len : pre.length ≤ n
  ta : TA w u1 u2 pre.length pre.length ((pre.map Prod.snd).map nV) ((pre.map Prod.fst).map nV) wr
theorem AlI.post1 {s : ByteArray} {w wr : World} {n : Nat} {u1 u2 : Value} {pre : List (Nat × Nat)} (h : AlI s w n u1 u2 pre wr) (he : rns (bs s) = pre) : NRow wr u1 ((rns (bs s)).map Prod.snd) := by
  rw [he]
  exact ownN_row (base := w.heap.size) (by rw [List.length_map]; exact h.ta.r1)
theorem AlI.post2 {s : ByteArray} {w wr : World} {n : Nat} {u1 u2 : Value} {pre : List (Nat × Nat)} (h : AlI s w n u1 u2 pre wr) (he : rns (bs s) = pre) : NRow wr u2 ((rns (bs s)).map Prod.fst) := by
  rw [he]
  exact ownN_row (base := w.heap.size) (by rw [List.length_map]; exact h.ta.r2)
set_option maxHeartbeats 1000000 in
theorem all_any (s : ByteArray) (w : World) (hs : s.size ≤ 10000000) :
    Calls Tryz.prog 84 #[.string s] w (AllPost (bs s) w) := by
  go_enter Tryz.func84, Tryz.ntmps84
  go_wp2_with fail
  go_loopg [6, 7, 8] s.size (fun k a b i wr => ∃ (n : Nat) (pre : List (Nat × Nat)), n ≤ s.size ∧ k = s.size - n ∧ i = .int .i64 (n : Int) ∧ Hid (AlI s w n a b pre wr))
  case atStart => exact ⟨0, [], by omega, rfl, rfl, Lib.hid ⟨by rw [Nat.sub_zero, rns_eq, bs_length]; rfl, rfl, Nat.le_refl _, ⟨World.ownsRow_nil _ _ _ _, World.ownsRow_nil _ _ _ _, (fun k h => by simp [Value.ownBlock] at h), Below.refl _ _⟩⟩⟩
  case round =>
    obtain ⟨n, pre, hn, rfl, rfl, J⟩ := hrel
    by_cases b : n < s.size
    · have hsz : (s.extract n s.size).size = s.size - n := by rw [ByteArray.size_extract]; omega
      have D := Lib.hid (first_any (s.extract n s.size) wr (by omega) (by rw [hsz]; unfold maxLen; omega))
      rw [bs_from] at D
      have hl := (rn_le ((bs s).drop n)).1
      rw [List.length_drop, bs_length] at hl
      have hne : (bs s).drop n ≠ [] := by intro e; have := congrArg List.length e; rw [List.length_drop, bs_length] at this; simp at this; omega
      have hst := vld_step hne
      have hlt : ((bs s).drop n).length = s.size - n := by rw [List.length_drop, bs_length]
      by_cases z : rn ((bs s).drop n) = 0
      · have E1 : Hid (rns (bs s) = pre) := Lib.hid (by rw [J.out.rn1, rsN_stop _ _ _ z, List.append_nil])
        have E2 : Hid (vld (bs s) = false) := Lib.hid (by rw [J.out.vd1, hst, z]; rfl)
        have Z := Lib.hid z
        clear hst hne hsz hlt z
        go_wp2_with fail
        refine D.out.mono ?_
        rintro e w1 ⟨r, m, er, rfl, h1, h2, hb⟩
        have q1 : ((er : Int) != 0) = true := int_neq (by have := h2 Z.out; omega)
        have H2 := Lib.hid (h2 Z.out)
        have HB := Lib.hid hb
        clear D h1 h2 hb
        go_wp2_with fail
        (try simp only [Exit.inBlock, Exit.then])
        refine bodyPost_ret (results_tmp4 rfl _ _ _) rfl ?_
        exact ⟨_, _, n, er, rfl, (J.out.post1 E1.out).below HB.out, (J.out.post2 E1.out).below HB.out, (fun h => by rw [E2.out] at h; cases h), (fun _ => H2.out), by rw [bs_length]; exact hn, J.out.ta.bel.trans (HB.out.mono J.out.ta.bel.size)⟩
      · obtain ⟨p, hp⟩ : ∃ p, p = (n, cpt ((bs s).drop n)) := ⟨_, rfl⟩
        have E1 : Hid (∀ m, m = rn ((bs s).drop n) → rns (bs s) = (pre ++ [p]) ++ rsN (s.size - (n + m)) (n + m) ((bs s).drop (n + m))) := Lib.hid (by
          rintro m rfl
          rw [J.out.rn1, rsN_step _ _ _ z (by rw [hlt]; exact Nat.le_refl _), ← hp, List.drop_drop, List.length_drop, bs_length, List.append_assoc]
          rfl)
        have E2 : Hid (∀ m, m = rn ((bs s).drop n) → vld (bs s) = vld ((bs s).drop (n + m))) := Lib.hid (by
          rintro m rfl
          rw [J.out.vd1, hst, List.drop_drop]
          simp [z])
        have Z := Lib.hid z
        have HP := Lib.hid hp
        have LEN := Lib.hid J.out.len
        have SZ := Lib.hid hs
        have HN := Lib.hid hn
        clear hst hne hsz hlt z hp
        go_wp2_with fail
        refine D.out.mono ?_
        rintro e w1 ⟨r, m, er, rfl, h1, h2, hb⟩
        obtain ⟨hr, hm, rfl⟩ := h1 Z.out
        have HM := Lib.hid hm
        have HR := Lib.hid hr
        have T1 : TA w u6 u7 pre.length pre.length ((pre.map Prod.snd).map nV) ((pre.map Prod.fst).map nV) w1 := ⟨owns_below J.out.ta.r1 hb, owns_below J.out.ta.r2 hb, J.out.ta.sep, J.out.ta.bel.trans (hb.mono J.out.ta.bel.size)⟩
        have T2 := Lib.hid T1
        have hml : m ≤ s.size - n := by rw [hm]; exact hl
        have hm0 : m ≠ 0 := by rw [hm]; exact Z.out
        have EXT : Hid (∀ v8 v9 W, TA w v8 v9 (pre.length + 1) (pre.length + 1) ((pre.map Prod.snd).map nV ++ [.int .i64 (r : Int)]) ((pre.map Prod.fst).map nV ++ [.int .i64 (n : Int)]) W → AlI s w (n + m) v8 v9 (pre ++ [p]) W) := Lib.hid (fun v8 v9 W h => ⟨E1.out m HM.out, E2.out m HM.out, by rw [List.length_append]; have := LEN.out; simp; omega, by
          rw [List.length_append, List.map_append, List.map_append, List.map_append, List.map_append, HP.out, ← HR.out]
          exact h⟩)
        have PL : Hid (pre.length ≤ 100000000) := Lib.hid (by have := LEN.out; have := SZ.out; have := HN.out; omega)
        have OR : Hid (nV r = .int .i64 (r : Int)) := Lib.hid rfl
        clear D h1 h2 hb hm hr hl J T1 E1 E2 Z HP LEN HM HR
        obtain ⟨ol, hol⟩ : ∃ o, o = pre.length := ⟨_, rfl⟩
        rw [← hol] at T2 EXT PL
        obtain ⟨xs1, hx1⟩ : ∃ o, o = (pre.map Prod.snd).map nV := ⟨_, rfl⟩
        obtain ⟨xs2, hx2⟩ : ∃ o, o = (pre.map Prod.fst).map nV := ⟨_, rfl⟩
        rw [← hx1, ← hx2] at T2 EXT
        clear hol hx1 hx2
        go_upto_region 7 with fail
        refine wp_region_list ?_
        simp only []
        have A1 := T2.out.alloc (.cells #[.int .i64 (r : Int)] 3)
        obtain ⟨v8, W2, hr, A2, _⟩ := A1.app PL.out w1.heap.size (.int .i64 (r : Int)) rfl (heap_alloc_new w1 _)
        have A3 := A2.alloc (.cells #[.int .i64 (n : Int)] 3)
        obtain ⟨v9, W4, hr2, A4, _⟩ := A3.symm.app PL.out W2.heap.size (.int .i64 (n : Int)) rfl (heap_alloc_new W2 _)
        have FJ := Lib.hid (EXT.out _ _ _ A4.symm)
        clear T2 A1 A2 A3 A4 EXT
        refine wpList_run (v := u6) (w' := w1) rfl (by go_simp) ?_
        refine wpList_run (v := .int .i64 (r : Int)) (w' := w1) rfl (by go_simp) ?_
        refine wpList_run rfl (exec_bsn w1 (x := .tmp 31) (v := .int .i64 (r : Int)) rfl (by kernel_rfl) (bs1_n _ _)) ?_
        refine wpList_run rfl (exec_append (s := .tmp 30) (x := .tmp 32) (v := u6) (u := .slice (some ⟨w1.heap.size, 0, none⟩) 1 1) rfl (by kernel_rfl) (by kernel_rfl) hr) ?_
        refine wpList_run (v := u7) (w' := W2) rfl (by go_simp) ?_
        refine wpList_run (v := .int .i64 (n : Int)) (w' := W2) rfl (by go_simp) ?_
        refine wpList_run rfl (exec_bsn W2 (x := .tmp 35) (v := .int .i64 (n : Int)) rfl (by kernel_rfl) (bs1_n _ _)) ?_
        refine wpList_run rfl (exec_append (s := .tmp 34) (x := .tmp 36) (v := u7) (u := .slice (some ⟨W2.heap.size, 0, none⟩) 1 1) rfl (by kernel_rfl) (by kernel_rfl) hr2) ?_
        clear hr hr2
        go_wp2_with fail
        go_roundg (s.size - (n + m))
        case measure => omega
        case rel => exact ⟨n + m, pre ++ [p], by omega, rfl, by go_num, FJ⟩
    · have E1 : Hid (rns (bs s) = pre) := Lib.hid (by rw [J.out.rn1, List.drop_of_length_le (by rw [bs_length]; omega), rsN_stop _ _ _ rn_nil, List.append_nil])
      have E2 : Hid (vld (bs s) = true) := Lib.hid (by rw [J.out.vd1, List.drop_of_length_le (by rw [bs_length]; omega)]; rfl)
      go_wp2_with fail
      (try simp only [Exit.inBlock, Exit.then])
      refine bodyPost_ret (results_tmp4 rfl _ _ _) rfl ?_
      exact ⟨_, _, 0, 0, rfl, J.out.post1 E1.out, J.out.post2 E1.out, (fun _ => rfl), (fun h => by rw [E2.out] at h; cases h), Nat.zero_le _, J.out.ta.bel⟩
theorem dbl_iff : ∀ l : List Nat, dbl l = true ↔ ∃ i, i + 1 < l.length ∧ l.getD i 0 = 32 ∧ l.getD (i + 1) 0 = 32
  | [] => by simp [dbl]
  | [a] => by simp [dbl]
  | a :: b :: t => by
    have ih := dbl_iff (b :: t)
    simp only [dbl, Bool.or_eq_true, Bool.and_eq_true, decide_eq_true_eq]
    rw [ih]
    constructor
    · rintro (⟨rfl, rfl⟩ | ⟨i, h1, h2, h3⟩)
      · exact ⟨0, by simp, rfl, rfl⟩
      · exact ⟨i + 1, by simp at h1 ⊢; omega, h2, h3⟩
    · rintro ⟨i, h1, h2, h3⟩
      cases i with
      | zero => exact .inl ⟨h2, h3⟩
      | succ i => exact .inr ⟨i, by simp at h1 ⊢; omega, h2, h3⟩
/-- A space that may not stand. -/
def spB (l : List Nat) (i : Nat) : Prop := l.getD i 0 = 32 ∧ (i = 0 ∨ i = l.length - 1 ∨ l.getD (i + 1) 0 = 32)
theorem sqz_iff (l : List Nat) : sqz l = true ↔ ∀ i, i < l.length → ¬ spB l i := by
  unfold sqz
  simp only [Bool.and_eq_true, Bool.not_eq_true', decide_eq_false_iff_not]
  have hd := dbl_iff l
  constructor
  · rintro ⟨⟨h1, h2⟩, h3⟩ i hi ⟨h4, h5⟩
    rcases h5 with rfl | rfl | h5
    · apply h1
      cases l with
      | nil => simp at hi
      | cons a t => simpa using h4
    · apply h2
      rw [List.getLast?_eq_getElem?]
      simp [List.getD, hi] at h4 ⊢
      exact h4
    · by_cases hi1 : i + 1 < l.length
      · rw [hd.2 ⟨i, hi1, h4, h5⟩] at h3; cases h3
      · simp [List.getD, hi1] at h5
  · intro h
    refine ⟨⟨fun h1 => ?_, fun h1 => ?_⟩, ?_⟩
    · cases l with
      | nil => cases h1
      | cons a t => exact h 0 (by simp) ⟨by simpa using h1, .inl rfl⟩
    · by_cases hz : l = []
      · subst hz; cases h1
      · have : 0 < l.length := List.length_pos_iff.2 hz
        rw [List.getLast?_eq_getElem?] at h1
        exact h (l.length - 1) (by omega) ⟨by simp [List.getD, h1], .inr (.inl rfl)⟩
    · cases hb : dbl l with
      | false => rfl
      | true =>
        obtain ⟨i, h1, h2, h3⟩ := hd.1 hb
        exact absurd ⟨h2, .inr (.inr h3)⟩ (h i (by omega))
theorem sqz_no {l : List Nat} {i : Nat} (hi : i < l.length) (h : spB l i) : sqz l = false := by
  cases hs : sqz l with
  | false => rfl
  | true => exact absurd h ((sqz_iff l).1 hs i hi)
set_option maxHeartbeats 1000000 in
theorem rsqz_any (s : ByteArray) (w : World) (hs : s.size ≤ maxLen) :
    Calls Tryz.prog 86 #[.string s] w fun e w' => e = .returned (.bool (sqz (bs s))) ∧ Dr w w' := by
  unfold maxLen at hs
  go_enter Tryz.func86, Tryz.ntmps86
  go_wp2_with fail
  go_loopg [3] s.size (fun k i wr => ∃ n : Nat, n ≤ s.size ∧ k = s.size - n ∧ i = .int .i64 (n : Int) ∧ Hid (∀ i, i < n → ¬ spB (bs s) i) ∧ Hid (Dr w wr))
  case atStart => exact ⟨0, by omega, rfl, rfl, Lib.hid (fun i h => by omega), Lib.hid (Dr.refl _)⟩
  case round =>
    obtain ⟨n, hn, rfl, rfl, hv, hd⟩ := hrel
    by_cases b : n < s.size
    · obtain ⟨x, hx⟩ : ∃ x, x = (bs s).getD n 0 := ⟨_, rfl⟩
      have hx2 : x < 256 := by rw [hx]; exact bs_lt' s n
      have y1 := fun w => idx_q s w n n rfl b x hx
      have NXT : Hid (¬ spB (bs s) n → ∀ i, i < n + 1 → ¬ spB (bs s) i) := Lib.hid (fun h i hi => by
        rcases Nat.lt_succ_iff_lt_or_eq.1 hi with h' | rfl
        · exact hv.out i h'
        · exact h)
      have NO : Hid (spB (bs s) n → sqz (bs s) = false) := Lib.hid (sqz_no (by rw [bs_length]; exact b))
      have HX := Lib.hid hx
      clear hx hv
      by_cases e32 : x = 32
      · have q1 : ((x : Int) == 32) = true := int_eq (by omega)
        by_cases n0 : n = 0
        · have q2 : ((n : Int) == 0) = true := int_eq (by omega)
          have F := Lib.hid (NO.out ⟨by rw [← HX.out]; exact e32, .inl n0⟩)
          clear NXT NO e32 n0
          go_wp2_with fail
          go_ret
          exact ⟨by rw [F.out]; rfl, by (first | exact hd.out | exact hd.out.drewN _)⟩
        by_cases nl : n = s.size - 1
        · have q2 : ((n : Int) == 0) = false := int_ne (by omega)
          have q3 : ((n : Int) == (s.size : Int) - 1) = true := int_eq (by omega)
          have F := Lib.hid (NO.out ⟨by rw [← HX.out]; exact e32, .inr (.inl (by rw [bs_length]; exact nl))⟩)
          clear NXT NO e32 n0 nl
          go_wp2_with fail
          go_ret
          exact ⟨by rw [F.out]; rfl, by (first | exact hd.out | exact hd.out.drewN _)⟩
        obtain ⟨y, hy⟩ : ∃ y, y = (bs s).getD (n + 1) 0 := ⟨_, rfl⟩
        have hy2 : y < 256 := by rw [hy]; exact bs_lt' s (n + 1)
        have y2 := fun w => idx_q s w ((n : Int) + 1) (n + 1) (by omega) (by omega) y hy
        have q2 : ((n : Int) == 0) = false := int_ne (by omega)
        have q3 : ((n : Int) == (s.size : Int) - 1) = false := int_ne (by omega)
        by_cases f32 : y = 32
        · have q4 : ((y : Int) == 32) = true := int_eq (by omega)
          have F := Lib.hid (NO.out ⟨by rw [← HX.out]; exact e32, .inr (.inr (by rw [← hy]; exact f32))⟩)
          clear NXT NO e32 n0 nl f32 hy
          go_wp2_with fail
          go_ret
          exact ⟨by rw [F.out]; rfl, by (first | exact hd.out | exact hd.out.drewN _)⟩
        · have q4 : ((y : Int) == 32) = false := int_ne (by omega)
          have F := Lib.hid (NXT.out (fun h => h.2.elim (fun h => n0 h) (fun h => h.elim (fun h => nl (by rw [bs_length] at h; exact h)) (fun h => f32 (by rw [← hy] at h; exact h)))))
          clear NXT NO e32 n0 nl f32 hy
          go_wp2_with fail
          go_roundg (s.size - (n + 1))
          case measure => omega
          case rel => exact ⟨n + 1, by omega, rfl, by go_num, F, by (first | exact hd | exact Lib.hid (hd.out.drewN _))⟩
      · have q1 : ((x : Int) == 32) = false := int_ne (by omega)
        have F := Lib.hid (NXT.out (fun h => e32 (by rw [HX.out]; exact h.1)))
        clear NXT NO e32
        go_wp2_with fail
        go_roundg (s.size - (n + 1))
        case measure => omega
        case rel => exact ⟨n + 1, by omega, rfl, by go_num, F, by (first | exact hd | exact Lib.hid (hd.out.drewN _))⟩
    · have F : Hid (sqz (bs s) = true) := Lib.hid ((sqz_iff _).2 (fun i hi => hv.out i (by rw [bs_length] at hi; omega)))
      clear hv
      go_wp2_with fail
      go_ret
      exact ⟨by rw [F.out]; rfl, by (first | exact hd.out | exact hd.out.drewN _)⟩
theorem all_take_hit {p : Nat → Bool} {l : List Nat} {k c : Nat} (hk : k < l.length) (hc : c = l.getD k 0) (h : p c = false) : l.all p = false := by
  rw [List.all_eq_false]
  refine ⟨c, ?_, by simp [h]⟩
  rw [hc]; simp [List.getD, hk]
theorem all_take_miss {p : Nat → Bool} {l : List Nat} {k c : Nat} (h0 : (l.take k).all p = true) (hk : k < l.length) (hc : c = l.getD k 0) (h : p c = true) : (l.take (k + 1)).all p = true := by
  rw [List.take_succ_eq_append_getElem hk, List.all_append, h0]
  have : l[k] = c := by rw [hc]; simp [List.getD, hk]
  simp [this, h]
theorem good_map (t : Bool) (l : List Nat) : good t l = (vld l && ((rns l).map Prod.snd).all (gd t)) := by
  unfold good
  rw [List.all_map]
  rfl
theorem NRow.at {w : World} {v : Value} {ns : List Nat} (h : NRow w v ns) (j : Nat) (hj : j < ns.length) : ∃ b off cap, v = .slice (some ⟨b, off, none⟩) ns.length cap ∧ ns.length ≤ cap ∧ b < w.heap.size ∧ w.cell? ⟨b, off + j, none⟩ = some (.int .i64 (ns.getD j 0 : Int)) := by
  obtain ⟨a, cap, h1, h2, h3⟩ := h
  obtain ⟨b, off, rfl, h5, h6⟩ := h3 (fun e => by rw [e] at hj; simp at hj)
  exact ⟨b, off, cap, h1, h2, h5, by rw [h6 j hj]; simp [List.getD, hj]⟩
set_option maxHeartbeats 1000000 in
theorem rtext18_any (s : ByteArray) (most : Nat) (w : World) (hs : s.size ≤ 10000000) (hm : most ≤ 10000000) :
    Calls Tryz.prog 44 #[.string s, .int .i64 (most : Int)] w fun e w' => e = .returned (.int .i64 (textF (bs s) most : Nat)) ∧ Below w.heap.size w w' := by
  obtain ⟨T, hT⟩ : ∃ T, T = textF (bs s) most := ⟨_, rfl⟩
  rw [← hT]
  have TF : Hid (T = fe (eIf (decide (most < s.size)) 5) (fe (eIf (!(vld (bs s) && ((rns (bs s)).map Prod.snd).all (gd false))) 6) (eIf (!sqz (bs s)) 3))) := Lib.hid (by rw [hT]; unfold textF; rw [bs_length, good_map])
  clear hT
  by_cases hl : most < s.size
  · have T5 : Hid (T = 5) := Lib.hid (by rw [TF.out, decide_eq_true hl]; rfl)
    go_enter Tryz.func44, Tryz.ntmps44
    go_wp2_with fail
    go_ret
    exact ⟨by rw [T5.out]; rfl, Below.refl _ _⟩
  have TG : Hid (T = fe (eIf (!(vld (bs s) && ((rns (bs s)).map Prod.snd).all (gd false))) 6) (eIf (!sqz (bs s)) 3)) := Lib.hid (by rw [TF.out, decide_eq_false hl]; rfl)
  have A := Lib.hid (all_any s w hs)
  have SQ := Lib.hid (fun w => rsqz_any s w (by unfold maxLen; omega))
  have LN : (rns (bs s)).length ≤ s.size := by rw [← bs_length]; exact rns_len _
  have LN2 : ((rns (bs s)).map Prod.snd).length ≤ s.size := by rw [List.length_map]; exact LN
  obtain ⟨V, hV⟩ : ∃ V, V = vld (bs s) := ⟨_, rfl⟩
  obtain ⟨ns, hns⟩ : ∃ ns, ns = (rns (bs s)).map Prod.snd := ⟨_, rfl⟩
  have HV := Lib.hid hV
  rw [← hV, ← hns] at TG
  obtain ⟨m, hm2⟩ : ∃ m, m = ns.length := ⟨_, rfl⟩
  rw [← hns, ← hm2] at LN2
  have HNS := Lib.hid hns
  have HM := Lib.hid hm2
  clear TF LN hV hns hm2
  go_enter Tryz.func44, Tryz.ntmps44
  go_wp2_with fail
  refine A.out.mono ?_
  rintro e w1 ⟨v1, v2, a, er, rfl, r1, r2, h1, h2, _, hb⟩
  rw [← HNS.out] at r1
  have R1 := Lib.hid r1
  have B1 := Lib.hid hb
  cases V with
  | false =>
    have q1 : ((er : Int) != 0) = true := int_neq (by have := h2 HV.out.symm; omega)
    have T6 : Hid (T = 6) := Lib.hid (by rw [TG.out]; rfl)
    clear A r1 r2 h1 h2 hb TG
    go_wp2_with fail
    go_ret
    exact ⟨by rw [T6.out]; rfl, B1.out⟩
  | true =>
    obtain rfl := h1 HV.out.symm
    clear A r1 r2 h1 h2 hb
    obtain ⟨ba, cap, rfl, hc, _⟩ := R1.out
    rw [← HM.out] at hc ⊢
    go_wp2_with fail
    go_loopg [9] m (fun k i wr => ∃ n : Nat, n ≤ m ∧ k = m - n ∧ i = .int .i64 (n : Int) ∧ Hid ((ns.take n).all (gd false) = true) ∧ Hid (Dr w1 wr))
    case atStart => exact ⟨0, by omega, rfl, rfl, Lib.hid rfl, Lib.hid (Dr.refl _)⟩
    case round =>
      obtain ⟨n, hn, rfl, rfl, hg, hd⟩ := hrel
      by_cases b : n < m
      · have hnl : n < ns.length := by rw [← HM.out]; exact b
        obtain ⟨b0, off, cap', e0, _, hb0, hcell⟩ := R1.out.at n hnl
        obtain ⟨x, hx⟩ : ∃ x, x = ns.getD n 0 := ⟨_, rfl⟩
        rw [← hx] at hcell
        cases e0
        have hcc : wr.cell? ⟨b0, off + n, none⟩ = some (.int .i64 (x : Int)) := ((Dr.below hd.out).cell (p := ⟨b0, off + n, none⟩) hb0).trans hcell
        obtain ⟨c, hcx⟩ : ∃ c, c = ctlC x := ⟨_, rfl⟩
        have C := Lib.hid (fun w => rctl_any w x)
        rw [← hcx] at C
        have HC := Lib.hid hcx
        have HX := Lib.hid hx
        have HL := Lib.hid hnl
        clear hcell hx hcx hnl hb0
        cases c
        · have G : Hid ((ns.take (n + 1)).all (gd false) = true) := Lib.hid (all_take_miss hg.out HL.out HX.out (by unfold gd; rw [← HC.out]; rfl))
          clear hg
          go_wp2_with (go_at_call 85; refine (C.out _).mono ?_; rintro e w' ⟨rfl, rfl⟩)
          go_roundg (m - (n + 1))
          case measure => omega
          case rel => exact ⟨n + 1, by omega, rfl, by go_num, G, by (first | exact hd | exact Lib.hid (hd.out.drewN _))⟩
        · have T6 : Hid (T = 6) := Lib.hid (by
            rw [TG.out, all_take_hit HL.out HX.out (by unfold gd; rw [← HC.out]; rfl)]
            rfl)
          clear hg TG
          go_wp2_with (go_at_call 85; refine (C.out _).mono ?_; rintro e w' ⟨rfl, rfl⟩)
          go_ret
          exact ⟨by rw [T6.out]; rfl, B1.out.trans ((Dr.below (by (first | exact hd.out | exact hd.out.drewN _))).mono B1.out.size)⟩
      · obtain rfl : n = m := by omega
        have T7 : Hid (T = eIf (!sqz (bs s)) 3) := Lib.hid (by
          have h := hg.out
          rw [List.take_of_length_le (by rw [HM.out]; exact Nat.le_refl _)] at h
          rw [TG.out, h]
          rfl)
        obtain ⟨q, hq⟩ : ∃ q, q = sqz (bs s) := ⟨_, rfl⟩
        rw [← hq] at SQ T7
        clear hg TG hq
        go_wp2_with fail
        refine (SQ.out _).mono ?_
        rintro e w2 ⟨rfl, hd2⟩
        have D2 := Lib.hid hd2
        clear hd2
        cases q
        · go_wp2_with fail
          go_ret
          exact ⟨by rw [T7.out]; rfl, B1.out.trans ((Dr.below hd.out).trans ((Dr.below D2.out).mono (Nat.le_of_eq (Dr.size hd.out).symm)) |>.mono B1.out.size)⟩
        · go_wp2_with fail
          go_ret
          exact ⟨by rw [T7.out]; rfl, B1.out.trans ((Dr.below hd.out).trans ((Dr.below D2.out).mono (Nat.le_of_eq (Dr.size hd.out).symm)) |>.mono B1.out.size)⟩
end Go.Proofs.YtohmdledkhgdaaaGreatDoor
