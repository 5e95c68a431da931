/- article.badByte. -/
import Derived.Test.YtohmdledkhgdaaaGreatDoorLo08
import Derived.RangeFuncWrites
namespace Go.Proofs.YtohmdledkhgdaaaGreatDoor
open Go.RowKit Go.Shelf
attribute [local go_sem] Oper.semAt_some
set_option linter.unusedVariables false
set_option maxRecDepth 100000
theorem actl_any (w : World) (n : Nat) : Calls Tryz.prog 148 #[.int .i32 (n : Int)] w fun e w' => e = .returned (.bool (ctlC n)) ∧ w = w' := by
  obtain ⟨b, hb⟩ : ∃ b, b = ctlC n := ⟨_, rfl⟩
  rw [← hb]
  have HB := Lib.hid hb
  clear hb
  rcases (by omega : n < 32 ∨ (32 ≤ n ∧ n < 127) ∨ (127 ≤ n ∧ n ≤ 159) ∨ (n = 8232) ∨ (n = 8233) ∨ (159 < n ∧ n ≠ 8232 ∧ n ≠ 8233)) with h | ⟨h, h2⟩ | ⟨h, h2⟩ | rfl | rfl | ⟨h, h2, h3⟩
  all_goals
    try have q1 : ((n : Int) == 8232) = false := int_ne (by omega)
    try have q2 : ((n : Int) == 8233) = false := int_ne (by omega)
    go_enter Tryz.func148, Tryz.ntmps148
    go_wp2_with fail
    go_ret
    exact ⟨ret_bool (by rw [HB.out, Bool.eq_iff_iff]; simp [ctlC]; try omega), rfl⟩
/-- A box of a number that is not negative. -/
def NBox (W : World) (p : Nat) : Prop := ∃ n : Nat, Boxed W p 3 (.int .i64 (n : Int))
theorem NBox.own (p B : Nat) : OwnFrom B (fun (_ : List (Nat × Nat)) W => NBox W p) := fun s X Y row hs hg hrow => by
  obtain ⟨n, h⟩ := hs
  exact ⟨n, (Own.from (boxed_own p 3 (fun _ : Unit => .int .i64 (n : Int))) B) () X Y row h hg hrow⟩
/-- What holds between two rounds of badByte. -/
def BbI (w : World) (p : Nat) (s : ByteArray) (pre : List (Nat × Nat)) (W : World) : Prop :=
  Boxed W p 3 (.int .i64 0) ∧ (Boxed W (p + 1) 9 (.string s) ∧ (Hid (pre.all (fun x => gd true x.2) = true) ∧ Below p w W))
def BbX (w : World) (p : Nat) (s : ByteArray) (c : Code) (pre : List (Nat × Nat)) (W : World) : Prop :=
  NBox W p ∧ (Hid (c = .ret ∧ pre.all (fun x => gd true x.2) = false) ∧ Below p w W)
theorem BbI.own (w : World) (p : Nat) (s : ByteArray) (hp : p ≤ w.heap.size) (B : Nat) (hB : p ≤ B) : OwnFrom B (BbI w p s) :=
  OwnFrom.and (Own.from (boxed_own p 3 (fun _ => .int .i64 0)) _) (OwnFrom.and (Own.from (boxed_own (p + 1) 9 (fun _ => .string s)) _) (OwnFrom.and (ownFrom_hid B _) (ownFrom_below hp hB)))
theorem BbX.own (w : World) (p : Nat) (s : ByteArray) (c : Code) (hp : p ≤ w.heap.size) (B : Nat) (hB : p ≤ B) : OwnFrom B (BbX w p s c) :=
  OwnFrom.and (NBox.own p B) (OwnFrom.and (ownFrom_hid B _) (ownFrom_below hp hB))
/-- What badByte returns. -/
def BbPost (l : List Nat) (w : World) (e : Ending) (w' : World) : Prop :=
  ∃ n : Int, e = .returned (.int .i64 n) ∧ (good true l = true → n < 0) ∧ (good true l = false → 0 ≤ n) ∧ Below w.heap.size w w'
set_option maxHeartbeats 4000000 in
theorem badb_any (s : ByteArray) (w : World) (hs : s.size ≤ maxLen) :
    Calls Tryz.prog 108 #[.string s] w (BbPost (bs s) w) := by
  have HS := Lib.hid hs
  have CK := Lib.hid (fun w => ucheck_any s w hs)
  clear hs
  refine (callsIn_wide (n := 5)).1 ?_
  refine callsIn_of_wp_marks Tryz.func108 rfl trivial ?_ rfl
  simp only [Tryz.ntmps108, List.size_toArray, List.length_cons, List.length_nil, Nat.reduceAdd, Nat.reduceSub, Array.replicate_succ, Array.replicate_zero, List.push_toArray, List.append_toArray, List.nil_append, List.cons_append]
  gi_wp2_with fail
  refine ⟨trivial, ?_⟩
  gi_at_call 142
  refine (rns_in Fence.wide _ trivial rfl _ _).mono ?_
  rintro e w' ⟨rfl, rfl⟩
  gi_wp2
  obtain ⟨p, hp⟩ : ∃ p, p = w.heap.size := ⟨_, rfl⟩
  obtain ⟨W0, hW0⟩ : ∃ W0, ((w.alloc (.cells #[.int .i64 0] 3)).alloc (.cells #[.string s] 9)) = W0 := ⟨_, rfl⟩
  have z0 : W0.heap.size = p + 2 := by rw [← hW0, hp]; simp
  have i0' : BbI w p s [] W0 := by
    rw [← hW0, hp]
    refine ⟨?_, ?_, Lib.hid rfl, ?_⟩
    · exact boxed_below (Boxed.new w 3 (.int .i64 0)) ((Below.refl _ _).alloc (Nat.le_refl _) _)
    · have := Boxed.new (w.alloc (.cells #[.int .i64 0] 3)) 9 (.string s)
      simpa using this
    · exact ((Below.refl _ w).alloc (Nat.le_refl _) _).alloc (by simp) _
  rw [hW0, ← hp]
  have hc0 : W0.cell? ⟨p + 1, 0, none⟩ = some (.string s) := i0'.2.1.cell
  have HP := Lib.hid hp
  clear hW0 hp
  refine wpIn_rangeFunc_ownF (F := Fence.wide) (n := 5) rfl (by omega) (gf := 180) (lb := #[.pointer (some ⟨p + 1, 0, none⟩)]) rfl trivial (enters_of Tryz.func180 (by kernel_rfl) rfl)
    (rns_stops 4 (by omega) (p + 1) s HS.out W0 (by omega) hc0) (fun h k => Eq.trans k h) ?keep (Below.refl _ _) (fun _ => rfl)
    (BbI w p s) (BbX w p s) (BbI.own w p s (by rw [HP.out]; exact Nat.le_refl _) _ (by omega)) (fun c => BbX.own w p s c (by rw [HP.out]; exact Nat.le_refl _) _ (by omega)) i0'
    (fun x => { tmps := #[.string s, undef, .pointer (some ⟨p, 0, none⟩), .int .i64 (x.1 : Int), .int .i32 (x.2 : Int), undef, undef, .string s, .func (.func 180) #[] #[.pointer (some ⟨p + 1, 0, none⟩)], .int .i64 (x.1 : Int), .int .i32 (x.2 : Int), undef, undef, undef, undef, undef, undef, undef, undef, undef, undef, undef, undef, undef, undef, undef], defers := [] })
    ?assign ?body ?done ?stop
  case keep =>
    intro W l o o' hl _ _ _
    show (W.putObj l o').heap[p + 1]? = W.heap[p + 1]?
    exact (grownBy_putObj' W l o').block _ (by have := lt_of_block ‹_›; omega) (fun e => by cases e; omega)
  case assign =>
    rintro l x W K hK
    unfold rnV
    gi_wp2
    exact hK
  case body =>
    rintro l pre x W hI hlt
    have hb := hI.1.cell
    have hf := hI.1.frozen
    have HI := Lib.hid hI
    have UC := Lib.hid (fun w => actl_any w x.2)
    have z : ∃ b, b = ctlC x.2 := ⟨_, rfl⟩
    obtain ⟨b, hbx⟩ := z
    rw [← hbx] at UC
    have HB := Lib.hid hbx
    clear hbx hI
    by_cases h9 : x.2 = 9
    · have q9 : ((x.2 : Int) != 9) = false := int_nneq (by omega)
      have H9 := Lib.hid h9
      clear h9
      gi_wp2
      refine ⟨trivial, ?_⟩
      gi_wp2
      refine ⟨KeepsOthers.refl _, rfl, HI.out.1, HI.out.2.1, Lib.hid ?_, HI.out.2.2.2⟩
      rw [List.all_append, HI.out.2.2.1.out]
      simp [gd, H9.out]
    · have q9 : ((x.2 : Int) != 9) = true := int_neq (by omega)
      have H9 := Lib.hid h9
      clear h9
      cases b
      · gi_wp2_with (refine ⟨trivial, ?_⟩; gi_at_call 148; refine (CallsIn.inRound l (callsIn_wide.2 (UC.out _))).mono ?_; rintro e w1 ⟨rfl, rfl⟩)
        refine ⟨KeepsOthers.refl _, rfl, HI.out.1, HI.out.2.1, Lib.hid ?_, HI.out.2.2.2⟩
        rw [List.all_append, HI.out.2.2.1.out]
        simp [gd, ← HB.out]
      · gi_wp2_with (refine ⟨trivial, ?_⟩; gi_at_call 148; refine (CallsIn.inRound l (callsIn_wide.2 (UC.out _))).mono ?_; rintro e w1 ⟨rfl, rfl⟩)
        refine ⟨KeepsOthers.setCell _ _ _, ⟨⟨x.1, setB HI.out.1 0 _⟩, Lib.hid ⟨rfl, ?_⟩, HI.out.2.2.2.setCell (p := ⟨p, 0, none⟩) (Nat.le_refl _) _⟩⟩
        rw [List.all_append, Bool.and_eq_false_iff]
        exact .inr (by simp [gd, ← HB.out, H9.out])
  case done =>
    rintro D ys W hD rfl hI hK
    have hb := hI.1.cell
    have hf := hI.1.frozen
    have HI := Lib.hid hI
    have G : Hid (good true (bs s) = vld (bs s)) := Lib.hid (by unfold good; rw [hI.2.2.1.out, Bool.and_true])
    have CW := Lib.hid (CK.out W)
    have HK := Lib.hid hK
    clear hI hK
    gi_wp2_with fail
    refine ⟨trivial, ?_⟩
    gi_at_call 149
    refine (callsIn_wide.2 CW.out).mono ?_
    rintro e w1 ⟨n, er, rfl, h1, h2, ⟨q, rfl⟩⟩
    cases hv : vld (bs s)
    · have q1 : (er != 0) = true := int_neq (h2 hv)
      have HV := Lib.hid hv
      clear h1 h2 hv
      gi_wp2
      have hK' := (KeepsOthers.setCell (W.drewN q) ⟨p, 0, none⟩ (.int .i64 (n : Int))).same D _ HK.out rfl
      refine ⟨by simp, .inl ⟨_, _, rfl, run_takeDeferred hK', ?_⟩⟩
      have hc5 := cell_kept (World.cell?_setCell_same' (W.drewN q) ⟨p, 0, none⟩ (.int .i64 (n : Int)) (by show (W.cell? _).isSome = true; rw [hb]; rfl)) (grownBy_putObj' _ D (.deferred none)) (fun r e => by cases e; exact ⟨_, hK', rfl⟩)
      refine ⟨.int .i64 (n : Int), ?_, (n : Int), rfl, (fun h => by rw [G.out, HV.out] at h; cases h), (fun _ => by omega), ?_⟩
      · simp [results, Tryz.f108, go_sem, hc5]
      · exact (((HI.out.2.2.2.mono (Nat.le_of_eq HP.out.symm)).trans ((Dr.below ⟨q, rfl⟩).mono (by have := HI.out.2.1.lt; have := HP.out; omega))).setCell (p := ⟨p, 0, none⟩) (Nat.le_of_eq HP.out.symm) _).trans (belowK_b (w := w) (Nat.le_refl _) _ D _ _ (by have := HP.out; omega) hK' rfl rfl)
    · obtain rfl := h1 hv
      have HV := Lib.hid hv
      clear h1 h2 hv
      gi_wp2
      have hK' := (KeepsOthers.setCell (W.drewN q) ⟨p, 0, none⟩ (.int .i64 (-1))).same D _ HK.out rfl
      refine ⟨by simp, .inl ⟨_, _, rfl, run_takeDeferred hK', ?_⟩⟩
      have hc5 := cell_kept (World.cell?_setCell_same' (W.drewN q) ⟨p, 0, none⟩ (.int .i64 (-1)) (by show (W.cell? _).isSome = true; rw [hb]; rfl)) (grownBy_putObj' _ D (.deferred none)) (fun r e => by cases e; exact ⟨_, hK', rfl⟩)
      refine ⟨.int .i64 (-1), ?_, -1, rfl, (fun _ => by omega), (fun h => by rw [G.out, HV.out] at h; cases h), ?_⟩
      · simp [results, Tryz.f108, go_sem, hc5]
      · exact (((HI.out.2.2.2.mono (Nat.le_of_eq HP.out.symm)).trans ((Dr.below ⟨q, rfl⟩).mono (by have := HI.out.2.1.lt; have := HP.out; omega))).setCell (p := ⟨p, 0, none⟩) (Nat.le_of_eq HP.out.symm) _).trans (belowK_b (w := w) (Nat.le_refl _) _ D _ _ (by have := HP.out; omega) hK' rfl rfl)
  case stop =>
    rintro D c pre W hD ⟨q, hq⟩ hI hK
    obtain ⟨⟨n, h1⟩, h2, h3⟩ := hI
    obtain ⟨rfl, h4⟩ := h2.out
    have h5 := h1.cell
    have GF : Hid (good true (bs s) = false) := Lib.hid (by unfold good; rw [← hq, List.all_append, h4]; simp)
    clear hq h4
    gi_wp2
    refine ⟨by simp, .inl ⟨_, _, rfl, run_takeDeferred hK, ?_⟩⟩
    have hc5 := cell_kept h5 (grownBy_putObj' _ D (.deferred none)) (fun r e => by cases e; exact ⟨_, hK, rfl⟩)
    refine ⟨.int .i64 (n : Int), ?_, (n : Int), rfl, (fun h => by rw [GF.out] at h; cases h), (fun _ => by omega), (h3.mono (Nat.le_of_eq HP.out.symm)).trans (belowK_b (w := w) (Nat.le_refl _) _ D _ _ (by have := HP.out; omega) hK rfl rfl)⟩
    simp [results, Tryz.f108, go_sem, hc5]
end Go.Proofs.YtohmdledkhgdaaaGreatDoor
/- Plain: the lines of a body and their errors. -/
namespace Go.Proofs.YtohmdledkhgdaaaGreatDoor
set_option linter.unusedVariables false
def lnErr (n a : Nat) (ln : List Nat) : Nat := if a + ln.length = n then 4 else if 998 < ln.length then 5 else if good true ln = false then 6 else 0
def lnsErr (n : Nat) : Nat → List (List Nat) → Nat
  | _, [] => 0
  | a, ln :: r => if lnErr n a ln ≠ 0 then lnErr n a ln else lnsErr n (a + ln.length + 1) r
def atOf (ls : List (List Nat)) : Nat := (ls.map fun l => l.length + 1).sum
def lnsN : Nat → List Nat → List (List Nat)
  | 0, _ => []
  | k + 1, l => if l = [] then [] else line l :: lnsN k (l.drop ((line l).length + 1))
def lns (l : List Nat) : List (List Nat) := lnsN l.length l
theorem line_le (l : List Nat) : (line l).length ≤ l.length := by
  unfold line; exact (List.takeWhile_sublist _).length_le
theorem lnsN_err (n : Nat) : ∀ (k a : Nat) (l : List Nat), a + l.length = n → lnsErr n a (lnsN k l) = bodyN k l
  | 0, _, _, _ => rfl
  | k + 1, a, l, h => by
    by_cases h0 : l = []
    · subst h0; simp [lnsN, bodyN, lnsErr]
    · have hl := line_le l
      simp only [lnsN, bodyN, if_neg h0, lnsErr]
      have e : lnErr n a (line l) = if (line l).length = l.length then 4 else if 998 < (line l).length then 5 else if good true (line l) = false then 6 else 0 := by
        unfold lnErr
        by_cases h1 : (line l).length = l.length
        · rw [if_pos (by omega), if_pos h1]
        · rw [if_neg (by omega), if_neg h1]
      rw [e]
      by_cases h1 : (line l).length = l.length
      · simp [h1]
      · by_cases h2 : 998 < (line l).length
        · simp [h1, h2]
        · by_cases h3 : good true (line l) = false
          · simp [h1, h2, h3]
          · have ih := lnsN_err n k (a + (line l).length + 1) (l.drop ((line l).length + 1)) (by rw [List.length_drop]; omega)
            simp [h1, h2, h3, ih]
theorem lns_err (l : List Nat) : lnsErr l.length 0 (lns l) = bodyF l := lnsN_err l.length l.length 0 l (by omega)
theorem lnsErr_app (n : Nat) : ∀ (p q : List (List Nat)) (a : Nat), lnsErr n a (p ++ q) = if lnsErr n a p ≠ 0 then lnsErr n a p else lnsErr n (a + atOf p) q
  | [], q, a => by simp [lnsErr, atOf]
  | x :: p, q, a => by
    simp only [List.cons_append, lnsErr]
    rw [lnsErr_app n p q]
    by_cases h : lnErr n a x = 0
    · simp [h, atOf, Nat.add_assoc]
    · simp [h]
theorem lnsErr_snoc (n : Nat) (p : List (List Nat)) (x : List Nat) (h : lnsErr n 0 p = 0) : lnsErr n 0 (p ++ [x]) = lnErr n (atOf p) x := by
  rw [lnsErr_app, h]; simp [lnsErr]; intro e; exact e.symm
theorem atOf_snoc (p : List (List Nat)) (x : List Nat) : atOf (p ++ [x]) = atOf p + x.length + 1 := by simp [atOf]; omega
theorem atOf_le (p : List (List Nat)) (m : Nat) (h : ∀ x ∈ p, x.length ≤ m) : atOf p ≤ p.length * (m + 1) := by
  induction p with
  | nil => simp [atOf]
  | cons x p ih =>
    have h1 := h x (by simp)
    have h2 := ih (fun y hy => h y (by simp [hy]))
    simp only [atOf, List.map_cons, List.sum_cons, List.length_cons] at h2 ⊢
    rw [Nat.succ_mul]; omega
/-- The lines, one more. -/
theorem lnsN_eq : ∀ (n : Nat) (l : List Nat) (k : Nat), l.length ≤ n → l.length ≤ k → lnsN k l = lnsN l.length l := by
  intro n
  induction n with
  | zero =>
    intro l k hl hk
    have : l = [] := List.length_eq_zero_iff.1 (by omega)
    subst this
    cases k <;> rfl
  | succ n ih =>
    intro l k hl hk
    cases l with
    | nil => cases k <;> rfl
    | cons x l =>
      cases k with
      | zero => simp at hk
      | succ k =>
        rw [List.length_cons]
        simp only [lnsN]
        have hl' : l.length ≤ n := by simpa using hl
        have hk' : l.length ≤ k := by simpa using hk
        rw [ih _ k (by simp; omega) (by simp; omega), ih _ l.length (by simp; omega) (by simp)]
theorem lns_cons {l : List Nat} (h : l ≠ []) : lns l = line l :: lns (l.drop ((line l).length + 1)) := by
  cases l with
  | nil => exact absurd rfl h
  | cons x l =>
    unfold lns
    rw [List.length_cons]
    simp only [lnsN]
    rw [if_neg (by simp), lnsN_eq l.length _ l.length (by simp) (by simp)]
end Go.Proofs.YtohmdledkhgdaaaGreatDoor
/- article.Lines, CheckBody. -/
namespace Go.Proofs.YtohmdledkhgdaaaGreatDoor
open Go.RowKit Go.Shelf
attribute [local go_sem] Oper.semAt_some
set_option linter.unusedVariables false
set_option maxRecDepth 100000
abbrev Ln := { x : Nat × ByteArray // x.2.size ≤ 1000000 }
def lnV (x : Ln) : Array Value := #[.int .i64 (x.1.1 : Int), .string x.1.2]
def lnL (pre : List Ln) : List (List Nat) := pre.map fun x => bs x.1.2
theorem lnL_snoc (pre : List Ln) (x : Ln) : lnL (pre ++ [x]) = lnL pre ++ [bs x.1.2] := by simp [lnL]
theorem lnL_len (pre : List Ln) : (lnL pre).length = pre.length := by simp [lnL]
theorem lnL_at (pre : List Ln) : atOf (lnL pre) ≤ pre.length * 1000001 := by
  have := atOf_le (lnL pre) 1000000 (fun x hx => by
    obtain ⟨y, _, rfl⟩ := List.mem_map.1 hx
    rw [bs_length]; exact y.2)
  rwa [lnL_len] at this
theorem upto_line (l : List Nat) : upto 10 l = line l := rfl
set_option maxHeartbeats 2000000 in
theorem lines1_in (n : Nat) (hn : 1 ≤ n) (l Bs B : Nat) (s : ByteArray) (hs : s.size ≤ 1000000) (J Jx : List Ln → World → Prop) (hJa : AbidesFrom B J)
    (hY : ∀ pre x W, J pre W → pre.length < s.size + 1 → YieldAt Fence.wide (n - 1) Tryz.prog l (lnV x) W fun e W' =>
      (e = .returned (.bool true) ∧ J (pre ++ [x]) W' ∧ Below 9 W W') ∨ (e = .returned (.bool false) ∧ Jx (pre ++ [x]) W'))
    (W : World) (hE : Env W) (hBs : W.cell? ⟨Bs, 0, none⟩ = some (.string s)) (h0 : J [] W) :
    CallsIn Fence.wide n Tryz.prog 147 #[.func (.yield l) #[] #[], .pointer (some ⟨Bs, 0, none⟩)] W fun e W' => (∃ v, e = .returned v) ∧
      ((∃ ys : List Ln, lnL ys = lns (bs s) ∧ J ys W') ∨ (∃ pre : List Ln, (∃ q, lnL pre ++ q = lns (bs s)) ∧ Jx pre W')) := by
  refine callsIn_of_wp Tryz.func147 rfl trivial ?_ rfl
  simp only [Tryz.ntmps147, List.size_toArray, List.length_cons, List.length_nil, Nat.reduceAdd, Nat.reduceSub, Array.replicate_succ, Array.replicate_zero, List.push_toArray, List.append_toArray, List.nil_append, List.cons_append]
  gi_wp2
  gi_loopw [3, 4] (fun r i wr => ∃ (k : Nat) (t : ByteArray) (pre : List Ln), r = .string t ∧ i = .int .i64 (k : Int) ∧ t.size + k ≤ s.size ∧ Hid (lns (bs s) = lnL pre ++ lns (bs t)) ∧ pre.length ≤ k ∧ Env wr ∧ J pre wr)
    (fun r i wr => s.size - (intOf i).toNat)
  case atStart =>
    exact ⟨0, s, [], rfl, rfl, by omega, rfl, Nat.zero_le _, hE, h0⟩
  case round =>
    obtain ⟨k, t, pre, rfl, rfl, hk, hpre, hpl, he, hJ⟩ := hrel
    by_cases h1 : t.size = 0
    · obtain rfl := str_emp h1
      have ST : Hid (lns (bs s) = lnL pre) := Lib.hid (by rw [hpre.out]; simp [bs, lns, lnsN])
      clear h1 he
      gi_wp2
      go_end0
      exact ⟨⟨_, rfl⟩, .inl ⟨pre, ST.out.symm, hJ⟩⟩
    · have n0 := str_ne h1
      have C := Lib.hid (cut_any t 10 wr (by omega) he.mx)
      have HE := Lib.hid he
      have LC : Hid (lns (bs t) = line (bs t) :: lns ((bs t).drop ((line (bs t)).length + 1))) := Lib.hid (lns_cons (fun e => h1 (by rw [← bs_length, e]; rfl)))
      have HLL := line_le (bs t)
      rw [bs_length] at HLL
      clear he
      gi_wp2_with fail
      refine ⟨trivial, ?_⟩
      refine (callsIn_wide.2 C.out).mono ?_
      rintro e w1 ⟨x, y, b, rfl, hx, hy, hb, hxs, hd1⟩
      rw [show (10 : UInt8).toNat = 10 from rfl, upto_line] at hx hy hb
      have J1 : J pre w1 := by obtain ⟨q, rfl⟩ := hd1; exact hJa _ _ _ _ hJ (grown_drewN _ _) (fun r e => by cases e)
      have E1 := Lib.hid (HE.out.on hd1.below)
      have YS : y.size + 1 ≤ t.size := by
        have := congrArg List.length hy
        rw [bs_length, List.length_drop, bs_length] at this; omega
      have ST : Hid (lns (bs s) = lnL (pre ++ [⟨(k, x), by show x.size ≤ 1000000; omega⟩]) ++ lns (bs y)) := Lib.hid (by rw [hpre.out, LC.out, lnL_snoc]; simp [hx, hy])
      clear hJ hd1 C hx hy hb LC HE
      obtain ⟨fn, tmps, assign, body, hyy, hR⟩ := hY pre ⟨(k, x), by show x.size ≤ 1000000; omega⟩ w1 J1 (by omega)
      unfold lnV at hyy
      dsimp only at hyy
      gi_wp2
      refine hR.mono ?_
      rintro e W3 (⟨rfl, hJ3, hk3⟩ | ⟨rfl, hJx3⟩)
      · have E3 := Lib.hid (E1.out.below hk3 (Nat.le_refl _))
        gi_wp2
        go_roundw
        case rel => exact ⟨k + 1, y, pre ++ [_], rfl, by go_num, by omega, ST, by simp; omega, E3.out, hJ3⟩
        case measure => simp [intOf]; omega
      · gi_wp2
        refine bodyPost_ret (results_none rfl _ _ _) rfl ?_
        exact ⟨⟨_, rfl⟩, .inr ⟨_, ⟨_, ST.out.symm⟩, hJx3⟩⟩
theorem lines_in (F : Fence) (n : Nat) (h37 : F.fn 107) (hro : F.round = none) (s : ByteArray) (w : World) :
    CallsIn F n Tryz.prog 107 #[.string s] w fun e w' => e = .returned (.func (.func 147) #[] #[.pointer (some ⟨w.heap.size, 0, none⟩)]) ∧ w' = w.alloc (.cells #[.string s] 9) := by
  refine callsIn_of_wp Tryz.func107 rfl h37 ?_ hro
  simp only [Tryz.ntmps107, List.size_toArray, List.length_cons, List.length_nil, Nat.reduceAdd, Nat.reduceSub, Array.replicate_succ, Array.replicate_zero, List.push_toArray, List.append_toArray, List.nil_append, List.cons_append]
  gi_wp2
  go_ret
  exact ⟨rfl, rfl⟩
theorem lines_stops (n : Nat) (hn : 1 ≤ n) (Bs : Nat) (s : ByteArray) (hs : s.size ≤ 1000000) (w : World) (hE : Env w) (hB : Bs < w.heap.size) (hc : w.cell? ⟨Bs, 0, none⟩ = some (.string s)) :
    SeqStopsK Fence.wide n Tryz.prog 147 #[.pointer (some ⟨Bs, 0, none⟩)] lnV (Below 9) (fun ys => lnL ys = lns (bs s)) (fun pre => ∃ q, lnL pre ++ q = lns (bs s)) (s.size + 1) w := fun l J Jx W hW hJ _ hY h0 =>
  lines1_in n hn l Bs W.heap.size s hs J Jx hJ hY W (hE.on hW) ((hW.cell (p := ⟨Bs, 0, none⟩) hB).trans hc) h0
end Go.Proofs.YtohmdledkhgdaaaGreatDoor
/- article.CheckBody. -/
namespace Go.Proofs.YtohmdledkhgdaaaGreatDoor
open Go.RowKit Go.Shelf
attribute [local go_sem] Oper.semAt_some
set_option linter.unusedVariables false
set_option maxRecDepth 100000
/-- A box of a number. -/
def XBox (W : World) (p : Nat) : Prop := ∃ n : Int, Boxed W p 3 (.int .i64 n)
theorem XBox.own (p B : Nat) : OwnFrom B (fun (_ : List Ln) W => XBox W p) := fun s X Y row hs hg hrow => by
  obtain ⟨n, h⟩ := hs
  exact ⟨n, (Own.from (boxed_own p 3 (fun _ : Unit => .int .i64 n)) B) () X Y row h hg hrow⟩
/-- What holds between two rounds of CheckBody. -/
def CbI (w : World) (p : Nat) (s : ByteArray) (pre : List Ln) (W : World) : Prop :=
  Boxed W p 9 (.string s) ∧ (Boxed W (p + 1) 3 (.int .i64 0) ∧ (Boxed W (p + 2) 39 (.int .i64 0) ∧ (Boxed W (p + 3) 3 (.int .i64 (atOf (lnL pre) : Nat)) ∧ (Hid (lnsErr s.size 0 (lnL pre) = 0) ∧ Below p w W))))
def CbX (w : World) (p : Nat) (s : ByteArray) (c : Code) (pre : List Ln) (W : World) : Prop :=
  XBox W (p + 1) ∧ (Boxed W (p + 2) 39 (.int .i64 (lnsErr s.size 0 (lnL pre) : Nat)) ∧ (Hid (c = .ret ∧ lnsErr s.size 0 (lnL pre) ≠ 0) ∧ Below p w W))
theorem CbI.own (w : World) (p : Nat) (s : ByteArray) (hp : p ≤ w.heap.size) (B : Nat) (hB : p ≤ B) : OwnFrom B (CbI w p s) :=
  OwnFrom.and (Own.from (boxed_own p 9 (fun _ => .string s)) _) (OwnFrom.and (Own.from (boxed_own (p + 1) 3 (fun _ => .int .i64 0)) _) (OwnFrom.and (Own.from (boxed_own (p + 2) 39 (fun _ => .int .i64 0)) _)
    (OwnFrom.and (Own.from (boxed_own (p + 3) 3 (fun pre : List Ln => .int .i64 (atOf (lnL pre) : Nat))) _) (OwnFrom.and (ownFrom_hid B _) (ownFrom_below hp hB)))))
theorem CbX.own (w : World) (p : Nat) (s : ByteArray) (c : Code) (hp : p ≤ w.heap.size) (B : Nat) (hB : p ≤ B) : OwnFrom B (CbX w p s c) :=
  OwnFrom.and (XBox.own (p + 1) B) (OwnFrom.and (Own.from (boxed_own (p + 2) 39 (fun pre : List Ln => .int .i64 (lnsErr s.size 0 (lnL pre) : Nat))) _) (OwnFrom.and (ownFrom_hid B _) (ownFrom_below hp hB)))
theorem CbI.on {w : World} {p : Nat} {s : ByteArray} {pre : List Ln} {W W' : World} (h : CbI w p s pre W) (hb : Below W.heap.size W W') : CbI w p s pre W' :=
  ⟨boxed_below h.1 hb, boxed_below h.2.1 hb, boxed_below h.2.2.1 hb, boxed_below h.2.2.2.1 hb, h.2.2.2.2.1, h.2.2.2.2.2.trans (hb.mono (Nat.le_of_lt h.1.lt))⟩
/-- Both results are stored. -/
theorem CbI.stop {w : World} {p : Nat} {s : ByteArray} {pre : List Ln} {W : World} (h : CbI w p s pre W) (x : Ln) (n : Int) (m : Nat) (hm : lnErr s.size (atOf (lnL pre)) (bs x.1.2) = m) (h0 : m ≠ 0) :
    CbX w p s .ret (pre ++ [x]) ((W.setCell ⟨p + 1, 0, none⟩ (.int .i64 n)).setCell ⟨p + 2, 0, none⟩ (.int .i64 (m : Nat))) := by
  have e : lnsErr s.size 0 (lnL (pre ++ [x])) = m := by rw [lnL_snoc, lnsErr_snoc _ _ _ h.2.2.2.2.1.out, hm]
  refine ⟨⟨n, ?_⟩, ?_, Lib.hid ⟨rfl, by rw [e]; exact h0⟩, ?_⟩
  · exact Boxed.other (setB h.2.1 0 _) (by omega) _
  · rw [e]; exact setB (Boxed.other h.2.2.1 (by omega) _) 0 _
  · exact (h.2.2.2.2.2.setCell (p := ⟨p + 1, 0, none⟩) (by show p ≤ p + 1; omega) _).setCell (p := ⟨p + 2, 0, none⟩) (by show p ≤ p + 2; omega) _
theorem keeps_two (B : Nat) (W : World) (p : Nat) (u v : Value) : KeepsFrom B W ((W.setCell ⟨p + 1, 0, none⟩ u).setCell ⟨p + 2, 0, none⟩ v) := ((KeepsOthers.setCell _ _ _).trans (KeepsOthers.setCell _ _ _)).from B
/-- What CheckBody returns. -/
def CbPost (l : List Nat) (w : World) (e : Ending) (w' : World) : Prop := ∃ n : Int, e = .returned (.tuple #[.int .i64 n, .int .i64 (bodyF l : Nat)]) ∧ Below w.heap.size w w'
set_option maxHeartbeats 4000000 in
theorem chkbody_any (s : ByteArray) (w : World) (hs : s.size ≤ 1000000) (hE : Env w) :
    Calls Tryz.prog 65 #[.string s] w (CbPost (bs s) w) := by
  have HS := Lib.hid hs
  have HE := Lib.hid hE
  have h9 := hE.size
  have BF : Hid (bodyF (bs s) = lnsErr s.size 0 (lns (bs s))) := Lib.hid (by rw [← bs_length, lns_err])
  clear hs hE
  refine (callsIn_wide (n := 5)).1 ?_
  refine callsIn_of_wp_marks Tryz.func65 rfl trivial ?_ rfl
  simp only [Tryz.ntmps65, List.size_toArray, List.length_cons, List.length_nil, Nat.reduceAdd, Nat.reduceSub, Array.replicate_succ, Array.replicate_zero, List.push_toArray, List.append_toArray, List.nil_append, List.cons_append]
  gi_wp2_with fail
  refine ⟨trivial, ?_⟩
  gi_at_call 107
  refine (lines_in Fence.wide _ trivial rfl _ _).mono ?_
  rintro e w' ⟨rfl, rfl⟩
  gi_wp2
  obtain ⟨p, hp⟩ : ∃ p, p = w.heap.size := ⟨_, rfl⟩
  obtain ⟨W0, hW0⟩ : ∃ W0, (((((w.alloc (.cells #[.string s] 9)).alloc (.cells #[.int .i64 0] 3)).alloc (.cells #[.int .i64 0] 39)).alloc (.cells #[.int .i64 0] 3)).alloc (.cells #[.string s] 9)) = W0 := ⟨_, rfl⟩
  have z0 : W0.heap.size = p + 5 := by rw [← hW0, hp]; simp
  have b0 : Below w.heap.size w W0 := by
    rw [← hW0]
    exact (((((Below.refl _ w).alloc (Nat.le_refl _) _).alloc (by simp) _).alloc (by simp; omega) _).alloc (by simp; omega) _).alloc (by simp; omega) _
  have i0' : CbI w p s [] W0 := by
    refine ⟨?_, ?_, ?_, ?_, Lib.hid rfl, by rw [hp]; exact b0⟩ <;> rw [← hW0, hp]
    · exact ((((Boxed.new w 9 (.string s)).alloc _).alloc _).alloc _).alloc _
    · have := ((((Boxed.new (w.alloc (.cells #[.string s] 9)) 3 (.int .i64 0)).alloc (.cells #[.int .i64 0] 39)).alloc (.cells #[.int .i64 0] 3)).alloc (.cells #[.string s] 9))
      simpa using this
    · have := (((Boxed.new ((w.alloc (.cells #[.string s] 9)).alloc (.cells #[.int .i64 0] 3)) 39 (.int .i64 0)).alloc (.cells #[.int .i64 0] 3)).alloc (.cells #[.string s] 9))
      simpa using this
    · have := ((Boxed.new (((w.alloc (.cells #[.string s] 9)).alloc (.cells #[.int .i64 0] 3)).alloc (.cells #[.int .i64 0] 39)) 3 (.int .i64 0)).alloc (.cells #[.string s] 9))
      simpa [atOf, lnL, Nat.add_assoc] using this
  have hc0 : W0.cell? ⟨p + 4, 0, none⟩ = some (.string s) := by
    have := (Boxed.new ((((w.alloc (.cells #[.string s] 9)).alloc (.cells #[.int .i64 0] 3)).alloc (.cells #[.int .i64 0] 39)).alloc (.cells #[.int .i64 0] 3)) 9 (.string s)).cell
    rw [← hW0, hp]
    simpa [Nat.add_assoc] using this
  have E0 := Lib.hid (HE.out.on b0)
  rw [hW0, ← hp]
  simp only [Nat.add_assoc, Nat.reduceAdd]
  have HP := Lib.hid hp
  clear hW0 hp b0
  refine wpIn_rangeFunc_ownG (F := Fence.wide) (n := 5) rfl (by omega) (gf := 147) (lb := #[.pointer (some ⟨p + 4, 0, none⟩)]) rfl trivial (enters_of Tryz.func147 (by kernel_rfl) rfl)
    (lines_stops 4 (by omega) (p + 4) s HS.out W0 E0.out (by omega) hc0) (fun h k => h.trans k) ?keep (Below.refl _ _) (fun _ => rfl)
    (CbI w p s) (CbX w p s) (CbI.own w p s (by rw [HP.out]; exact Nat.le_refl _) _ (by omega)) (fun c => CbX.own w p s c (by rw [HP.out]; exact Nat.le_refl _) _ (by omega)) i0'
    (fun x => { tmps := #[.string s, .pointer (some ⟨p, 0, none⟩), .pointer (some ⟨p + 1, 0, none⟩), .pointer (some ⟨p + 2, 0, none⟩), .pointer (some ⟨p + 3, 0, none⟩), undef, .string x.1.2, undef, undef, .string s, .func (.func 147) #[] #[.pointer (some ⟨p + 4, 0, none⟩)], .int .i64 (x.1.1 : Int), .string x.1.2, undef, undef, undef, undef, undef, undef, undef, undef, undef, undef, undef, undef, undef, undef, undef, undef, undef, undef, undef, undef, undef, undef, undef, undef], defers := [] })
    ?assign ?body ?done ?stop
  case keep =>
    intro W l o o' hl hlo ho _
    exact ⟨rfl, rfl, rfl, by simp [World.putObj], fun k hk => (grownBy_putObj' W l o').block k (by have := lt_of_block hlo; have := HP.out; omega) (fun e => by cases e; have := HP.out; omega)⟩
  case assign =>
    rintro l x W K hK
    unfold lnV
    gi_wp2
    exact hK
  case body =>
    rintro l pre x W hI hlt
    have hsp : p + 3 < W.heap.size := hI.2.2.2.1.lt
    have h91 : 9 ≤ p := by rw [HP.out]; exact h9
    have hat := lnL_at pre
    have hx2 := x.2
    have hs6 := HS.out
    have hat2 : atOf (lnL pre) ≤ 1000001 * 1000001 := Nat.le_trans hat (Nat.mul_le_mul_right _ (by omega))
    have bp := hI.1.cell
    have b1 := hI.2.1.cell
    have f1 := hI.2.1.frozen
    have b2 := hI.2.2.1.cell
    have f2 := hI.2.2.1.frozen
    have b3 := hI.2.2.2.1.cell
    have f3 := hI.2.2.2.1.frozen
    have HI := Lib.hid hI
    have EW := Lib.hid (HE.out.below hI.2.2.2.2.2 h91)
    obtain ⟨⟨xi, ln⟩, hln⟩ := x
    simp only at hx2 hln ⊢
    obtain ⟨a, ha⟩ : ∃ a, a = atOf (lnL pre) := ⟨_, rfl⟩
    rw [← ha] at b3 hat2
    have HA := Lib.hid ha
    have BL := bs_length ln
    have HBL := Lib.hid BL
    clear hI hat ha BL
    by_cases c1 : a + ln.size = s.size
    · have q1 : (((a : Int) + (ln.size : Int)) == (s.size : Int)) = true := int_eq (by omega)
      have C1 := Lib.hid c1
      clear c1
      gi_wp2
      exact ⟨keeps_two _ _ _ _ _, HI.out.stop _ _ 4 (by rw [← HA.out]; unfold lnErr; rw [if_pos (by rw [bs_length]; exact C1.out)]) (by decide)⟩
    · have q1 : (((a : Int) + (ln.size : Int)) == (s.size : Int)) = false := int_ne (by omega)
      have C1 := Lib.hid c1
      clear c1
      by_cases c2 : 998 < ln.size
      · gi_wp2
        exact ⟨keeps_two _ _ _ _ _, HI.out.stop _ _ 5 (by rw [← HA.out]; unfold lnErr; rw [if_neg (by rw [bs_length]; exact C1.out), if_pos (by rw [bs_length]; exact c2)]) (by decide)⟩
      · have BB := Lib.hid (badb_any ln W (by unfold maxLen; omega))
        gi_wp2_with fail
        refine ⟨trivial, ?_⟩
        gi_at_call 108
        refine (CallsIn.inRound l (callsIn_wide.2 BB.out)).mono ?_
        rintro e w2 ⟨n, rfl, h1, h2, hb2⟩
        have I2 := Lib.hid (HI.out.on hb2)
        have KF := Lib.hid (keeps_below hb2 W0.heap.size)
        have B9 : Hid (Below 9 W w2) := Lib.hid (hb2.mono (by omega))
        have bp := I2.out.1.cell
        have b1 := I2.out.2.1.cell
        have f1 := I2.out.2.1.frozen
        have b2 := I2.out.2.2.1.cell
        have f2 := I2.out.2.2.1.frozen
        have b3 := I2.out.2.2.2.1.cell
        have f3 := I2.out.2.2.2.1.frozen
        rw [← HA.out] at b3
        clear hb2 BB
        cases hg : good true (bs ln)
        · have hn := h2 hg
          have HG := Lib.hid hg
          clear h1 h2 hg
          gi_wp2
          exact ⟨KF.out.trans (keeps_two _ _ _ _ _), I2.out.stop _ _ 6 (by rw [← HA.out]; unfold lnErr; rw [if_neg (by rw [bs_length]; exact C1.out), if_neg (by rw [bs_length]; exact c2), if_pos HG.out]) (by decide)⟩
        · have hn := h1 hg
          have HG := Lib.hid hg
          clear h1 h2 hg
          gi_wp2
          have e0 : lnErr s.size (atOf (lnL pre)) (bs ln) = 0 := by rw [← HA.out]; unfold lnErr; rw [if_neg (by rw [bs_length]; exact C1.out), if_neg (by rw [bs_length]; exact c2), if_neg (by rw [HG.out]; decide)]
          refine ⟨KF.out.trans ((KeepsOthers.setCell _ _ _).from _), B9.out.trans ((Below.refl _ _).setCell (p := ⟨p + 3, 0, none⟩) (by show 9 ≤ p + 3; omega) _), Boxed.other I2.out.1 (by omega) _, Boxed.other I2.out.2.1 (by omega) _, Boxed.other I2.out.2.2.1 (by omega) _, ?_, Lib.hid (by rw [lnL_snoc, lnsErr_snoc _ _ _ I2.out.2.2.2.2.1.out]; exact e0), I2.out.2.2.2.2.2.setCell (p := ⟨p + 3, 0, none⟩) (by show p ≤ p + 3; omega) _⟩
          have := setB I2.out.2.2.2.1 0 (.int .i64 ((a : Int) + (ln.size : Int) + 1))
          rw [lnL_snoc, atOf_snoc, ← HA.out, bs_length]
          exact this
  case done =>
    rintro D ys W hD hys hI hK
    have b1 := hI.2.1.cell
    have f1 := hI.2.1.frozen
    have b2 := hI.2.2.1.cell
    have f2 := hI.2.2.1.frozen
    have hz : lnsErr s.size 0 (lns (bs s)) = 0 := by rw [← hys]; exact hI.2.2.2.2.1.out
    have HZ := Lib.hid hz
    have HI := Lib.hid hI
    clear hI hz hys
    gi_wp2
    have k1 := setB HI.out.2.1 0 (.int .i64 0)
    have k2 : Boxed ((W.setCell ⟨p + 1, 0, none⟩ (.int .i64 0)).setCell ⟨p + 2, 0, none⟩ (.int .i64 0)) (p + 1) 3 (.int .i64 0) := Boxed.other k1 (by omega) _
    have k3 : Boxed ((W.setCell ⟨p + 1, 0, none⟩ (.int .i64 0)).setCell ⟨p + 2, 0, none⟩ (.int .i64 0)) (p + 2) 39 (.int .i64 0) := setB (Boxed.other HI.out.2.2.1 (by omega) _) 0 _
    have hK' := ((KeepsOthers.setCell W ⟨p + 1, 0, none⟩ (.int .i64 0)).trans (KeepsOthers.setCell _ ⟨p + 2, 0, none⟩ (.int .i64 0))).same D _ hK rfl
    refine ⟨by simp, .inl ⟨_, _, rfl, run_takeDeferred hK', ?_⟩⟩
    have d1 := cell_kept k2.cell (grownBy_putObj' _ D (.deferred none)) (fun r e => by cases e; exact ⟨_, hK', rfl⟩)
    have d2 := cell_kept k3.cell (grownBy_putObj' _ D (.deferred none)) (fun r e => by cases e; exact ⟨_, hK', rfl⟩)
    refine ⟨.tuple #[.int .i64 0, .int .i64 0], ?_, 0, by rw [BF.out, HZ.out]; rfl, (((HI.out.2.2.2.2.2.mono (Nat.le_of_eq HP.out.symm)).setCell (p := ⟨p + 1, 0, none⟩) (by show w.heap.size ≤ p + 1; have := HP.out; omega) _).setCell (p := ⟨p + 2, 0, none⟩) (by show w.heap.size ≤ p + 2; have := HP.out; omega) _).trans (belowK_b (w := w) (Nat.le_refl _) _ D _ _ (by have := HP.out; omega) hK' rfl rfl)⟩
    simp [results, Tryz.f65, go_sem, d1, d2]
  case stop =>
    rintro D c pre W hD ⟨q, hq⟩ hI hK
    obtain ⟨⟨n, h1⟩, h2, h3, h4⟩ := hI
    obtain ⟨rfl, h5⟩ := h3.out
    have c1 := h1.cell
    have c2 := h2.cell
    have GF : Hid (bodyF (bs s) = lnsErr s.size 0 (lnL pre)) := Lib.hid (by rw [BF.out, ← hq, lnsErr_app, if_pos h5])
    clear hq h5 h3
    gi_wp2
    refine ⟨by simp, .inl ⟨_, _, rfl, run_takeDeferred hK, ?_⟩⟩
    have d1 := cell_kept c1 (grownBy_putObj' _ D (.deferred none)) (fun r e => by cases e; exact ⟨_, hK, rfl⟩)
    have d2 := cell_kept c2 (grownBy_putObj' _ D (.deferred none)) (fun r e => by cases e; exact ⟨_, hK, rfl⟩)
    refine ⟨.tuple #[.int .i64 n, .int .i64 (lnsErr s.size 0 (lnL pre) : Nat)], ?_, n, by rw [GF.out], (h4.mono (Nat.le_of_eq HP.out.symm)).trans (belowK_b (w := w) (Nat.le_refl _) _ D _ _ (by have := HP.out; omega) hK rfl rfl)⟩
    simp [results, Tryz.f65, go_sem, d1, d2]
end Go.Proofs.YtohmdledkhgdaaaGreatDoor
