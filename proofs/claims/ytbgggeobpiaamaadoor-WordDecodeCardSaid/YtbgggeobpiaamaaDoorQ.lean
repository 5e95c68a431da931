/- The data of Q: standsForItself, writeQ, readQ. -/
import Derived.Test.YtbgggeobpiaamaaDoorIsP
import Derived.Test.YtbgggeobpiaamaaDoorPP
import Derived.StillTailTactics
namespace Go.Proofs.YtbgggeobpiaamaaDoor
open Go.RowKit
set_option linter.unusedVariables false
set_option maxRecDepth 100000

theorem ix_run (t : ByteArray) (l : List UInt8) (ht : t.data.toList = l) (w : World) (c : Nat) (r : Int) (hr : Lib.indexByte l c.toUInt8 = r) :
    Calls Tryd.prog 76 #[.string t, .int .u8 (c : Int)] w fun e w' => e = .returned (.int .i64 r) ∧ w = w' := by
  refine (lb_strings_IndexByte t (c : Int) w).mono ?_
  rintro e w' ⟨rfl, rfl⟩
  refine ⟨?_, rfl⟩
  rw [ht, Int.toNat_natCast, hr]

set_option maxHeartbeats 1000000 in
theorem self_any (w : World) (c : Nat) (hc : c < 256) : Calls Tryd.prog 75 #[.int .u8 (c : Int)] w fun e w' => e = .returned (.bool (itself c)) ∧ w = w' := by
  obtain ⟨b, hb⟩ : ∃ b, b = itself c := ⟨_, rfl⟩
  obtain ⟨r, hr⟩ : ∃ r, r = Lib.indexByte [33, 42, 43, 45, 47] c.toUInt8 := ⟨_, rfl⟩
  have h5 := index_five ⟨c, hc⟩
  simp only [← hr] at h5
  have C : Hid (∀ w, Calls Tryd.prog 76 #[.string ⟨#[33, 42, 43, 45, 47]⟩, .int .u8 (c : Int)] w fun e w' => e = .returned (.int .i64 r) ∧ w = w') := fun w => ix_run _ _ rfl w c r hr.symm
  rw [← hb]
  have HB := Lib.hid hb; have H5 := Lib.hid h5
  clear hb hr h5
  rcases (by omega : c < 48 ∨ (48 ≤ c ∧ c ≤ 57) ∨ (57 < c ∧ c < 65) ∨ (65 ≤ c ∧ c ≤ 90) ∨ (90 < c ∧ c < 97) ∨ (97 ≤ c ∧ c ≤ 122) ∨ 122 < c) with h | ⟨h, h2⟩ | ⟨h, h2⟩ | ⟨h, h2⟩ | ⟨h, h2⟩ | ⟨h, h2⟩ | h
  all_goals
    go_enter Tryd.func75, Tryd.ntmps75
    go_wp2_with (go_at_call 76; refine (C.out _).mono ?_; rintro e w' ⟨rfl, rfl⟩)
    go_ret
    refine ⟨ret_bool ?_, rfl⟩
    rw [HB.out]
    unfold itself
    first
      | (rw [H5.out, Bool.eq_iff_iff]; simp only [Bool.or_eq_true, decide_eq_true_eq]; omega)
      | (rw [eq_comm, Bool.eq_iff_iff]; simp only [Bool.or_eq_true, decide_eq_true_eq, iff_true]; omega)

/-- A row of bytes of the call's own. -/
def OW (B : Nat) (xs : List Nat) (v : Value) (w : World) : Prop := w.ownsRow B 5 1 v xs.length (xs.map U)
theorem OW.nil (B : Nat) (w : World) : OW B [] (.slice none 0 0) w := World.ownsRow_nil _ _ _ _
theorem OW.app {B : Nat} {xs ys : List Nat} {v' : Value} {w1 : World} {m : Nat} {news : List Value} (hm : m = ys.length) (hn : news = ys.map U) (h : w1.ownsRow B 5 1 v' (xs.length + m) (xs.map U ++ news)) : OW B (xs ++ ys) v' w1 := by
  unfold OW; rw [List.length_append, List.map_append, ← hm, ← hn]; exact h
theorem below_app {B B' : Nat} {w wr w1 : World} {xs : List Nat} {v : Value} {o : Obj} (hb : Below B w wr) (hB : B ≤ wr.heap.size) (hBB : B ≤ B') (hown : OW B' xs v wr) (hg : (wr.alloc o).grownBy w1 v.ownBlock) : Below B w w1 := by
  refine Below.grown (hb.alloc hB o) hg (by simp; omega) ?_
  intro k hk
  exact Nat.le_trans hBB (hown.lt k hk).1

theorem Rd.below {B : Nat} {w w' : World} {b off : Nat} {l : List Nat} (h : Rd w (some ⟨b, off, none⟩) l) (hb : Below B w w') (hB : b < B) : Rd w' (some ⟨b, off, none⟩) l := by
  refine ⟨h.lt, fun hl => ?_⟩
  obtain ⟨b', off', e, hlt, hc⟩ := h.at_ hl
  cases e
  exact ⟨b, off, rfl, Nat.lt_of_lt_of_le hlt hb.size, fun i hi => (hb.cell (p := ⟨b, off + i, none⟩) hB).trans (hc i hi)⟩
theorem Rd.cell {w : World} {b off : Nat} {l : List Nat} (h : Rd w (some ⟨b, off, none⟩) l) {i c : Nat} (hi : i < l.length) (hc : c = l.getD i 0) : w.cell? ⟨b, off + i, none⟩ = some (.int .u8 (c : Int)) := by
  obtain ⟨b', off', e, hlt, hc'⟩ := h.at_ (by omega)
  cases e
  rw [hc' i hi, hc, List.getD_eq_getElem?_getD, List.getElem?_eq_getElem hi, Option.getD_some]; rfl

theorem idx_hex (k : Nat) (i : Int) (hi : i = k) (hk : k < 16) (w : World) : (Instr.index 9 (.string ⟨#[48, 49, 50, 51, 52, 53, 54, 55, 56, 57, 65, 66, 67, 68, 69, 70]⟩) (.int .u8 i)).run Tryd.prog w = .ok (.int .u8 ((hx k : Nat) : Int)) w := by
  rw [idx_str 9 Tryd.underlying9 ⟨#[48, 49, 50, 51, 52, 53, 54, 55, 56, 57, 65, 66, 67, 68, 69, 70]⟩ .u8 i k hi hk]
  have : ∀ k : Fin 16, (bs ⟨#[48, 49, 50, 51, 52, 53, 54, 55, 56, 57, 65, 66, 67, 68, 69, 70]⟩).getD k.val 0 = hx k.val := by decide +kernel
  rw [this ⟨k, hk⟩]

/-- '[]byte(s)': a new world. -/
theorem bytes_new (s : ByteArray) (w : World) : ∃ (W : World) (cap : Nat), (convert 9 43 (.string s)).run Tryd.prog w = .ok (.slice (some ⟨w.heap.size, 0, none⟩) s.size cap) W ∧
    Rd W (some ⟨w.heap.size, 0, none⟩) (bs s) ∧ Below w.heap.size w W ∧ W.heap.size = w.heap.size + 1 :=
  ⟨_, _, bytes_run s w, rd_conv w s _ _, below_conv (Below.refl _ _) (Nat.le_refl _) _, by simp⟩

theorem bits_and15 (q : Nat) (h : q < 256) : Go.bits .and .u8 (q : Int) 15 = ((q % 16 : Nat) : Int) := by
  have : ∀ q : Fin 256, Go.bits .and .u8 ((q.val : Nat) : Int) 15 = ((q.val % 16 : Nat) : Int) := by decide +kernel
  exact this ⟨q, h⟩

set_option maxHeartbeats 2000000 in
theorem writeQ_any (s : ByteArray) (w : World) (hs : s.size ≤ 1000000) :
    Calls Tryd.prog 47 #[.string s] w fun e w' => e = .returned (.tuple #[.string (strN (wQ (bs s))), .int .i64 0]) ∧ Below w.heap.size w w' := by
  obtain ⟨i0, hi0, hz0, hz1, hz2⟩ := info_parts info5
  obtain ⟨W, cap, hcv, hrd, hb0, hz⟩ := bytes_new s w
  obtain ⟨p, hp⟩ : ∃ p, p = w.heap.size := ⟨_, rfl⟩
  rw [← hp] at hcv hrd hz
  have R0 := Lib.hid hrd; have B0 := Lib.hid hb0; have Z0 := Lib.hid hz; have HP := Lib.hid hp
  clear hrd hb0 hz hp
  go_enter Tryd.func47, Tryd.ntmps47
  go_wp2_with fail
  go_loopg [4, 10] s.size (fun k v i wr => ∃ j : Nat, j ≤ s.size ∧ k = s.size - j ∧ i = .int .i64 (j : Int) ∧ OW (p + 1) (wQ ((bs s).take j)) v wr ∧ Below (p + 1) W wr ∧ Below w.heap.size w wr)
  case atStart => exact ⟨0, by omega, rfl, rfl, OW.nil _ _, Below.refl _ _, B0.out⟩
  case round =>
    obtain ⟨j, hj, rfl, rfl, hown, hbW, hbw⟩ := hrel
    by_cases h : j < s.size
    · obtain ⟨c, hc⟩ : ∃ c, c = (bs s).getD j 0 := ⟨_, rfl⟩
      have hc2 : c < 256 := by rw [hc]; exact bs_lt' s j
      have hcl : wr.cell? ⟨p, j, none⟩ = some (.int .u8 (c : Int)) := by
        have := (R0.out.below hbW (Nat.lt_succ_self _)).cell (i := j) (by rw [bs_length]; exact h) hc
        rwa [Nat.zero_add] at this
      have hsz : p + 1 ≤ wr.heap.size := by have := hbW.size; rw [Z0.out] at this; exact this
      have hst := wQ_take_succ (l := bs s) (k := j) (by rw [bs_length]; exact h) hc
      have hlen : (wQ ((bs s).take j)).length ≤ 3000000 := by have := wQ_len ((bs s).take j); rw [List.length_take, bs_length] at this; omega
      have ST := Lib.hid hst; have HO := Lib.hid hown; have HW := Lib.hid hbW; have HB := Lib.hid hbw
      clear hst hown hbW hbw hc
      obtain ⟨xs, hxs⟩ : ∃ xs, xs = wQ ((bs s).take j) := ⟨_, rfl⟩
      rw [← hxs] at ST HO hlen
      clear hxs
      have fin : ∀ (wr : World), OW (p + 1) xs u4 wr → Below (p + 1) W wr → Below w.heap.size w wr → p + 1 ≤ wr.heap.size → ∀ (ys : List Nat) (v' : Value) (w1 : World) (o : Obj), ys = q1 c → w1.ownsRow (p + 1) 5 1 v' (xs.length + ys.length) (xs.map U ++ ys.map U) → (wr.alloc o).grownBy w1 u4.ownBlock → OW (p + 1) (wQ ((bs s).take (j + 1))) v' w1 ∧ Below (p + 1) W w1 ∧ Below w.heap.size w w1 := by
        intro wr k1 k2 k3 k4 ys v' w1 o hy ho hg
        refine ⟨?_, below_app k2 k4 (Nat.le_refl _) k1 hg, below_app k3 (by rw [← HP.out]; omega) (by rw [← HP.out]; omega) k1 hg⟩
        rw [ST.out, ← hy]; exact OW.app rfl rfl ho
      have FIN := Lib.hid fin
      clear fin
      cases hi : itself c
      · have C : Hid (∀ w, Calls Tryd.prog 75 #[.int .u8 (c : Int)] w fun e w' => e = .returned (.bool false) ∧ w = w') := fun w => by rw [← hi]; exact self_any w c hc2
        by_cases h32 : c = 32
        · have hq : [95] = q1 c := by rw [h32]; decide
          subst h32
          have HQ := Lib.hid hq
          clear hi hq
          go_wp2_with (first | (go_at_call 75; refine (C.out _).mono ?_; rintro e w' ⟨rfl, rfl⟩) | (at_builtin; refine wpList_append_own _ rfl _ _ _ rfl (p + 1) 5 i0 _ 1 1 Tryd.underlying43 hi0 hz0 hz1 hz2 rfl (by omega) u4 xs.length (xs.map U) rfl (HO.out.alloc _) ⟨wr.heap.size, 0, none⟩ 1 1 [.int .u8 95] rfl rfl (World.news_of_block (cs := #[.int .u8 95]) (t := 5) (fr := (0, 0)) (heap_alloc_new wr _)) (by simp [Value.oneCell']) (by unfold maxLen; omega) (by omega) (by simp; omega) ?_; intro v' w1 hown1 hgrow _))
          have F1 := Lib.hid (FIN.out wr HO.out HW.out HB.out hsz [95] v' w1 _ HQ.out hown1 hgrow)
          clear hown1 hgrow
          go_wp2_with fail
          go_roundg (s.size - (j + 1))
          case measure => omega
          case rel => exact ⟨j + 1, by omega, rfl, by go_num, F1.out.1, F1.out.2.1, F1.out.2.2⟩
        · have hq : [61, hx (c / 16), hx (c % 16)] = q1 c := by unfold q1; rw [if_neg (by rw [hi]; decide), if_neg h32]
          have e32 : ((c : Int) == 32) = false := int_ne (by omega)
          have HQ := Lib.hid hq
          clear hi hq
          go_wp2_with (go_at_call 75; refine (C.out _).mono ?_; rintro e w' ⟨rfl, rfl⟩)
          obtain ⟨a, ha⟩ : ∃ a, a = c / 16 := ⟨_, rfl⟩
          obtain ⟨b, hb⟩ : ∃ b, b = c % 16 := ⟨_, rfl⟩
          have i1 := fun w => idx_hex a (a : Int) rfl (by omega) w
          have i2 := fun w => idx_hex b (b : Int) rfl (by omega) w
          have s1 : (c : Int) / 16 = (a : Int) := by omega
          have s2 : Go.bits .and .u8 (c : Int) 15 = (b : Int) := by rw [hb]; exact bits_and15 c hc2
          have HA := Lib.hid ha; have HB' := Lib.hid hb
          clear ha hb
          have FH := Lib.hid (FIN.out wr.drew HO.out.drew HW.out.drew HB.out.drew hsz)
          clear HW HB FIN hcl
          go_region_law ((refine step_append_lies _ (by rfl) _ _ _ (by rfl) (p + 1) 5 i0 _ 1 1 Tryd.underlying43 hi0 hz0 hz1 hz2 rfl (by omega) u4 xs.length (xs.map U) (by rfl) ((HO.out.drew).alloc _) ⟨wr.heap.size, 0, none⟩ 3 3 [.int .u8 61, .int .u8 (hx a), .int .u8 (hx b)] (by rfl) (by rfl) (World.news_of_block (cs := #[.int .u8 61, .int .u8 (hx a), .int .u8 (hx b)]) (t := 5) (fr := (0, 0)) (heap_alloc_new wr _)) (by simp [Value.oneCell']) (by omega) (by unfold maxLen; omega) (by omega) (by simp; omega) (wr.heap.size + 1) (by simp) ?_; intro gg cap' w1 hown1 hgrow hat hlt2))
          all_goals
            have F1 := Lib.hid (FH.out [61, hx a, hx b] _ w1 _ (by rw [HA.out, HB'.out]; exact HQ.out) hown1 hgrow)
            clear hown1 hgrow hat hlt2
            go_wp2_with fail
            go_roundg (s.size - (j + 1))
            case measure => omega
            case rel => exact ⟨j + 1, by omega, rfl, by go_num, F1.out.1, F1.out.2.1, F1.out.2.2⟩
      · have hq : [c] = q1 c := by unfold q1; rw [if_pos hi]
        have C : Hid (∀ w, Calls Tryd.prog 75 #[.int .u8 (c : Int)] w fun e w' => e = .returned (.bool true) ∧ w = w') := fun w => by rw [← hi]; exact self_any w c hc2
        have HQ := Lib.hid hq
        clear hi hq
        go_wp2_with (first | (go_at_call 75; refine (C.out _).mono ?_; rintro e w' ⟨rfl, rfl⟩) | (at_builtin; refine wpList_append_own _ rfl _ _ _ rfl (p + 1) 5 i0 _ 1 1 Tryd.underlying43 hi0 hz0 hz1 hz2 rfl (by omega) u4 xs.length (xs.map U) rfl (HO.out.alloc _) ⟨wr.heap.size, 0, none⟩ 1 1 [.int .u8 c] rfl rfl (World.news_of_block (cs := #[.int .u8 c]) (t := 5) (fr := (0, 0)) (heap_alloc_new wr _)) (by simp [Value.oneCell']) (by unfold maxLen; omega) (by omega) (by simp; omega) ?_; intro v' w1 hown1 hgrow _))
        have F1 := Lib.hid (FIN.out wr HO.out HW.out HB.out hsz [c] v' w1 _ HQ.out hown1 hgrow)
        clear hown1 hgrow
        go_wp2_with fail
        go_roundg (s.size - (j + 1))
        case measure => omega
        case rel => exact ⟨j + 1, by omega, rfl, by go_num, F1.out.1, F1.out.2.1, F1.out.2.2⟩
    · have hall : (bs s).take j = bs s := List.take_of_length_le (by rw [bs_length]; omega)
      rw [hall] at hown
      have hcv2 := own_conv (P := Tryd.prog) 43 9 Tryd.underlying43 Tryd.underlying5 Tryd.underlying9 hown
      have HB := Lib.hid hbw
      clear hall hown hbW hbw
      go_wp2_with fail
      go_ret2
      exact ⟨rfl, HB.out⟩
theorem bits_hex (x y : Nat) (hx : x < 16) (hy : y < 16) : Go.bits .or .i64 ((x : Int) * 16) (y : Int) % 256 = ((16 * x + y : Nat) : Int) := by
  have : ∀ x y : Fin 16, Go.bits .or .i64 ((x.val : Int) * 16) (y.val : Int) % 256 = ((16 * x.val + y.val : Nat) : Int) := by decide +kernel
  exact this ⟨x, hx⟩ ⟨y, hy⟩

theorem idx_q (s : ByteArray) (w : World) (i : Int) (j : Nat) (hi : i = j) (hj : j < s.size) (c : Nat) (hc : c = (bs s).getD j 0) : (Instr.index 9 (.string s) (.int .i64 i)).run Tryd.prog w = .ok (.int .u8 (c : Int)) w := by
  rw [idx_str 9 Tryd.underlying9 s .i64 i j hi hj, hc]
theorem ixhex (w : World) (c : Nat) (hc : c < 256) (r : Int) (hr : hvI c = r) : Calls Tryd.prog 76 #[.string ⟨#[48, 49, 50, 51, 52, 53, 54, 55, 56, 57, 65, 66, 67, 68, 69, 70]⟩, .int .u8 (c : Int)] w fun e w' => e = .returned (.int .i64 r) ∧ w' = w :=
  (ix_run _ _ rfl w c r (by rw [← hr]; exact index_hex ⟨c, hc⟩)).mono fun e w' h => ⟨h.1, h.2.symm⟩

set_option maxHeartbeats 2000000 in
theorem readQ_any (s : ByteArray) (w : World) (hs : s.size ≤ 1000000) :
    Calls Tryd.prog 48 #[.string s] w fun e w' => e = .returned (.tuple #[.string (strN (rQres (bs s)).1), .int .i64 ((rQres (bs s)).2 : Int)]) ∧ Below w.heap.size w w' := by
  obtain ⟨i0, hi0, hz0, hz1, hz2⟩ := info_parts info5
  go_enter Tryd.func48, Tryd.ntmps48
  go_wp2_with fail
  go_loopg [4, 5] s.size (fun k v i wr => ∃ (j : Nat) (xs : List Nat), j ≤ s.size ∧ xs.length ≤ j ∧ k = s.size - j ∧ i = .int .i64 (j : Int) ∧ RQ (bs s) j xs ∧ OW w.heap.size xs v wr ∧ Below w.heap.size w wr)
  case atStart => exact ⟨0, [], by omega, by simp, rfl, rfl, RQ.start _, OW.nil _ _, Below.refl _ _⟩
  case round =>
    obtain ⟨j, xs, hj, hxl, rfl, rfl, hrq, hown, hbw⟩ := hrel
    have HR := Lib.hid hrq; have HO := Lib.hid hown; have HB := Lib.hid hbw
    have hsz := hbw.size
    clear hrq hown hbw
    by_cases h : j < s.size
    · have hl : j < (bs s).length := by rw [bs_length]; exact h
      obtain ⟨c, hc⟩ : ∃ c, c = (bs s).getD j 0 := ⟨_, rfl⟩
      have hc2 : c < 256 := by rw [hc]; exact bs_lt' s j
      have x0 := fun w => idx_q s w (j : Int) j rfl h c hc
      have HC := Lib.hid hc; have HL := Lib.hid hl
      clear hc hl
      cases hi : itself c
      · have C : Hid (∀ w, Calls Tryd.prog 75 #[.int .u8 (c : Int)] w fun e w' => e = .returned (.bool false) ∧ w = w') := fun w => by rw [← hi]; exact self_any w c hc2
        have HI := Lib.hid hi
        clear hi
        by_cases h95 : c = 95
        · subst h95
          go_wp2_with (first | (go_at_call 75; refine (C.out _).mono ?_; rintro e w' ⟨rfl, rfl⟩) | (at_builtin; refine wpList_append_own _ rfl _ _ _ rfl w.heap.size 5 i0 _ 1 1 Tryd.underlying43 hi0 hz0 hz1 hz2 rfl (by omega) u4 xs.length (xs.map U) rfl (HO.out.alloc _) ⟨wr.heap.size, 0, none⟩ 1 1 [.int .u8 32] rfl rfl (World.news_of_block (cs := #[.int .u8 32]) (t := 5) (fr := (0, 0)) (heap_alloc_new wr _)) (by simp [Value.oneCell']) (by unfold maxLen; omega) (by omega) (by simp; omega) ?_; intro v' w1 hown1 hgrow _))
          have F1 := Lib.hid (OW.app (ys := [32]) rfl rfl hown1)
          have F2 := Lib.hid (below_app HB.out hsz (Nat.le_refl _) HO.out hgrow)
          clear hown1 hgrow
          go_wp2_with fail
          go_roundg (s.size - (j + 1))
          case measure => omega
          case rel => exact ⟨j + 1, xs ++ [32], by omega, by simp; omega, rfl, by go_num, HR.out.blank HL.out HC.out HI.out rfl, F1.out, F2.out⟩
        · have e95 : ((c : Int) == 95) = false := int_ne (by omega)
          by_cases h61 : c = 61
          · subst h61
            by_cases h2 : j + 2 < s.size
            · have d2 : decide ((j : Int) + 2 < (s.size : Int)) = true := by simp; omega
              obtain ⟨c1, hc1⟩ : ∃ c, c = (bs s).getD (j + 1) 0 := ⟨_, rfl⟩
              obtain ⟨c3, hc3⟩ : ∃ c, c = (bs s).getD (j + 2) 0 := ⟨_, rfl⟩
              have b1 : c1 < 256 := by rw [hc1]; exact bs_lt' s _
              have b3 : c3 < 256 := by rw [hc3]; exact bs_lt' s _
              obtain ⟨r1, hr1⟩ : ∃ r, hvI c1 = r := ⟨_, rfl⟩
              obtain ⟨r3, hr3⟩ : ∃ r, hvI c3 = r := ⟨_, rfl⟩
              have K1 := Lib.hid (fun w => ixhex w c1 b1 r1 hr1)
              have K3 := Lib.hid (fun w => ixhex w c3 b3 r3 hr3)
              have x1 := fun w => idx_q s w ((j : Int) + 1) (j + 1) (by omega) (by omega) c1 hc1
              have x3 := fun w => idx_q s w ((j : Int) + 2) (j + 2) (by omega) (by omega) c3 hc3
              have w1 : IntKind.i64.wrap ((j : Int) + 1) = (j : Int) + 1 := IntWalk.i64_in _ (by omega)
              have w2 : IntKind.i64.wrap ((j : Int) + 2) = (j : Int) + 2 := IntWalk.i64_in _ (by omega)
              have HC1 := Lib.hid hc1; have HC3 := Lib.hid hc3; have HR1 := Lib.hid hr1; have HR3 := Lib.hid hr3
              have W1 := Lib.hid w1; have W2 := Lib.hid w2
              clear hc1 hc3 hr1 hr3 w1 w2
              go_wp2_with (first | (go_at_call 75; refine (C.out _).mono ?_; rintro e w' ⟨rfl, rfl⟩))
              have w1 := W1.out
              have w2 := W2.out
              go_quiet (first | (go_at_call 76; exact Calls.quiet_of_same (K1.out _)) | (go_at_call 76; exact Calls.quiet_of_same (K3.out _)))
              have HO2 : Hid (OW w.heap.size xs u4 (wr.drewN nq)) := HO.out
              have HB2 : Hid (Below w.heap.size w (wr.drewN nq)) := Lib.hid (HB.out.trans ((Dr.below ⟨nq, rfl⟩).mono hsz))
              have hsz2 : w.heap.size ≤ (wr.drewN nq).heap.size := hsz
              clear HO HB hsz w1 w2 K1 K3
              generalize wr.drewN nq = wq at *
              have e2 : (bs s).length = s.size := bs_length s
              have HE := Lib.hid e2
              clear e2
              cases hv1 : hv c1 with
              | none =>
                have q := HR1.out
                unfold hvI at q
                rw [hv1] at q
                obtain rfl : -1 = r1 := q
                have RN := Lib.hid (rQres_none (HR.out.badhex (by rw [HE.out]; omega) HC.out rfl (.inl (by rw [← HC1.out]; exact hv1))))
                clear hv1
                go_wp2_with fail
                go_ret2
                exact ⟨by rw [RN.out]; rfl, HB2.out⟩
              | some x =>
                cases hv3 : hv c3 with
                | none =>
                  have q := HR3.out
                  unfold hvI at q
                  rw [hv3] at q
                  obtain rfl : -1 = r3 := q
                  have q1 := HR1.out
                  unfold hvI at q1
                  rw [hv1] at q1
                  obtain rfl : (x : Int) = r1 := q1
                  have RN := Lib.hid (rQres_none (HR.out.badhex (by rw [HE.out]; omega) HC.out rfl (.inr (by rw [← HC3.out]; exact hv3))))
                  have hx16 := hv_lt hv1
                  clear hv1 hv3
                  go_wp2_with fail
                  go_ret2
                  exact ⟨by rw [RN.out]; rfl, HB2.out⟩
                | some y =>
                  have q := HR3.out
                  unfold hvI at q
                  rw [hv3] at q
                  obtain rfl : (y : Int) = r3 := q
                  have q1 := HR1.out
                  unfold hvI at q1
                  rw [hv1] at q1
                  obtain rfl : (x : Int) = r1 := q1
                  have hx16 := hv_lt hv1
                  have hy16 := hv_lt hv3
                  have RN := Lib.hid (HR.out.hex (by rw [HE.out]; omega) HC.out rfl (by rw [← HC1.out]; exact hv1) (by rw [← HC3.out]; exact hv3))
                  clear hv1 hv3
                  obtain ⟨z, hz⟩ : ∃ z, z = 16 * x + y := ⟨_, rfl⟩
                  have hbit : Go.bits .or .i64 ((x : Int) * 16) (y : Int) % 256 = (z : Int) := by rw [hz]; exact bits_hex x y hx16 hy16
                  have hz256 : z < 256 := by omega
                  rw [← hz] at RN
                  clear hz
                  go_wp2_with (at_builtin; refine wpList_append_own _ rfl _ _ _ rfl w.heap.size 5 i0 _ 1 1 Tryd.underlying43 hi0 hz0 hz1 hz2 rfl (by omega) u4 xs.length (xs.map U) rfl (HO2.out.alloc _) ⟨wq.heap.size, 0, none⟩ 1 1 [.int .u8 z] rfl rfl (World.news_of_block (cs := #[.int .u8 z]) (t := 5) (fr := (0, 0)) (heap_alloc_new wq _)) (by simp [Value.oneCell']) (by unfold maxLen; omega) (by omega) (by simp; omega) ?_; intro v' w1 hown1 hgrow _)
                  have F1 := Lib.hid (OW.app (ys := [z]) rfl rfl hown1)
                  have F2 := Lib.hid (below_app HB2.out hsz2 (Nat.le_refl _) HO2.out hgrow)
                  clear hown1 hgrow
                  go_wp2_with fail
                  go_roundg (s.size - (j + 3))
                  case measure => omega
                  case rel => exact ⟨j + 3, xs ++ [z], by omega, by simp; omega, rfl, by go_num, RN.out, F1.out, F2.out⟩
            · have d2 : decide ((j : Int) + 2 < (s.size : Int)) = false := by simp; omega
              have RN := Lib.hid (rQres_none (HR.out.short HL.out (by rw [bs_length]; omega) HC.out rfl))
              go_wp2_with (first | (go_at_call 75; refine (C.out _).mono ?_; rintro e w' ⟨rfl, rfl⟩))
              go_ret2
              exact ⟨by rw [RN.out]; rfl, HB.out⟩
          · have e61 : ((c : Int) == 61) = false := int_ne (by omega)
            have RN := Lib.hid (rQres_none (HR.out.bad HL.out HC.out HI.out h95 h61))
            go_wp2_with (first | (go_at_call 75; refine (C.out _).mono ?_; rintro e w' ⟨rfl, rfl⟩))
            go_ret2
            exact ⟨by rw [RN.out]; rfl, HB.out⟩
      · have C : Hid (∀ w, Calls Tryd.prog 75 #[.int .u8 (c : Int)] w fun e w' => e = .returned (.bool true) ∧ w = w') := fun w => by rw [← hi]; exact self_any w c hc2
        have HI := Lib.hid hi
        clear hi
        go_wp2_with (first | (go_at_call 75; refine (C.out _).mono ?_; rintro e w' ⟨rfl, rfl⟩) | (at_builtin; refine wpList_append_own _ rfl _ _ _ rfl w.heap.size 5 i0 _ 1 1 Tryd.underlying43 hi0 hz0 hz1 hz2 rfl (by omega) u4 xs.length (xs.map U) rfl (HO.out.alloc _) ⟨wr.heap.size, 0, none⟩ 1 1 [.int .u8 c] rfl rfl (World.news_of_block (cs := #[.int .u8 c]) (t := 5) (fr := (0, 0)) (heap_alloc_new wr _)) (by simp [Value.oneCell']) (by unfold maxLen; omega) (by omega) (by simp; omega) ?_; intro v' w1 hown1 hgrow _))
        have F1 := Lib.hid (OW.app (ys := [c]) rfl rfl hown1)
        have F2 := Lib.hid (below_app HB.out hsz (Nat.le_refl _) HO.out hgrow)
        clear hown1 hgrow
        go_wp2_with fail
        go_roundg (s.size - (j + 1))
        case measure => omega
        case rel => exact ⟨j + 1, xs ++ [c], by omega, by simp; omega, rfl, by go_num, HR.out.self HL.out HC.out HI.out, F1.out, F2.out⟩
    · have RN := Lib.hid (rQres_some (HR.out.done (by rw [bs_length]; omega)))
      have hcv2 := own_conv (P := Tryd.prog) 43 9 Tryd.underlying43 Tryd.underlying5 Tryd.underlying9 HO.out
      go_wp2_with fail
      go_ret2
      exact ⟨by rw [RN.out]; rfl, HB.out⟩
end Go.Proofs.YtbgggeobpiaamaaDoor
