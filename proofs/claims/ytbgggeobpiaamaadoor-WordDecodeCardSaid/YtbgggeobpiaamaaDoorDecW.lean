/- Decode of package word. -/
import Derived.Test.YtbgggeobpiaamaaDoorDP
import Derived.Test.YtbgggeobpiaamaaDoorFind
import Derived.Test.YtbgggeobpiaamaaDoorTrim
import Derived.Test.YtbgggeobpiaamaaDoorBldS
namespace Go.Proofs.YtbgggeobpiaamaaDoor
open Go.RowKit
set_option linter.unusedVariables false
set_option maxRecDepth 100000

theorem liesB : liesAt Tryd.prog Tryd.prog.depth 55 (2 / Tryd.prog.cellsOf 55) 0 55 1 = true := by kernel_rfl
/-- A builder of its own at block b, with the text xs. -/
structure BD (w : World) (b : Nat) (xs : List Nat) (wr : World) : Prop where
  bd : ∃ cs v, cs.size = 2 ∧ Bd wr w.heap.size b 0 55 cs v xs
  bel : Below w.heap.size w wr
  le : w.heap.size ≤ b
/-- Blocks of other types lie as they lay. -/
structure KN (b : Nat) (w w' : World) : Prop where
  size : w.heap.size ≤ w'.heap.size
  same : ∀ k cs t fz, k ≠ b → t ≠ 5 → w.heap[k]? = some (.cells cs t fz) → w'.heap[k]? = some (.cells cs t fz)
theorem KN.of_below {b : Nat} {w w' : World} (h : Below w.heap.size w w') : KN b w w' := ⟨h.size, fun k cs t fz _ _ hk => (h.block k (lt_of_block hk)).trans hk⟩
theorem KN.owns {b : Nat} {w w' : World} (h : KN b w w') {base e size n : Nat} {v : Value} {xs : List Value} (ho : w.ownsRow base e size v n xs) (he : e ≠ 5) (hb : ∀ cs t fz, w.heap[b]? = some (.cells cs t fz) → t ≠ e) : w'.ownsRow base e size v n xs := by
  rcases ho.2 with ⟨rfl, h0⟩ | ⟨g, cap, cur, rfl, hg, hgb, r⟩
  · exact ⟨ho.1, .inl ⟨rfl, h0⟩⟩
  · exact ⟨ho.1, .inr ⟨g, cap, cur, rfl, hg, h.same g cur e (0, 0) (fun e' => hb cur e (0, 0) (by rw [← e']; exact hgb) rfl) he hgb, r⟩⟩
theorem Bd.on {w w' : World} {B b o T : Nat} {cs : Array Value} {v : Value} {xs : List Nat} (h : Bd w B b o T cs v xs) (hb : Below w.heap.size w w') : Bd w' B b o T cs v xs := by
  refine ⟨(hb.block _ (lt_of_block h.heap)).trans h.heap, h.addr, h.buf, ?_⟩
  rcases h.row.2 with ⟨rfl, h0⟩ | ⟨g, cap, cur, fz, rfl, hbg, hg, r⟩
  · exact ⟨h.row.1, .inl ⟨rfl, h0⟩⟩
  · exact ⟨h.row.1, .inr ⟨g, cap, cur, fz, rfl, hbg, (hb.block g (lt_of_block hg)).trans hg, r⟩⟩
theorem BD.on {w : World} {b : Nat} {xs : List Nat} {wr w' : World} (h : BD w b xs wr) (hb : Below wr.heap.size wr w') : BD w b xs w' := by
  obtain ⟨cs, v, h1, h2⟩ := h.bd
  exact ⟨⟨cs, v, h1, h2.on hb⟩, h.bel.trans (hb.mono h.bel.size), h.le⟩
theorem BD.type {w : World} {b : Nat} {xs : List Nat} {wr : World} (h : BD w b xs wr) : ∀ cs t fz, wr.heap[b]? = some (.cells cs t fz) → t = 55 := by
  obtain ⟨cs, v, h1, h2⟩ := h.bd
  intro cs' t fz hk
  rw [h2.heap] at hk
  cases hk; rfl
theorem BD.write {w : World} {b : Nat} {xs : List Nat} {wr : World} (h : BD w b xs wr) (s : ByteArray) (hlen : xs.length + s.size ≤ 140737488355328) :
    Calls Tryd.prog 33 #[.pointer (some ⟨b, 0, none⟩), .string s] wr fun e w' => e = .returned (.tuple #[.int .i64 (s.size : Int), .nilIface]) ∧ BD w b (xs ++ bs s) w' ∧ KN b wr w' := by
  obtain ⟨cs, v, h1, h2⟩ := h.bd
  refine (writeString_any wr w.heap.size b 0 55 cs v xs s h2 (by decide) h.bel.size (by rw [h1]; exact liesB) hlen).mono ?_
  rintro e w' ⟨rfl, cs', v', hbd, hsz, _, hov, hfr⟩
  have hv : ∀ k, v.ownBlock = some k → w.heap.size ≤ k ∧ ∃ cs fz, wr.heap[k]? = some (.cells cs 5 fz) := by
    intro k hk
    rcases h2.row.2 with ⟨rfl, h0⟩ | ⟨g, cap, cur, fz, rfl, hbg, hg, r⟩
    · cases hk
    · simp [Value.ownBlock] at hk; subst hk; exact ⟨hbg, cur, fz, hg⟩
  refine ⟨rfl, ⟨⟨cs', v', by rw [hsz, h1], hbd⟩, h.bel.trans (hfr.below h.bel.size h.le (fun k hk => (hv k hk).1)), h.le⟩, hfr.size, ?_⟩
  intro k cs t fz hne ht hk
  refine (hfr.other k (lt_of_block hk) hne (fun e => ?_)).trans hk
  obtain ⟨_, cs', fz', hk'⟩ := hv k e
  rw [hk] at hk'; cases hk'; exact ht rfl
theorem BD.text {w : World} {b : Nat} {xs : List Nat} {wr : World} (h : BD w b xs wr) (hx : ∀ x ∈ xs, x < 256) (hlen : xs.length ≤ 140737488355328) :
    Calls Tryd.prog 34 #[.pointer (some ⟨b, 0, none⟩)] wr fun e w' => e = .returned (.string (strN xs)) ∧ Below w.heap.size w w' := by
  obtain ⟨cs, v, h1, h2⟩ := h.bd
  refine (bstring_any wr w.heap.size b 0 55 cs v xs h2 (by decide) hx hlen).mono ?_
  rintro e w' ⟨rfl, _, hfr⟩
  refine ⟨rfl, h.bel.trans (hfr.below h.bel.size h.le (fun k hk => ?_))⟩
  rcases h2.row.2 with ⟨rfl, h0⟩ | ⟨g, cap, cur, fz, rfl, hbg, hg, r⟩
  · cases hk
  · simp [Value.ownBlock] at hk; subst hk; exact hbg
def DwPost (l : List Nat) (w : World) (e : Ending) (w' : World) : Prop := e = .returned (.tuple #[.string (strN (decR l).1), .int .i64 ((decR l).2 : Int)]) ∧ Below w.heap.size w w'
theorem plC_get (ps : List (Nat × Nat)) (j : Nat) (hj : j < ps.length) : (plC ps)[2 * j]? = some (.int .i64 (ps[j].1 : Int)) ∧ (plC ps)[2 * j + 1]? = some (.int .i64 (ps[j].2 : Int)) := by
  induction ps generalizing j with
  | nil => simp at hj
  | cons x ps ih =>
    have e : plC (x :: ps) = .int .i64 (x.1 : Int) :: .int .i64 (x.2 : Int) :: plC ps := by simp [plC]
    rw [e]
    cases j with
    | zero => exact ⟨rfl, rfl⟩
    | succ j =>
      have := ih j (by simpa using hj)
      rw [show 2 * (j + 1) = 2 * j + 1 + 1 by omega, List.getElem?_cons_succ, List.getElem?_cons_succ, List.getElem?_cons_succ, List.getElem?_cons_succ, List.getElem_cons_succ]
      exact this

set_option maxHeartbeats 4000000 in
theorem decode_word (s : ByteArray) (w : World) (hs : s.size ≤ maxLen) (he : Env w) :
    Calls Tryd.prog 14 #[.string s] w (DwPost (bs s) w) := by
  unfold maxLen at hs
  by_cases hl : 16384 < s.size
  · have R : Hid (decR (bs s) = ([], 5)) := Lib.hid (by unfold decR; rw [if_pos (by rw [bs_length]; exact hl)])
    clear he
    go_enter Tryd.func14, Tryd.ntmps14
    go_wp2_with fail
    go_ret2
    exact ⟨by rw [R.out]; rfl, Below.refl _ _⟩
  · obtain ⟨W, cap, hcv, hrd, hb0, hz⟩ := bytes_new s w
    have CF : Hid (Calls Tryd.prog 31 #[.slice (some ⟨w.heap.size, 0, none⟩) s.size cap, .func (.func 30) #[] #[]] W fun e w' => e = .returned (.bool ((bs s).any forb)) ∧ W = w') := Lib.hid (by
      rw [← bs_length]; exact cf_forb W _ cap (bs s) (by rw [bs_length]; unfold maxLen; omega) hrd)
    have HE := Lib.hid he; have B0 := Lib.hid hb0
    have N1 : Hid (¬ 16384 < (bs s).length) := Lib.hid (by rw [bs_length]; exact hl)
    obtain ⟨b, hb⟩ : ∃ b, b = (bs s).any forb := ⟨_, rfl⟩
    rw [← hb] at CF
    have HB := Lib.hid hb
    have zW := hb0.size
    clear he hb0 hrd hz hb
    cases b
    rotate_left
    · have R : Hid (decR (bs s) = ([], 6)) := Lib.hid (by unfold decR; rw [if_neg N1.out, if_pos HB.out.symm])
      go_enter Tryd.func14, Tryd.ntmps14
      go_wp2_with (go_at_call 31; refine CF.out.mono ?_; rintro e w' ⟨rfl, rfl⟩)
      go_ret2
      exact ⟨by rw [R.out]; rfl, B0.out⟩
    · have R : Hid (decR (bs s) = (decT (bs s), 0)) := Lib.hid (by unfold decR; rw [if_neg N1.out, if_neg (by rw [← HB.out]; decide)])
      have BX : Hid (BD w W.heap.size [] (W.alloc (.cells #[.pointer none, .slice none 0 0] 55))) := Lib.hid ⟨⟨_, _, rfl, heap_alloc_new W _, .inl rfl, rfl, ⟨by simp, .inl ⟨rfl, rfl⟩⟩⟩, B0.out.alloc zW _, zW⟩
      have FC := Lib.hid (find_any s (W.alloc (.cells #[.pointer none, .slice none 0 0] 55)) (by omega) (HE.out.on BX.out.bel))
      have EW : Hid ((W.alloc (.cells #[.pointer none, .slice none 0 0] 55)).heap.size = W.heap.size + 1) := Lib.hid (by simp)
      obtain ⟨b, hbb⟩ : ∃ b, b = W.heap.size := ⟨_, rfl⟩
      go_enter Tryd.func14, Tryd.ntmps14
      go_wp2_with (go_at_call 31; refine CF.out.mono ?_; rintro e w' ⟨rfl, rfl⟩)
      refine FC.out.mono ?_
      rintro e w2 ⟨v, rfl, hown, hb2⟩
      rw [EW.out] at hown hb2
      have BX2 : BD w W.heap.size [] w2 := BX.out.on (by rw [EW.out]; exact hb2)
      obtain ⟨ps, hps⟩ : ∃ ps, ps = findR (bs s) := ⟨_, rfl⟩
      have hord := findR_ord (bs s)
      have hin := findR_in (bs s)
      have hlen := findR_len (bs s)
      have hR : decT (bs s) = (dcSt (bs s) ps).2.2 ++ (bs s).drop (dcSt (bs s) ps).1 := by rw [hps]; rfl
      rw [← hps] at hown hord hin hlen
      rw [bs_length] at hin hlen
      obtain ⟨n, hn⟩ : ∃ n, n = ps.length := ⟨_, rfl⟩
      have hv : ∃ a c2, v = .slice a n c2 ∧ (0 < n → ∃ g, a = some ⟨g, 0, none⟩) := by
        rcases hown.2 with ⟨rfl, h0⟩ | ⟨g, c2, cur, rfl, _⟩
        · exact ⟨none, 0, by rw [hn, h0], fun h => by omega⟩
        · exact ⟨_, c2, by rw [hn], fun _ => ⟨g, rfl⟩⟩
      obtain ⟨a, c2, rfl, hag⟩ := hv
      have hout := dcSt_out (bs_lt s) ps hord (by rw [bs_length]; exact hin)
      rw [bs_length] at hout
      have hleF := fun j (hj : j < ps.length) => dcSt_le (l := bs s) hj hord
      have BX3 := Lib.hid BX2; have OW3 := Lib.hid hown; have HIN := Lib.hid hin; have HO := Lib.hid hout; have HLE := Lib.hid hleF; have HRR := Lib.hid hR; have HN := Lib.hid hn; have HAG := Lib.hid hag
      rw [← hn] at hlen
      clear BX BX2 FC CF EW hown hb2 hord hin hout hleF hR hps hn hag hcv hbb b
      go_wp2_with fail
      go_loopg [6, 7, 24] n (fun k v6 v7 v24 wr => ∃ (j fr : Nat) (fo : Bool) (out : List Nat), j ≤ n ∧ k = n - j ∧ v24 = .int .i64 (j : Int) ∧ v6 = .int .i64 (fr : Int) ∧ v7 = .bool fo ∧ Hid (dcSt (bs s) (ps.take j) = (fr, fo, out)) ∧ BD w W.heap.size out wr ∧ wr.ownsRow (W.heap.size + 1) 36 2 (.slice a n c2) ps.length (plC ps))
      case atStart => exact ⟨0, 0, false, [], by omega, rfl, rfl, rfl, rfl, rfl, BX3.out, OW3.out⟩
      case round =>
        obtain ⟨j, fr, fo, out, hj, rfl, rfl, rfl, rfl, hst, hbd, hown⟩ := hrel
        have ho := HO.out j (by rw [← HN.out]; exact hj)
        rw [hst.out] at ho
        obtain ⟨ho1, ho2, ho3⟩ := ho
        simp only at ho1 ho2 ho3
        have HO3 := Lib.hid ho3; have HBD := Lib.hid hbd; have HOWN := Lib.hid hown
        clear ho3 hbd hown
        by_cases hlt : j < n
        · have hjp : j < ps.length := by rw [← HN.out]; exact hlt
          obtain ⟨g, rfl⟩ := HAG.out (by omega)
          have hx := HIN.out ps[j] (List.getElem_mem hjp)
          have hle := HLE.out j hjp
          rw [hst.out] at hle
          simp only at hle
          obtain ⟨x, hxe⟩ : ∃ x, x = ps[j] := ⟨_, rfl⟩
          have hcells := plC_get ps j hjp
          have k0 := HOWN.out.cells (g := g) rfl (2 * j) _ hcells.1
          have k1 := HOWN.out.cells (g := g) rfl (2 * j + 1) _ hcells.2
          have ea : ∀ i, (⟨g, 0, none⟩ : Addr).add i = ⟨g, i, none⟩ := fun i => by unfold Addr.add; split <;> simp_all
          rw [ea] at k0 k1
          rw [← hxe] at hx hle k0 k1
          clear hcells ea
          obtain ⟨xa, xb⟩ := x
          simp only at hx hle k0 k1
          have HX := Lib.hid hxe
          clear hxe
          -- the round
          rw [Nat.mul_comm] at k0 k1
          obtain ⟨q, hq⟩ : ∃ q, q = wr.heap.size := ⟨_, rfl⟩
          have hbA : Below wr.heap.size wr (wr.alloc (.cells #[.int .i64 (xa : Int), .int .i64 (xb : Int)] 36)) := (Below.refl _ _).alloc (Nat.le_refl _) _
          have HBD3 := Lib.hid (HBD.out.on hbA)
          have T23 := Lib.hid (owns_below HOWN.out hbA)
          have T33 : Hid ((wr.alloc (.cells #[.int .i64 (xa : Int), .int .i64 (xb : Int)] 36)).heap[q]? = some (.cells #[.int .i64 (xa : Int), .int .i64 (xb : Int)] 36 (0, 0))) := Lib.hid (by rw [hq]; exact heap_alloc_new wr _)
          have HJP := Lib.hid hjp; have HQ := Lib.hid hq
          clear hbA HBD HOWN hq
          cases fo
          · go_wp2_with fail
            rw [← HQ.out]
            generalize (wr.alloc (.cells #[.int .i64 (xa : Int), .int .i64 (xb : Int)] 36)) = w3 at *
            clear k0 k1 HQ
            have WB := Lib.hid (HBD3.out.write (s.extract fr xa) (by rw [ByteArray.size_extract]; omega))
            rw [bs_extract] at WB
            go_wp2_with fail
            refine WB.out.mono ?_
            rintro e w5 ⟨rfl, hbd5, hkn⟩
            have T1 := Lib.hid hbd5
            have T3 : Hid (w5.heap[q]? = some (.cells #[.int .i64 (xa : Int), .int .i64 (xb : Int)] 36 (0, 0))) := Lib.hid (hkn.same q _ _ _ (fun e => by have := HBD3.out.type _ _ _ (by rw [← e]; exact T33.out); revert this; decide) (by decide) T33.out)
            have T2 := Lib.hid (hkn.owns T23.out (by decide) (fun cs t fz h e => by have := HBD3.out.type cs t fz h; rw [e] at this; revert this; decide))
            clear hbd5 hkn WB
            obtain ⟨out1, ho1e⟩ : ∃ o, o = out ++ ((bs s).take xa).drop fr := ⟨_, rfl⟩
            rw [← ho1e] at T1
            have ol : out1.length ≤ xa := by rw [ho1e, List.length_append]; have := cut_len (l := bs s) (a := fr) (b := xa) (by rw [bs_length]; omega); unfold cut at this; omega
            have OUT : Hid (out1 = if (false && (cut (bs s) fr xa).all blank) = true then out else out ++ cut (bs s) fr xa) := Lib.hid (by rw [ho1e]; rfl)
            clear ho1e HBD3 T23 T33
            have d0 : w5.cell? ⟨q, 0, none⟩ = some (.int .i64 (xa : Int)) := cell_of_row w5 q 0 _ _ _ T3.out
            have d1 : w5.cell? ⟨q, 1, none⟩ = some (.int .i64 (xb : Int)) := cell_of_row w5 q 1 _ _ _ T3.out
            have zq := lt_of_block T3.out
            have PC := Lib.hid (parse_any (s.extract xa xb) w5 (by rw [ByteArray.size_extract]; omega) (HE.out.on T1.out.bel))
            unfold ParsePost at PC
            rw [bs_extract] at PC
            obtain ⟨m, hm⟩ : ∃ m, m = parseR (cut (bs s) xa xb) := ⟨_, rfl⟩
            have ml := parse_len (cut_lt (a := xa) (b := xb) (bs_lt s))
            rw [← hm, cut_len (by rw [bs_length]; omega)] at ml
            rw [show ((bs s).take xb).drop xa = cut (bs s) xa xb from rfl, ← hm] at PC
            obtain ⟨ml1, ml2⟩ := ml
            have HM := Lib.hid hm; have ML1 := Lib.hid ml1
            clear hm ml1
            go_wp2_with fail
            refine PC.out.mono ?_
            rintro e w6 ⟨rfl, hb6⟩
            have T1' := Lib.hid (T1.out.on hb6); have T2' := Lib.hid (owns_below T2.out hb6)
            have T3' : Hid (w6.heap[q]? = some (.cells #[.int .i64 (xa : Int), .int .i64 (xb : Int)] 36 (0, 0))) := Lib.hid ((hb6.block _ zq).trans T3.out)
            clear hb6 PC d0 d1 T1 T2 T3 zq
            have WC := Lib.hid (T1'.out.write (strN m.1) (by rw [strN_size]; omega))
            rw [bs_strN m.1 ML1.out] at WC
            go_wp2_with fail
            refine WC.out.mono ?_
            rintro e w7 ⟨rfl, hbd7, hkn⟩
            have T3'' : w7.heap[q]? = some (.cells #[.int .i64 (xa : Int), .int .i64 (xb : Int)] 36 (0, 0)) := hkn.same q _ _ _ (fun e => by have := T1'.out.type _ _ _ (by rw [← e]; exact T3'.out); revert this; decide) (by decide) T3'.out
            have d1 : w7.cell? ⟨q, 1, none⟩ = some (.int .i64 (xb : Int)) := cell_of_row w7 q 1 _ _ _ T3''
            have zq := lt_of_block T3''
            have T2'' := Lib.hid (hkn.owns T2'.out (by decide) (fun cs t fz h e => by have := T1'.out.type cs t fz h; rw [e] at this; revert this; decide))
            have T1'' := Lib.hid hbd7
            clear hbd7 hkn WC T1' T2' T3' T3''
            go_wp2_with fail
            go_roundg (n - (j + 1))
            case measure => omega
            case rel => exact ⟨j + 1, xb, true, out1 ++ m.1, by omega, rfl, by go_num, rfl, rfl, Lib.hid (by rw [List.take_succ_eq_append_getElem HJP.out, dcSt_snoc, hst.out, ← HX.out]; unfold dcStep; simp only; rw [← OUT.out, ← HM.out]), T1''.out, T2''.out⟩
          · go_wp2_with fail
            rw [← HQ.out]
            generalize (wr.alloc (.cells #[.int .i64 (xa : Int), .int .i64 (xb : Int)] 36)) = w3 at *
            clear k0 k1 HQ
            refine (trim_any (s.extract fr xa) w3 (by rw [ByteArray.size_extract]; omega)).mono ?_
            rintro e w4 ⟨tt, rfl, ht1, ht2, hb4⟩
            rw [bs_extract] at ht1 ht2
            have HBD4 := Lib.hid (HBD3.out.on hb4); have T24 := Lib.hid (owns_below T23.out hb4)
            have T34 : Hid (w4.heap[q]? = some (.cells #[.int .i64 (xa : Int), .int .i64 (xb : Int)] 36 (0, 0))) := Lib.hid ((hb4.block _ (lt_of_block T33.out)).trans T33.out)
            clear hb4 HBD3 T23 T33
            cases hab : (((bs s).take xa).drop fr).all blank
            · have n0 := str_ne (ht2 hab)
              have HAB := Lib.hid hab
              clear ht1 ht2 hab
              have WB := Lib.hid (HBD4.out.write (s.extract fr xa) (by rw [ByteArray.size_extract]; omega))
              rw [bs_extract] at WB
              go_wp2_with fail
              refine WB.out.mono ?_
              rintro e w5 ⟨rfl, hbd5, hkn⟩
              have T1 := Lib.hid hbd5
              have T3 : Hid (w5.heap[q]? = some (.cells #[.int .i64 (xa : Int), .int .i64 (xb : Int)] 36 (0, 0))) := Lib.hid (hkn.same q _ _ _ (fun e => by have := HBD4.out.type _ _ _ (by rw [← e]; exact T34.out); revert this; decide) (by decide) T34.out)
              have T2 := Lib.hid (hkn.owns T24.out (by decide) (fun cs t fz h e => by have := HBD4.out.type cs t fz h; rw [e] at this; revert this; decide))
              clear hbd5 hkn WB
              obtain ⟨out1, ho1e⟩ : ∃ o, o = out ++ ((bs s).take xa).drop fr := ⟨_, rfl⟩
              rw [← ho1e] at T1
              have ol : out1.length ≤ xa := by rw [ho1e, List.length_append]; have := cut_len (l := bs s) (a := fr) (b := xa) (by rw [bs_length]; omega); unfold cut at this; omega
              have OUT : Hid (out1 = if (true && (cut (bs s) fr xa).all blank) = true then out else out ++ cut (bs s) fr xa) := Lib.hid (by rw [ho1e]; unfold cut; rw [HAB.out]; rfl)
              clear ho1e HBD4 T24 T34
              have d0 : w5.cell? ⟨q, 0, none⟩ = some (.int .i64 (xa : Int)) := cell_of_row w5 q 0 _ _ _ T3.out
              have d1 : w5.cell? ⟨q, 1, none⟩ = some (.int .i64 (xb : Int)) := cell_of_row w5 q 1 _ _ _ T3.out
              have zq := lt_of_block T3.out
              have PC := Lib.hid (parse_any (s.extract xa xb) w5 (by rw [ByteArray.size_extract]; omega) (HE.out.on T1.out.bel))
              unfold ParsePost at PC
              rw [bs_extract] at PC
              obtain ⟨m, hm⟩ : ∃ m, m = parseR (cut (bs s) xa xb) := ⟨_, rfl⟩
              have ml := parse_len (cut_lt (a := xa) (b := xb) (bs_lt s))
              rw [← hm, cut_len (by rw [bs_length]; omega)] at ml
              rw [show ((bs s).take xb).drop xa = cut (bs s) xa xb from rfl, ← hm] at PC
              obtain ⟨ml1, ml2⟩ := ml
              have HM := Lib.hid hm; have ML1 := Lib.hid ml1
              clear hm ml1
              go_wp2_with fail
              refine PC.out.mono ?_
              rintro e w6 ⟨rfl, hb6⟩
              have T1' := Lib.hid (T1.out.on hb6); have T2' := Lib.hid (owns_below T2.out hb6)
              have T3' : Hid (w6.heap[q]? = some (.cells #[.int .i64 (xa : Int), .int .i64 (xb : Int)] 36 (0, 0))) := Lib.hid ((hb6.block _ zq).trans T3.out)
              clear hb6 PC d0 d1 T1 T2 T3 zq
              have WC := Lib.hid (T1'.out.write (strN m.1) (by rw [strN_size]; omega))
              rw [bs_strN m.1 ML1.out] at WC
              go_wp2_with fail
              refine WC.out.mono ?_
              rintro e w7 ⟨rfl, hbd7, hkn⟩
              have T3'' : w7.heap[q]? = some (.cells #[.int .i64 (xa : Int), .int .i64 (xb : Int)] 36 (0, 0)) := hkn.same q _ _ _ (fun e => by have := T1'.out.type _ _ _ (by rw [← e]; exact T3'.out); revert this; decide) (by decide) T3'.out
              have d1 : w7.cell? ⟨q, 1, none⟩ = some (.int .i64 (xb : Int)) := cell_of_row w7 q 1 _ _ _ T3''
              have zq := lt_of_block T3''
              have T2'' := Lib.hid (hkn.owns T2'.out (by decide) (fun cs t fz h e => by have := T1'.out.type cs t fz h; rw [e] at this; revert this; decide))
              have T1'' := Lib.hid hbd7
              clear hbd7 hkn WC T1' T2' T3' T3''
              go_wp2_with fail
              go_roundg (n - (j + 1))
              case measure => omega
              case rel => exact ⟨j + 1, xb, true, out1 ++ m.1, by omega, rfl, by go_num, rfl, rfl, Lib.hid (by rw [List.take_succ_eq_append_getElem HJP.out, dcSt_snoc, hst.out, ← HX.out]; unfold dcStep; simp only; rw [← OUT.out, ← HM.out]), T1''.out, T2''.out⟩
            · obtain rfl := str_emp (ht1 hab)
              have HAB := Lib.hid hab
              clear ht1 ht2 hab
              obtain ⟨out1, ho1e⟩ : ∃ o, o = out := ⟨_, rfl⟩
              have OUT : Hid (out1 = if (true && (cut (bs s) fr xa).all blank) = true then out else out ++ cut (bs s) fr xa) := Lib.hid (by rw [ho1e]; unfold cut; rw [HAB.out]; rfl)
              rw [← ho1e] at HBD4
              have ol : out1.length ≤ xa := by rw [ho1e]; omega
              clear ho1e
              have T1 := HBD4
              have T2 := T24
              have T3 := T34
              clear HBD4 T24 T34
              have d0 : w4.cell? ⟨q, 0, none⟩ = some (.int .i64 (xa : Int)) := cell_of_row w4 q 0 _ _ _ T3.out
              have d1 : w4.cell? ⟨q, 1, none⟩ = some (.int .i64 (xb : Int)) := cell_of_row w4 q 1 _ _ _ T3.out
              have zq := lt_of_block T3.out
              have PC := Lib.hid (parse_any (s.extract xa xb) w4 (by rw [ByteArray.size_extract]; omega) (HE.out.on T1.out.bel))
              unfold ParsePost at PC
              rw [bs_extract] at PC
              obtain ⟨m, hm⟩ : ∃ m, m = parseR (cut (bs s) xa xb) := ⟨_, rfl⟩
              have ml := parse_len (cut_lt (a := xa) (b := xb) (bs_lt s))
              rw [← hm, cut_len (by rw [bs_length]; omega)] at ml
              rw [show ((bs s).take xb).drop xa = cut (bs s) xa xb from rfl, ← hm] at PC
              obtain ⟨ml1, ml2⟩ := ml
              have HM := Lib.hid hm; have ML1 := Lib.hid ml1
              clear hm ml1
              go_wp2_with fail
              refine PC.out.mono ?_
              rintro e w6 ⟨rfl, hb6⟩
              have T1' := Lib.hid (T1.out.on hb6); have T2' := Lib.hid (owns_below T2.out hb6)
              have T3' : Hid (w6.heap[q]? = some (.cells #[.int .i64 (xa : Int), .int .i64 (xb : Int)] 36 (0, 0))) := Lib.hid ((hb6.block _ zq).trans T3.out)
              clear hb6 PC d0 d1 T1 T2 T3 zq
              have WC := Lib.hid (T1'.out.write (strN m.1) (by rw [strN_size]; omega))
              rw [bs_strN m.1 ML1.out] at WC
              go_wp2_with fail
              refine WC.out.mono ?_
              rintro e w7 ⟨rfl, hbd7, hkn⟩
              have T3'' : w7.heap[q]? = some (.cells #[.int .i64 (xa : Int), .int .i64 (xb : Int)] 36 (0, 0)) := hkn.same q _ _ _ (fun e => by have := T1'.out.type _ _ _ (by rw [← e]; exact T3'.out); revert this; decide) (by decide) T3'.out
              have d1 : w7.cell? ⟨q, 1, none⟩ = some (.int .i64 (xb : Int)) := cell_of_row w7 q 1 _ _ _ T3''
              have zq := lt_of_block T3''
              have T2'' := Lib.hid (hkn.owns T2'.out (by decide) (fun cs t fz h e => by have := T1'.out.type cs t fz h; rw [e] at this; revert this; decide))
              have T1'' := Lib.hid hbd7
              clear hbd7 hkn WC T1' T2' T3' T3''
              go_wp2_with fail
              go_roundg (n - (j + 1))
              case measure => omega
              case rel => exact ⟨j + 1, xb, true, out1 ++ m.1, by omega, rfl, by go_num, rfl, rfl, Lib.hid (by rw [List.take_succ_eq_append_getElem HJP.out, dcSt_snoc, hst.out, ← HX.out]; unfold dcStep; simp only; rw [← OUT.out, ← HM.out]), T1''.out, T2''.out⟩
        · obtain rfl : j = n := by omega
          have hfin := hst.out
          rw [HN.out, List.take_length] at hfin
          have WB := Lib.hid (HBD.out.write (s.extract fr s.size) (by rw [ByteArray.size_extract]; omega))
          rw [bs_from] at WB
          have FN : Hid (decT (bs s) = out ++ (bs s).drop fr) := Lib.hid (by rw [HRR.out, hfin])
          clear hfin
          go_wp2_with fail
          refine WB.out.mono ?_
          rintro e w5 ⟨rfl, hbd5, hkn⟩
          rw [← FN.out] at hbd5
          have hdl : (decT (bs s)).length ≤ 100000 := by rw [FN.out, List.length_append, List.length_drop, bs_length]; omega
          have SC := Lib.hid (hbd5.text (by rw [FN.out]; intro x hx; rcases List.mem_append.1 hx with hx | hx; exact HO3.out x hx; exact bs_lt s x (List.mem_of_mem_drop hx)) (by omega))
          clear hbd5 hkn WB
          go_wp2_with fail
          refine SC.out.mono ?_
          rintro e w6 ⟨rfl, hb6⟩
          have B6 := Lib.hid hb6
          clear hb6 SC
          go_wp2_with fail
          go_ret2
          exact ⟨by rw [R.out]; rfl, B6.out⟩
end Go.Proofs.YtbgggeobpiaamaaDoor
