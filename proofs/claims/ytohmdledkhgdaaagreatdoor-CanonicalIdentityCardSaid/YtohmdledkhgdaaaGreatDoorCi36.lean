/- bulletinref14.Check, Print (printed by gen_rchk.py). -/
import Derived.Test.YtohmdledkhgdaaaGreatDoorCi35
namespace Go.Proofs.YtohmdledkhgdaaaGreatDoor
open Go.RowKit
set_option linter.unusedVariables false
set_option maxRecDepth 100000

def zQ (x : List Nat) : Nat := if x = zero32 then 1 else 0
theorem refsF_q (ids : List (List Nat)) : refsF ids = if 20 < ids.length then 9 else listG zQ 7 [] ids := rfl
theorem listG_cons (f : List Nat → Nat) (d : Nat) (pre : List (List Nat)) (x : List Nat) (r : List (List Nat)) : listG f d pre (x :: r) = if f x ≠ 0 then f x else if pre.contains x = true then d else listG f d (pre ++ [x]) r := rfl
theorem guard_ri : Tryz.prog.eqGuardType Tryz.prog.depth 120 = false := by kernel_rfl
theorem bz_ri (w : World) : (Instr.build 120 #[]).run Tryz.prog w = .ok (.agg (idA zero32)) w := by kernel_rfl
set_option maxHeartbeats 4000000 in
theorem rchk_any2 (w : World) (v : Value) (ids : List (List Nat)) (hr : IRow w v ids) (hn : ids.length ≤ 1000000) (hok : ∀ y ∈ ids, IdOk y) :
    Calls Tryz.prog 47 #[v] w fun e w' => e = .returned (.int .i64 ((refsF ids : Nat) : Int)) ∧ Below w.heap.size w w' := by
  obtain ⟨a, cap, rfl, hc, r⟩ := hr
  obtain ⟨n, hnn⟩ : ∃ n, n = ids.length := ⟨_, rfl⟩
  have HN := Lib.hid hnn; have R := Lib.hid r; have OK := Lib.hid hok
  have hcap : n ≤ cap := by rw [hnn]; exact hc
  have RF := Lib.hid (refsF_q ids)
  rw [← hnn] at hn ⊢
  have zok : IdOk zero32 := ⟨by simp [zero32], fun x hx => by simp [zero32] at hx; omega⟩
  have ZOK := Lib.hid zok
  obtain ⟨zs, hzs⟩ : ∃ zs, zs = idA zero32 := ⟨_, rfl⟩
  have BZ : Hid (∀ w, (Instr.build 120 #[]).run Tryz.prog w = .ok (.agg zs) w) := Lib.hid (fun w => by rw [hzs]; exact bz_ri w)
  have HZS := Lib.hid hzs
  obtain ⟨rf, hrf⟩ : ∃ q, q = refsF ids := ⟨_, rfl⟩
  rw [← hrf] at RF
  rw [← hrf]
  clear hnn r hc hok zok hzs hrf
  by_cases h20 : 20 < n
  · have RF2 : Hid (rf = 9) := Lib.hid (by rw [RF.out, if_pos (by rw [← HN.out]; exact h20)])
    go_enter Tryz.func47, Tryz.ntmps47
    go_wp2_with fail
    go_ret
    exact ⟨by rw [RF2.out]; rfl, Below.refl _ _⟩
  · have RF2 : Hid (rf = listG zQ 7 [] ids) := Lib.hid (by rw [RF.out, if_neg (by rw [← HN.out]; exact h20)])
    have h20' : ¬ ((20 : Int) < (n : Int)) := by omega
    clear RF
    go_enter Tryz.func47, Tryz.ntmps47
    go_wp2_with fail
    go_loopg [3] n (fun k i wr => ∃ j : Nat, j ≤ n ∧ k = n - j ∧ i = .int .i64 (j : Int) ∧ Hid (rf = listG zQ 7 (ids.take j) (ids.drop j)) ∧ Hid (Below w.heap.size w wr))
    case atStart => exact ⟨0, by omega, rfl, rfl, RF2, Lib.hid (Below.refl _ _)⟩
    case round =>
      clear RF2
      obtain ⟨j, hj, rfl, rfl, hg, hbw⟩ := hrel
      by_cases hlt : j < n
      · have hl : j < ids.length := by rw [← HN.out]; exact hlt
        obtain ⟨b, off, rfl, hb, hcell⟩ := R.out (fun e => by rw [e] at hl; simp at hl)
        have ok := OK.out _ (List.getElem_mem hl)
        have IR : Hid (∀ wx, Below w.heap.size w wx → IRow wx (.slice (some ⟨b, off, none⟩) j cap) (ids.take j)) := Lib.hid (fun wx hx => by
          refine ⟨some ⟨b, off, none⟩, cap, by rw [List.length_take, Nat.min_eq_left (by omega)], by rw [List.length_take]; omega, fun _ => ⟨b, off, rfl, Nat.lt_of_lt_of_le hb hx.size, fun q hq k u hu => ?_⟩⟩
          rw [List.length_take] at hq
          rw [List.getElem_take] at hu
          exact (hx.cell (p := ⟨b, off + q * 32 + k, none⟩) hb).trans (hcell q (by omega) k u hu))
        have LD : Hid (∀ wx, Below w.heap.size w wx → (loadVar 120 ⟨b, off + j * 32, none⟩).run Tryz.prog wx = .ok (.agg (idA ids[j])) wx) := Lib.hid (fun wx hx =>
          run_loadVar_cells wx b (off + j * 32) 120 _ _ Tryz.underlying120 rfl (by rw [idA_size, ok.len]; exact size_ri) (fun k u hu => (hx.cell (p := ⟨b, off + j * 32 + k, none⟩) hb).trans (hcell j hl k u hu)))
        have EQ : Hid (∀ w, (Op.equal 120 (.agg (idA ids[j])) (.agg zs)).run Tryz.prog w = .ok (decide (ids[j] = zero32)) w) := Lib.hid (fun w => by
          rw [HZS.out]; exact eq_arr Tryz.underlying120 (by kernel_rfl) (by kernel_rfl) w ok.len ok.lt ZOK.out.len ZOK.out.lt)
        have HAS : Hid (∀ wx, Below w.heap.size w wx → Calls Tryz.prog 88 #[.slice (some ⟨b, off, none⟩) j cap, .agg (idA ids[j])] wx fun e w' => e = .returned (.bool ((ids.take j).contains ids[j])) ∧ Below wx.heap.size wx w') := Lib.hid (fun wx hx =>
          rhas_any wx _ (ids.take j) ids[j] (IR.out wx hx) (by rw [List.length_take]; omega) (fun y hy => OK.out y (List.mem_of_mem_take hy)) ok)
        have ST := listG_cons zQ 7 (ids.take j) ids[j] (ids.drop (j + 1))
        rw [← List.drop_eq_getElem_cons hl, ← List.take_succ_eq_append_getElem hl, ← hg.out] at ST
        obtain ⟨y, hy⟩ : ∃ y, y = idA ids[j] := ⟨_, rfl⟩
        obtain ⟨q, hq⟩ : ∃ q, q = decide (ids[j] = zero32) := ⟨_, rfl⟩
        obtain ⟨s, hs⟩ : ∃ s, s = (ids.take j).contains ids[j] := ⟨_, rfl⟩
        rw [← hy] at LD EQ HAS
        rw [← hq] at EQ
        rw [← hs] at HAS ST
        have ZQ : zQ ids[j] = if q = true then 1 else 0 := by
          unfold zQ
          by_cases e : ids[j] = zero32
          · rw [if_pos e, if_pos (by rw [hq]; exact decide_eq_true e)]
          · rw [if_neg e, if_neg (by rw [hq, decide_eq_false e]; decide)]
        rw [ZQ] at ST
        have HST := Lib.hid ST
        have jc : j ≤ cap := by omega
        have LD0 := Lib.hid (LD.out wr hbw.out)
        clear hy hq hs ok hcell hl hb ST ZQ IR
        cases q
        · go_upto_region 8 with (first
            | ((with_reducible refine wpList_load 120 rfl _ rfl ?_); refine ⟨_, _, rfl, LD0.out, ?_⟩)
            | ((with_reducible refine wpList_build0 120 rfl rfl ?_); refine ⟨_, BZ.out _, ?_⟩)
            | ((with_reducible refine wpList_eql 120 rfl _ _ rfl guard_ri ?_); refine ⟨_, _, _, rfl, rfl, EQ.out _, ?_⟩))
          refine wp_region_held (S := fun wx => Below w.heap.size w wx) (by kernel_rfl) ?_
          change wpAnyH _ _ _ _ _ _ _ _ wr.drew
          have hB : (fun wx : World => Below w.heap.size w wx) wr.drew := hbw.out.drew
          refine wpAnyH_take (i := 0) (v := .slice (some ⟨b, off, none⟩) n cap) rfl (by kernel_rfl) (by kernel_rfl) (by kernel_rfl) (fun _ _ _ h => h) (Or.inl ⟨by kernel_rfl, fun w' hw' => by go_simp⟩) hB ?_
          refine wpAnyH_take (i := 1) (v := .int .i64 (j : Int)) rfl (by kernel_rfl) (by kernel_rfl) (by kernel_rfl) (fun _ _ _ h => h) (Or.inl ⟨by kernel_rfl, fun w' hw' => by go_simp⟩) hB ?_
          refine wpAnyH_take (i := 2) (v := .slice (some ⟨b, off, none⟩) j cap) rfl (by kernel_rfl) (by kernel_rfl) (by kernel_rfl) (fun _ _ _ h => h) (Or.inl ⟨by kernel_rfl, fun w' hw' => by go_simp⟩) hB ?_
          refine wpAnyH_take (i := 3) (v := .slice (some ⟨b, off, none⟩) n cap) rfl (by kernel_rfl) (by kernel_rfl) (by kernel_rfl) (fun _ _ _ h => h) (Or.inl ⟨by kernel_rfl, fun w' hw' => by go_simp⟩) hB ?_
          refine wpAnyH_take (i := 4) (v := .int .i64 (j : Int)) rfl (by kernel_rfl) (by kernel_rfl) (by kernel_rfl) (fun _ _ _ h => h) (Or.inl ⟨by kernel_rfl, fun w' hw' => by go_simp⟩) hB ?_
          refine wpAnyH_take (i := 5) (v := .pointer (some ⟨b, off + j * 32, none⟩)) rfl (by kernel_rfl) (by kernel_rfl) (by kernel_rfl) (fun _ _ _ h => h) (Or.inl ⟨by kernel_rfl, fun w' hw' => by go_simp⟩) hB ?_
          refine wpAnyH_take (i := 6) (v := .agg y) rfl (by kernel_rfl) (by kernel_rfl) (by kernel_rfl) (fun _ _ _ h => h) (Or.inl ⟨by kernel_rfl, fun w' hw' => exec_load (ty := 120) (x := .tmp 24) (ad := ⟨b, off + j * 32, none⟩) rfl (by kernel_rfl) (LD.out w' hw')⟩) hB ?_
          refine anyH_one (i := 7) (by kernel_rfl) ?_
          refine any_call (f := 88) (args := #[.slice (some ⟨b, off, none⟩) j cap, .agg y]) rfl rfl (by kernel_rfl) ?_
          refine (HAS.out wr.drew hbw.out.drew).mono ?_
          rintro e y1 ⟨rfl, hb1⟩
          have B1 := Lib.hid (hbw.out.drew.trans (hb1.mono hbw.out.drew.size))
          refine ⟨_, rfl, B1.out, ?_⟩
          refine wpAnyH_done (by kernel_rfl) ?_ _
          clear hB hb1 LD LD0 EQ HAS hbw
          cases s
          · have N : Hid (rf = listG zQ 7 (ids.take (j + 1)) (ids.drop (j + 1))) := Lib.hid (by have := HST.out; rw [if_neg (by decide), if_neg (by decide)] at this; exact this)
            clear hg HST
            go_simp
            refine ‹∀ (a : Act) (w_1 : World), _ → _› _ _ ?_
            go_wp2_with fail
            go_roundg (n - (j + 1))
            case measure => omega
            case rel => exact ⟨j + 1, by omega, rfl, by go_num, N, B1⟩
          · have N : Hid (rf = 7) := Lib.hid (by have := HST.out; rw [if_neg (by decide), if_pos rfl] at this; exact this)
            clear hg HST
            go_simp
            refine ‹∀ (a : Act) (w_1 : World), _ → _› _ _ ?_
            go_wp2_with fail
            go_ret
            exact ⟨by rw [N.out]; rfl, B1.out⟩
        · have N : Hid (rf = 1) := Lib.hid (by have := HST.out; rw [if_pos (by decide)] at this; exact this)
          clear hg HST HAS LD
          go_wp2_with (first
            | ((with_reducible refine wpList_load 120 rfl _ rfl ?_); refine ⟨_, _, rfl, LD0.out, ?_⟩)
            | ((with_reducible refine wpList_build0 120 rfl rfl ?_); refine ⟨_, BZ.out _, ?_⟩)
            | ((with_reducible refine wpList_eql 120 rfl _ _ rfl guard_ri ?_); refine ⟨_, _, _, rfl, rfl, EQ.out _, ?_⟩))
          go_ret
          exact ⟨by rw [N.out]; rfl, hbw.out⟩
      · obtain rfl : j = n := by omega
        have N : Hid (rf = 0) := Lib.hid (by rw [hg.out, List.drop_of_length_le (by rw [HN.out]; exact Nat.le_refl _)]; rfl)
        clear hg
        go_wp2_with fail
        go_ret
        exact ⟨by rw [N.out]; rfl, hbw.out⟩
set_option maxHeartbeats 2000000 in
theorem rpr_any (w : World) (v : Value) (ids : List (List Nat)) (hr : IRow w v ids) (hn : ids.length ≤ 1000) (hok : ∀ y ∈ ids, IdOk y) (h0 : refsF ids = 0) :
    Calls Tryz.prog 30 #[v] w fun e w' => e = .returned (.tuple #[.string (joinS 32 (mids ids)), .int .i64 0]) ∧ Below w.heap.size w w' := by
  have CK := Lib.hid (rchk_any2 w v ids hr (by omega) hok)
  rw [h0] at CK
  obtain ⟨a, cap, rfl, hc, r⟩ := hr
  obtain ⟨n, hnn⟩ : ∃ n, n = ids.length := ⟨_, rfl⟩
  have HN := Lib.hid hnn; have R := Lib.hid r; have OK := Lib.hid hok
  rw [← hnn] at hn CK ⊢
  have ML : Hid (∀ g ∈ mids ids, g.size = 71) := Lib.hid (fun g hg => by
    obtain ⟨x, hx, rfl⟩ := List.mem_map.1 hg
    rw [strN_size, midF_len (hok x hx)])
  clear hnn r hc hok h0
  go_enter Tryz.func30, Tryz.ntmps30
  go_wp2_with fail
  refine CK.out.mono ?_
  rintro e w1 ⟨rfl, hb1⟩
  have B1 := Lib.hid hb1
  clear hb1 CK
  have hz : ((((0 : Nat) : Int)) != 0) = false := rfl
  go_wp2_with fail
  go_loopg [5, 6] n (fun k s i wr => ∃ (j : Nat) (t : ByteArray), j ≤ n ∧ k = n - j ∧ i = .int .i64 (j : Int) ∧ s = .string t ∧ Hid (t = joinS 32 ((mids ids).take j)) ∧ t.size ≤ 72 * j ∧ Hid (Below w.heap.size w wr))
  case atStart => exact ⟨0, ⟨#[]⟩, by omega, rfl, rfl, rfl, Lib.hid rfl, Nat.le_refl _, B1⟩
  case round =>
    clear B1
    obtain ⟨j, t, hj, rfl, rfl, rfl, ht, zt, hbw⟩ := hrel
    by_cases hlt : j < n
    · have hl : j < ids.length := by rw [← HN.out]; exact hlt
      have hlm : j < (mids ids).length := by unfold mids; rw [List.length_map]; exact hl
      obtain ⟨b, off, rfl, hb, hcell⟩ := R.out (fun e => by rw [e] at hl; simp at hl)
      have ok := OK.out _ (List.getElem_mem hl)
      have LD : Hid ((loadVar 120 ⟨b, off + j * 32, none⟩).run Tryz.prog wr = .ok (.agg (idA ids[j])) wr) := Lib.hid
        (run_loadVar_cells wr b (off + j * 32) 120 _ _ Tryz.underlying120 rfl (by rw [idA_size, ok.len]; exact size_ri) (fun k u hu => (hbw.out.cell (p := ⟨b, off + j * 32 + k, none⟩) hb).trans (hcell j hl k u hu)))
      have TX := Lib.hid (rtext_any wr ok)
      have sn := joinS_snoc 32 ((mids ids).take j) (mids ids)[j]
      rw [← List.take_succ_eq_append_getElem hlm, ← ht.out] at sn
      have gm : (mids ids)[j] = strN (midF ids[j]) := by simp [mids]
      rw [gm] at sn
      have zg : (strN (midF ids[j])).size = 71 := by rw [strN_size, midF_len ok]
      obtain ⟨g, hgg⟩ : ∃ g, g = strN (midF ids[j]) := ⟨_, rfl⟩
      obtain ⟨y, hy⟩ : ∃ y, y = idA ids[j] := ⟨_, rfl⟩
      rw [← hgg] at TX sn zg
      rw [← hy] at LD TX
      by_cases h0 : j = 0
      · subst h0
        have LD' : Hid ((loadVar 120 ⟨b, off, none⟩).run Tryz.prog wr = .ok (.agg y) wr) := Lib.hid (by have := LD.out; simpa using this)
        have N : Hid (t ++ g = joinS 32 ((mids ids).take (0 + 1))) := Lib.hid (by
          rw [sn, if_pos (by simp), ht.out]
          apply ByteArray.ext
          simp [joinS, joinF, strN])
        have zz : (t ++ g).size ≤ 72 * (0 + 1) := by rw [ByteArray.size_append]; omega
        clear sn gm hgg hy hcell hl hlm ok hb ht
        go_wp2_with ((with_reducible refine wpList_load 120 rfl _ rfl ?_); first | (refine ⟨_, _, rfl, LD'.out, ?_⟩) | (refine ⟨_, _, rfl, LD.out, ?_⟩))
        refine TX.out.mono ?_
        rintro e w2 ⟨rfl, hb2⟩
        have B2 := Lib.hid (hbw.out.trans (hb2.mono hbw.out.size))
        clear hb2 TX LD LD'
        go_wp2_with fail
        go_roundg (n - (0 + 1))
        case measure => omega
        case rel => exact ⟨1, t ++ g, by omega, rfl, by go_num, rfl, N, zz, B2⟩
      · have hne : (mids ids).take j ≠ [] := fun e => by
          have h2 : ((mids ids).take j).length = 0 := by rw [e]; rfl
          rw [List.length_take] at h2
          omega
        rw [if_neg hne] at sn
        have N : Hid (t ++ (⟨#[32]⟩ : ByteArray) ++ g = joinS 32 ((mids ids).take (j + 1))) := Lib.hid sn.symm
        have z1 : (t ++ (⟨#[32]⟩ : ByteArray)).size ≤ 72 * j + 1 := by rw [ByteArray.size_append]; show t.size + 1 ≤ _; omega
        have z2 : (t ++ (⟨#[32]⟩ : ByteArray) ++ g).size ≤ 72 * (j + 1) := by rw [ByteArray.size_append]; omega
        have hp : (0 : Int) < (j : Int) := by omega
        clear sn gm hgg hy hcell hl hlm ok hb ht hne
        go_wp2_with ((with_reducible refine wpList_load 120 rfl _ rfl ?_); refine ⟨_, _, rfl, LD.out, ?_⟩)
        refine TX.out.mono ?_
        rintro e w2 ⟨rfl, hb2⟩
        have B2 := Lib.hid (hbw.out.trans (hb2.mono hbw.out.size))
        clear hb2 TX LD
        go_wp2_with fail
        go_roundg (n - (j + 1))
        case measure => omega
        case rel => exact ⟨j + 1, _, by omega, rfl, by go_num, rfl, N, z2, B2⟩
    · obtain rfl : j = n := by omega
      have N : Hid (t = joinS 32 (mids ids)) := Lib.hid (by rw [ht.out, List.take_of_length_le (by unfold mids; rw [List.length_map, HN.out]; exact Nat.le_refl _)])
      clear ht
      go_wp2_with fail
      go_ret2
      exact ⟨by rw [← N.out]; rfl, hbw.out⟩
end Go.Proofs.YtohmdledkhgdaaaGreatDoor
