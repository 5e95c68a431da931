/- Walk of the statement TransferReceiver. -/
import Derived.Test.YtndjcaljkpkgfaaLawCl
namespace Go.Proofs.Ytndjcaljkpkgfaa
open Go.RowKit Go.Maps
set_option linter.unusedVariables false

theorem exec_alloc {P : Program} {o : Oper} {a : Act} {w : World} {t : TypeId} {zs : Array Value} (ho : o.op = .alloc t) (hz : (zeroValue t).run P w = .ok (.agg zs) w) : (execOp a.eval o).run P w = .ok (.value (.pointer (some ⟨w.heap.size, 0, none⟩))) (w.alloc (.cells zs t)) := by
  unfold execOp
  simp only [ho, Instr.alloc, Sem.run_bind, Sem.run_pure, Result.andThen_ok, hz, newVar, newRow, Value.cells]
  rfl
theorem hearF_err (l : List Nat) (n : Nat) (xs : List Nat) (d : Bool) (vb f : Int) (m : List Nat) (t : ByteArray) (h : (hearF l n xs d vb f m t).2.2 ≠ 0) : (hearF l n xs d vb f m t).1 = xs ∧ (hearF l n xs d vb f m t).2.1 = d := by
  unfold hearF at h ⊢
  repeat (first | exact ⟨rfl, rfl⟩ | (exfalso; exact h rfl) | split at h <;> rename_i hc <;> (first | rw [if_pos hc] | rw [if_neg hc]))

set_option maxRecDepth 100000 in
set_option maxHeartbeats 1000000 in
theorem law_rcv_long (w : World) (id : List Nat) (n : Int) (a : Option Addr) (m cap : Nat) (hm : m ≤ maxLen) (hl : 30 < m) :
    Calls Try.prog 5 #[.agg (idA id), .int .i64 n, .slice a m cap] w fun e w' => e = .returned (.bool true) ∧ Below w.heap.size w w' := by
  unfold maxLen at hm
  have b0 : Below w.heap.size w (w.alloc (.cells (idA id) 23)) := (Below.refl _ _).alloc (Nat.le_refl _) _
  have K1 := Lib.hid (known_any (w.alloc (.cells (idA id) 23)))
  have B0 := Lib.hid b0
  clear b0
  go_enter Try.func5, Try.ntmps5
  go_wp2_with fail
  refine K1.out.mono ?_
  rintro e w1 ⟨rfl, hb1⟩
  have B1 : Hid (Below w.heap.size w w1) := Lib.hid (B0.out.trans (hb1.mono B0.out.size))
  clear hb1
  go_wp2_with fail
  refine (known_any w1).mono ?_
  rintro e w2 ⟨rfl, hb2⟩
  have B2 : Hid (Below w.heap.size w w2) := Lib.hid (B1.out.trans (hb2.mono B1.out.size))
  clear hb2
  go_wp2_with fail
  go_ret
  exact ⟨rfl, B2.out⟩

set_option maxRecDepth 100000 in
set_option maxHeartbeats 1000000 in
theorem law_rcv_range (w : World) {id : List Nat} (hid : IdOk id) (n : Int) (a : Option Addr) (m cap : Nat) (hm : m ≤ 30) (h0 : -9223372036854775808 ≤ n) (h1 : n ≤ 9223372036854775807) (hl : n < 0 ∨ 65536 < n) :
    Calls Try.prog 5 #[.agg (idA id), .int .i64 n, .slice a m cap] w fun e w' => e = .returned (.bool true) ∧ Below w.heap.size w w' := by
  have b0 : Below w.heap.size w (w.alloc (.cells (idA id) 23)) := (Below.refl _ _).alloc (Nat.le_refl _) _
  have K1 := Lib.hid (known_any (w.alloc (.cells (idA id) 23)))
  have B0 := Lib.hid b0
  have I0 : Hid ((w.alloc (.cells (idA id) 23)).heap[w.heap.size]? = some (.cells (idA id) 23 (0, 0))) := Lib.hid (heap_alloc_new w _)
  have HL := Lib.hid hl
  clear b0 hl
  have hc : n < 0 ∨ (¬ n < 0 ∧ 65536 < n) := by have := HL.out; omega
  rcases hc with q | ⟨q1, q2⟩
  all_goals
    go_enter Try.func5, Try.ntmps5
    go_wp2_with fail
    refine K1.out.mono ?_
    rintro e w1 ⟨rfl, hb1⟩
    have B1 : Hid (Below w.heap.size w w1) := Lib.hid (B0.out.trans (hb1.mono B0.out.size))
    have I1 : Hid (w1.heap[w.heap.size]? = some (.cells (idA id) 23 (0, 0))) := Lib.hid ((hb1.block _ (lt_of_block I0.out)).trans I0.out)
    clear hb1 K1 I0 B0
    go_wp2_with ((with_reducible refine wpList_load 23 rfl _ rfl ?_); refine ⟨_, _, rfl, load_id _ w.heap.size 0 _ _ _ hid.len I1.out (id_self id), ?_⟩)
    refine (newrcv_no w1 id n HL.out).mono ?_
    rintro e w2 ⟨rfl, hw2⟩
    have B2 : Hid (Below w.heap.size w w2) := Lib.hid (by rw [hw2]; exact B1.out.alloc B1.out.size _)
    clear hw2
    go_wp2_with fail
    go_ret
    exact ⟨by simp, B2.out⟩

set_option maxRecDepth 100000 in
set_option maxHeartbeats 8000000 in
theorem law_rcv (w : World) {id : List Nat} (hid : IdOk id) (n : Nat) (hn : n ≤ 65536) (a : Option Addr) (cap : Nat) (L : List Cm) (hm30 : L.length ≤ 30) (hr : RdC w a L) :
    Calls Try.prog 5 #[.agg (idA id), .int .i64 n, .slice a L.length cap] w fun e w' => e = .returned (.bool true) ∧ Below w.heap.size w w' := by
  obtain ⟨m, hnn⟩ : ∃ m, m = L.length := ⟨_, rfl⟩
  rw [← hnn] at hm30
  rw [← hnn]
  have b0 : Below w.heap.size w (w.alloc (.cells (idA id) 23)) := (Below.refl _ _).alloc (Nat.le_refl _) _
  have K1 := Lib.hid (known_any (w.alloc (.cells (idA id) 23)))
  have B0 := Lib.hid b0
  have I0 : Hid ((w.alloc (.cells (idA id) 23)).heap[w.heap.size]? = some (.cells (idA id) 23 (0, 0))) := Lib.hid (heap_alloc_new w _)
  have RS := Lib.hid hr; have HN := Lib.hid hnn
  clear b0 hr hnn
  go_enter Try.func5, Try.ntmps5
  go_wp2_with fail
  refine K1.out.mono ?_
  rintro e w1 ⟨rfl, hb1⟩
  have B1 : Hid (Below w.heap.size w w1) := Lib.hid (B0.out.trans (hb1.mono B0.out.size))
  have I1 : Hid (w1.heap[w.heap.size]? = some (.cells (idA id) 23 (0, 0))) := Lib.hid ((hb1.block _ (lt_of_block I0.out)).trans I0.out)
  clear hb1 K1 I0 B0
  go_wp2_with ((with_reducible refine wpList_load 23 rfl _ rfl ?_); refine ⟨_, _, rfl, load_id _ w.heap.size 0 _ _ _ hid.len I1.out (id_self id), ?_⟩)
  refine (newrcv_any w1 hid (n : Int) (by omega) (by omega)).mono ?_
  rintro e w2 ⟨rfl, hw2⟩
  have B2 : Hid (Below w.heap.size w w2) := Lib.hid (by
    have := B1.out.size
    rw [hw2]; exact (B1.out.alloc this _).alloc (by simp; omega) _)
  have R2 : Hid (Rc w2 w.heap.size (w1.heap.size + 1) id n [] false (.slice none 0 0)) := Lib.hid (by rw [hw2]; exact rc_new2 w1 _ hid.len _ _)
  have I2 : Hid (w2.heap[w.heap.size]? = some (.cells (idA id) 23 (0, 0))) := Lib.hid (by rw [hw2]; exact alloc_block (alloc_block I1.out))
  obtain ⟨b, hb⟩ : ∃ b, b = w1.heap.size + 1 := ⟨_, rfl⟩
  have hlb : w.heap.size ≤ b := by have := B1.out.size; omega
  have hlb1 : w.heap.size ≠ b := by have := B1.out.size; omega
  rw [← hb] at R2
  rw [← hb]
  clear hw2 hb I1 B1
  have ST := Lib.hid (store_at (P := Try.prog) w2 _ rfl 41 zc41 (rC id n ⟨#[]⟩ false) (size41' hid.len) (by rw [r_size hid.len]; rfl) (one_r _ _ _ _))
  have R3 := Lib.hid (R2.out.below (w' := w2.alloc (.cells (rC id n ⟨#[]⟩ false) 41)) ((Below.refl _ _).alloc (Nat.le_refl _) _))
  have I3 : Hid ((w2.alloc (.cells (rC id n ⟨#[]⟩ false) 41)).heap[w.heap.size]? = some (.cells (idA id) 23 (0, 0))) := Lib.hid (alloc_block I2.out)
  have G3 : Hid ((w2.alloc (.cells (rC id n ⟨#[]⟩ false) 41)).heap[w2.heap.size]? = some (.cells (rC id n ⟨#[]⟩ false) 41 (0, 0))) := Lib.hid (heap_alloc_new w2 _)
  have B3 : Hid (Below w.heap.size w (w2.alloc (.cells (rC id n ⟨#[]⟩ false) 41))) := Lib.hid (B2.out.alloc B2.out.size _)
  go_wp2_with (first
    | ((with_reducible refine wpList_load 23 rfl _ rfl ?_); refine ⟨_, _, rfl, load_id _ w.heap.size 0 _ _ _ hid.len I2.out (id_self id), ?_⟩)
    | ((with_reducible refine wpList_build2 41 rfl _ _ rfl ?_); refine ⟨_, _, _, rfl, rfl, build_r _ hid.len n, ?_⟩)
    | ((with_reducible refine wpList_store 41 rfl _ _ rfl ?_); refine ⟨_, _, _, rfl, rfl, ST.out, ?_⟩)
    | ((with_reducible refine wpList_loadG 41 _ rfl (by kernel_rfl) ?_); refine ⟨_, _, rfl, load_r _ _ _ _ hid.len G3.out, ?_⟩))
  generalize hw3 : w2.alloc (.cells (rC id n ⟨#[]⟩ false) 41) = w3 at *
  obtain ⟨g, hg⟩ : ∃ g, g = w2.heap.size := ⟨_, rfl⟩
  have hgb : g ≠ b := by have := R2.out.lt; omega
  have hlg : w.heap.size < g := by have := lt_of_block I2.out; omega
  rw [← hg] at G3
  rw [← hg]
  clear hw3 hg ST R2 I2 B2
  have CS : Calls Try.prog 17 #[.pointer (some ⟨b, 0, none⟩), .agg (rC id n ⟨#[]⟩ false)] w3 fun e w' => e = .returned (.bool true) ∧ Rc w' w.heap.size b id n [] false (.slice none 0 0) ∧ FrB b (.slice none 0 0) w3 w' := same_any w3 R3.out hid.len hn (by simp) (by simp)
  have HCS := Lib.hid CS
  clear CS
  refine HCS.out.mono ?_
  rintro e w4 ⟨rfl, r4, f4⟩
  have R4 := Lib.hid r4
  have G4 := Lib.hid (f4.keep R3.out G3.out (by decide) hgb)
  have I4 := Lib.hid (f4.keep R3.out I3.out (by decide) hlb1)
  have B4 := Lib.hid (f4.law R3.out B3.out hlb)
  clear r4 f4 HCS R3 G3 I3 B3
  go_wp2_with fail
  go_loopg [10] m (fun k i wr => ClR1 w b g id n m k i wr)
  case atStart => exact ⟨0, [], false, _, by omega, by omega, rfl, R4.out, G4.out, I4.out, by simp, by simp, B4.out⟩
  case round =>
    obtain ⟨j, xs, d, v, hj, rfl, rfl, hR, hG, hI, hle, h256, hbel⟩ := hrel
    clear R4 G4 I4 B4
    have HR := Lib.hid hR; have HG := Lib.hid hG; have HI := Lib.hid hI; have HLE := Lib.hid hle; have H256 := Lib.hid h256; have BE := Lib.hid hbel
    have sr := hbel.size
    clear hR hG hI hle h256 hbel
    by_cases hlt : j < m
    · have hjl : j < L.length := by rw [← HN.out]; exact hlt
      obtain ⟨b0, off, rfl, hb0, hcell⟩ := RS.out.at_ (by omega)
      have hok := RS.out.each L[j] (List.getElem_mem hjl)
      have hcw : ∀ k u, L[j].cells[k]? = some u → w.cell? ⟨b0, off + j * 35 + k, none⟩ = some u := fun k u hu => hcell j hjl k u hu
      have hcj : ∀ k u, L[j].cells[k]? = some u → wr.cell? ⟨b0, off + j * 35 + k, none⟩ = some u := fun k u hu => (BE.out.cell (by exact hb0)).trans (hcw k u hu)
      clear hcell
      generalize L[j] = c at *
      obtain ⟨vb, f, mm, t⟩ := c
      have hmm := hok.id
      simp only at hmm
      have c34 : wr.cell? ⟨b0, off + j * 35 + 34, none⟩ = some (.string t) := hcj 34 _ (rcm_at hmm.len vb f t).2.2
      have ht47 := hok.t
      simp only at ht47
      have HCJ := Lib.hid hcw
      clear hcj hcw hok
      by_cases h300 : 300 < t.size
      · go_wp2_with fail
        go_ret
        exact ⟨rfl, BE.out⟩
      obtain ⟨ys, dd, code, hh⟩ : ∃ ys dd code, hearF id n xs d vb f mm t = (ys, dd, code) := ⟨_, _, _, rfl⟩
      have HH := Lib.hid hh
      clear hh
      -- the commands in every later world
      have LR : Hid (∀ wx, Below w.heap.size w wx → (loadVar 31 ⟨b0, off + j * 35, none⟩).run Try.prog wx = .ok (.agg (rcmC vb f mm t)) wx) := Lib.hid fun wx hb => load_rcm wx b0 (off + j * 35) hmm.len (fun k u hu => (hb.cell (by exact hb0)).trans (HCJ.out k u hu))
      go_wp2_with fail
      go_cut [11, 12] (fun p c wx => ∃ g', p = .pointer (some ⟨g', 0, none⟩) ∧ c = .int .i64 code ∧ wx.heap[g']? = some (.cells (rC id n (strN ys) dd) 41 (0, 0)) ∧ wr.heap.size ≤ g' ∧ Below wr.heap.size wr wx)
      case first =>
        refine wp_region_any (by kernel_rfl) ?_
        change wpAny _ _ _ _ _ _ _ wr.drew
        have bd : Below wr.heap.size wr wr.drew := (Below.refl _ _).drew
        have hws : wr.heap.size ≤ wr.drew.heap.size := Nat.le_refl _
        have LF : Hid (∀ wx, Below wr.drew.heap.size wr.drew wx → (loadVar 31 ⟨b0, off + j * 35, none⟩).run Try.prog wx = .ok (.agg (rcmC vb f mm t)) wx) := Lib.hid fun wx hb => LR.out wx (BE.out.trans ((bd.trans hb).mono sr))
        have GF : Hid (∀ wx, Below wr.drew.heap.size wr.drew wx → wx.heap[g]? = some (.cells (rC id n (strN xs) d) 41 (0, 0))) := Lib.hid fun wx hb => ((bd.trans hb).block g (lt_of_block HG.out)).trans HG.out
        have BR : Hid (∀ wx q cs, Below wr.drew.heap.size wr.drew wx → wr.heap.size ≤ q → Below wr.heap.size wr (wx.setRow q cs)) := Lib.hid fun wx q cs hb hq => below_setRow (w0 := wr) (bd.trans hb) hq cs
        generalize wr.drew = wd at *
        clear bd HR HG HI BE HCJ c34 LR
        refine any_take (i := 1) (v := .slice (some ⟨b0, off, none⟩) m cap) rfl (by kernel_rfl) (by kernel_rfl) (by kernel_rfl) (by kernel_rfl) (fun _ _ _ h => h) (fun w => exec_moveV rfl rfl) ?_
        refine any_take (i := 2) (v := .int .i64 (j : Int)) rfl (by kernel_rfl) (by kernel_rfl) (by kernel_rfl) (by kernel_rfl) (fun _ _ _ h => h) (fun w => exec_moveV rfl rfl) ?_
        refine any_take (i := 3) (v := .pointer (some ⟨b0, off + j * 35, none⟩)) rfl (by kernel_rfl) (by kernel_rfl) (by kernel_rfl) (by kernel_rfl) (fun _ _ _ h => h) (fun w => by go_simp) ?_
        have BX : Hid (Below wd.heap.size wd wd) := Lib.hid (Below.refl _ _)
        have BY : Hid (Below wd.heap.size wd (wd.alloc (.cells zc41 41))) := Lib.hid ((Below.refl _ _).alloc (Nat.le_refl _) _)
        have AY : Hid ((wd.alloc (.cells zc41 41)).heap[wd.heap.size]? = some (.cells zc41 41 (0, 0))) := Lib.hid (heap_alloc_new wd _)
        refine wpAny_ready (rs := [0, 4, 9]) (by kernel_rfl) (by simp) (AllReady.cons rfl (fun K hK => ?c0) (AllReady.cons rfl (fun K hK => ?c4) (AllReady.cons rfl (fun K hK => ?c9) AllReady.nil)))
        case' c0 =>
          refine step_ok (by kernel_rfl) (exec_load rfl rfl (load_r _ _ _ _ hid.len (GF.out _ BX.out))) ?_
          refine hK _ _ ?_
          clear hK K
          refine wpAny_ready (rs := [4, 9]) (by kernel_rfl) (by simp) (AllReady.cons rfl (fun K hK => ?pa) (AllReady.cons rfl (fun K hK => ?pb) AllReady.nil))
          case' pa =>
            refine step_ok (by kernel_rfl) (exec_load rfl rfl (LF.out _ BX.out)) ?_
            refine hK _ _ ?_
            clear hK K
            refine wpAny_ready (rs := [5, 9]) (by kernel_rfl) (by simp) (AllReady.cons rfl (fun K hK => ?px) (AllReady.cons rfl (fun K hK => ?py) AllReady.nil))
            case' px =>
              go_simp
              refine (rhear_any _ hid n hn xs d vb f hmm t HLE.out (by omega)).mono ?_
              rintro e w5 ⟨rfl, hb5⟩
              have BC := Lib.hid (BX.out.trans (hb5.mono BX.out.size))
              clear hb5
              refine hK _ _ ?_
              clear hK K
              rw [HH.out]
              simp only []
              refine any_take (i := 6) (v := .tuple #[.agg (rC id n (strN ys) dd), .int .i64 code]) rfl (by kernel_rfl) (by kernel_rfl) (by kernel_rfl) (by kernel_rfl) (fun _ _ _ h => h) (fun w => exec_moveV rfl rfl) ?_
              refine any_take (i := 7) (v := .agg (rC id n (strN ys) dd)) rfl (by kernel_rfl) (by kernel_rfl) (by kernel_rfl) (by kernel_rfl) (fun _ _ _ h => h) (fun w => by go_simp) ?_
              refine any_take (i := 8) (v := .int .i64 code) rfl (by kernel_rfl) (by kernel_rfl) (by kernel_rfl) (by kernel_rfl) (fun _ _ _ h => h) (fun w => by go_simp) ?_
              refine any_new (i := 9) (by kernel_rfl) rfl (by kernel_rfl) (exec_alloc rfl (zero41 _)) ?_
              have AX := Lib.hid (heap_alloc_new w5 (.cells zc41 41))
              have BC2 := Lib.hid (BC.out.alloc BC.out.size (.cells zc41 41))
              have s5 := BC.out.size
              refine any_skip (i := 10) (by kernel_rfl) rfl (by kernel_rfl) (exec_store rfl rfl rfl (run_storeVar_row _ _ _ _ _ _ AX.out (size41' hid.len) (by rw [r_size hid.len]; rfl) (one_r _ _ _ _))) ?_
              refine wpAny_ready (rs := [11]) (by kernel_rfl) (by simp) ?_
              refine AllReady.cons rfl (fun K hK => ?_) AllReady.nil
              go_simp
              refine hK _ _ ?_
              clear hK K
              refine wpAny_done (by kernel_rfl) ?_ _
              go_wp2_with fail
              go_meet
              case rel => exact ⟨w5.heap.size, rfl, rfl, setRow_heap _ _ _ _ _ _ AX.out, by omega, BR.out _ _ _ BC2.out (by omega)⟩
            case' py =>
              refine step_ok (by kernel_rfl) (exec_alloc rfl (zero41 _)) ?_
              refine hK _ _ ?_
              clear hK K
              refine wpAny_ready (rs := [5]) (by kernel_rfl) (by simp) (AllReady.cons rfl (fun K hK => ?_) AllReady.nil)
              go_simp
              refine (rhear_any _ hid n hn xs d vb f hmm t HLE.out (by omega)).mono ?_
              rintro e w5 ⟨rfl, hb5⟩
              have BC := Lib.hid (BY.out.trans (hb5.mono BY.out.size))
              have AX := Lib.hid ((hb5.block _ (lt_of_block AY.out)).trans AY.out)
              clear hb5
              refine hK _ _ ?_
              clear hK K
              rw [HH.out]
              simp only []
              refine any_take (i := 6) (v := .tuple #[.agg (rC id n (strN ys) dd), .int .i64 code]) rfl (by kernel_rfl) (by kernel_rfl) (by kernel_rfl) (by kernel_rfl) (fun _ _ _ h => h) (fun w => exec_moveV rfl rfl) ?_
              refine any_take (i := 7) (v := .agg (rC id n (strN ys) dd)) rfl (by kernel_rfl) (by kernel_rfl) (by kernel_rfl) (by kernel_rfl) (fun _ _ _ h => h) (fun w => by go_simp) ?_
              refine any_take (i := 8) (v := .int .i64 code) rfl (by kernel_rfl) (by kernel_rfl) (by kernel_rfl) (by kernel_rfl) (fun _ _ _ h => h) (fun w => by go_simp) ?_
              refine any_skip (i := 10) (by kernel_rfl) rfl (by kernel_rfl) (exec_store rfl rfl rfl (run_storeVar_row _ _ _ _ _ _ AX.out (size41' hid.len) (by rw [r_size hid.len]; rfl) (one_r _ _ _ _))) ?_
              refine wpAny_ready (rs := [11]) (by kernel_rfl) (by simp) ?_
              refine AllReady.cons rfl (fun K hK => ?_) AllReady.nil
              go_simp
              refine hK _ _ ?_
              clear hK K
              refine wpAny_done (by kernel_rfl) ?_ _
              go_wp2_with fail
              go_meet
              case rel => exact ⟨wd.heap.size, rfl, rfl, setRow_heap _ _ _ _ _ _ AX.out, by omega, BR.out _ _ _ BC.out (by omega)⟩
          case' pb =>
            refine step_ok (by kernel_rfl) (exec_alloc rfl (zero41 _)) ?_
            refine hK _ _ ?_
            clear hK K
            refine any_step (i := 4) (by kernel_rfl) rfl (by kernel_rfl) (exec_load rfl rfl (LF.out _ BY.out)) ?_
            refine wpAny_ready (rs := [5]) (by kernel_rfl) (by simp) (AllReady.cons rfl (fun K hK => ?_) AllReady.nil)
            go_simp
            refine (rhear_any _ hid n hn xs d vb f hmm t HLE.out (by omega)).mono ?_
            rintro e w5 ⟨rfl, hb5⟩
            have BC := Lib.hid (BY.out.trans (hb5.mono BY.out.size))
            have AX := Lib.hid ((hb5.block _ (lt_of_block AY.out)).trans AY.out)
            clear hb5
            refine hK _ _ ?_
            clear hK K
            rw [HH.out]
            simp only []
            refine any_take (i := 6) (v := .tuple #[.agg (rC id n (strN ys) dd), .int .i64 code]) rfl (by kernel_rfl) (by kernel_rfl) (by kernel_rfl) (by kernel_rfl) (fun _ _ _ h => h) (fun w => exec_moveV rfl rfl) ?_
            refine any_take (i := 7) (v := .agg (rC id n (strN ys) dd)) rfl (by kernel_rfl) (by kernel_rfl) (by kernel_rfl) (by kernel_rfl) (fun _ _ _ h => h) (fun w => by go_simp) ?_
            refine any_take (i := 8) (v := .int .i64 code) rfl (by kernel_rfl) (by kernel_rfl) (by kernel_rfl) (by kernel_rfl) (fun _ _ _ h => h) (fun w => by go_simp) ?_
            refine any_skip (i := 10) (by kernel_rfl) rfl (by kernel_rfl) (exec_store rfl rfl rfl (run_storeVar_row _ _ _ _ _ _ AX.out (size41' hid.len) (by rw [r_size hid.len]; rfl) (one_r _ _ _ _))) ?_
            refine wpAny_ready (rs := [11]) (by kernel_rfl) (by simp) ?_
            refine AllReady.cons rfl (fun K hK => ?_) AllReady.nil
            go_simp
            refine hK _ _ ?_
            clear hK K
            refine wpAny_done (by kernel_rfl) ?_ _
            go_wp2_with fail
            go_meet
            case rel => exact ⟨wd.heap.size, rfl, rfl, setRow_heap _ _ _ _ _ _ AX.out, by omega, BR.out _ _ _ BC.out (by omega)⟩
        case' c4 =>
          refine step_ok (by kernel_rfl) (exec_load rfl rfl (LF.out _ BX.out)) ?_
          refine hK _ _ ?_
          clear hK K
          refine wpAny_ready (rs := [0, 9]) (by kernel_rfl) (by simp) (AllReady.cons rfl (fun K hK => ?qa) (AllReady.cons rfl (fun K hK => ?qb) AllReady.nil))
          case' qa =>
            refine step_ok (by kernel_rfl) (exec_load rfl rfl (load_r _ _ _ _ hid.len (GF.out _ BX.out))) ?_
            refine hK _ _ ?_
            clear hK K
            refine wpAny_ready (rs := [5, 9]) (by kernel_rfl) (by simp) (AllReady.cons rfl (fun K hK => ?qx) (AllReady.cons rfl (fun K hK => ?qy) AllReady.nil))
            case' qx =>
              go_simp
              refine (rhear_any _ hid n hn xs d vb f hmm t HLE.out (by omega)).mono ?_
              rintro e w5 ⟨rfl, hb5⟩
              have BC := Lib.hid (BX.out.trans (hb5.mono BX.out.size))
              clear hb5
              refine hK _ _ ?_
              clear hK K
              rw [HH.out]
              simp only []
              refine any_take (i := 6) (v := .tuple #[.agg (rC id n (strN ys) dd), .int .i64 code]) rfl (by kernel_rfl) (by kernel_rfl) (by kernel_rfl) (by kernel_rfl) (fun _ _ _ h => h) (fun w => exec_moveV rfl rfl) ?_
              refine any_take (i := 7) (v := .agg (rC id n (strN ys) dd)) rfl (by kernel_rfl) (by kernel_rfl) (by kernel_rfl) (by kernel_rfl) (fun _ _ _ h => h) (fun w => by go_simp) ?_
              refine any_take (i := 8) (v := .int .i64 code) rfl (by kernel_rfl) (by kernel_rfl) (by kernel_rfl) (by kernel_rfl) (fun _ _ _ h => h) (fun w => by go_simp) ?_
              refine any_new (i := 9) (by kernel_rfl) rfl (by kernel_rfl) (exec_alloc rfl (zero41 _)) ?_
              have AX := Lib.hid (heap_alloc_new w5 (.cells zc41 41))
              have BC2 := Lib.hid (BC.out.alloc BC.out.size (.cells zc41 41))
              have s5 := BC.out.size
              refine any_skip (i := 10) (by kernel_rfl) rfl (by kernel_rfl) (exec_store rfl rfl rfl (run_storeVar_row _ _ _ _ _ _ AX.out (size41' hid.len) (by rw [r_size hid.len]; rfl) (one_r _ _ _ _))) ?_
              refine wpAny_ready (rs := [11]) (by kernel_rfl) (by simp) ?_
              refine AllReady.cons rfl (fun K hK => ?_) AllReady.nil
              go_simp
              refine hK _ _ ?_
              clear hK K
              refine wpAny_done (by kernel_rfl) ?_ _
              go_wp2_with fail
              go_meet
              case rel => exact ⟨w5.heap.size, rfl, rfl, setRow_heap _ _ _ _ _ _ AX.out, by omega, BR.out _ _ _ BC2.out (by omega)⟩
            case' qy =>
              refine step_ok (by kernel_rfl) (exec_alloc rfl (zero41 _)) ?_
              refine hK _ _ ?_
              clear hK K
              refine wpAny_ready (rs := [5]) (by kernel_rfl) (by simp) (AllReady.cons rfl (fun K hK => ?_) AllReady.nil)
              go_simp
              refine (rhear_any _ hid n hn xs d vb f hmm t HLE.out (by omega)).mono ?_
              rintro e w5 ⟨rfl, hb5⟩
              have BC := Lib.hid (BY.out.trans (hb5.mono BY.out.size))
              have AX := Lib.hid ((hb5.block _ (lt_of_block AY.out)).trans AY.out)
              clear hb5
              refine hK _ _ ?_
              clear hK K
              rw [HH.out]
              simp only []
              refine any_take (i := 6) (v := .tuple #[.agg (rC id n (strN ys) dd), .int .i64 code]) rfl (by kernel_rfl) (by kernel_rfl) (by kernel_rfl) (by kernel_rfl) (fun _ _ _ h => h) (fun w => exec_moveV rfl rfl) ?_
              refine any_take (i := 7) (v := .agg (rC id n (strN ys) dd)) rfl (by kernel_rfl) (by kernel_rfl) (by kernel_rfl) (by kernel_rfl) (fun _ _ _ h => h) (fun w => by go_simp) ?_
              refine any_take (i := 8) (v := .int .i64 code) rfl (by kernel_rfl) (by kernel_rfl) (by kernel_rfl) (by kernel_rfl) (fun _ _ _ h => h) (fun w => by go_simp) ?_
              refine any_skip (i := 10) (by kernel_rfl) rfl (by kernel_rfl) (exec_store rfl rfl rfl (run_storeVar_row _ _ _ _ _ _ AX.out (size41' hid.len) (by rw [r_size hid.len]; rfl) (one_r _ _ _ _))) ?_
              refine wpAny_ready (rs := [11]) (by kernel_rfl) (by simp) ?_
              refine AllReady.cons rfl (fun K hK => ?_) AllReady.nil
              go_simp
              refine hK _ _ ?_
              clear hK K
              refine wpAny_done (by kernel_rfl) ?_ _
              go_wp2_with fail
              go_meet
              case rel => exact ⟨wd.heap.size, rfl, rfl, setRow_heap _ _ _ _ _ _ AX.out, by omega, BR.out _ _ _ BC.out (by omega)⟩
          case' qb =>
            refine step_ok (by kernel_rfl) (exec_alloc rfl (zero41 _)) ?_
            refine hK _ _ ?_
            clear hK K
            refine any_step (i := 0) (by kernel_rfl) rfl (by kernel_rfl) (exec_load rfl rfl (load_r _ _ _ _ hid.len (GF.out _ BY.out))) ?_
            refine wpAny_ready (rs := [5]) (by kernel_rfl) (by simp) (AllReady.cons rfl (fun K hK => ?_) AllReady.nil)
            go_simp
            refine (rhear_any _ hid n hn xs d vb f hmm t HLE.out (by omega)).mono ?_
            rintro e w5 ⟨rfl, hb5⟩
            have BC := Lib.hid (BY.out.trans (hb5.mono BY.out.size))
            have AX := Lib.hid ((hb5.block _ (lt_of_block AY.out)).trans AY.out)
            clear hb5
            refine hK _ _ ?_
            clear hK K
            rw [HH.out]
            simp only []
            refine any_take (i := 6) (v := .tuple #[.agg (rC id n (strN ys) dd), .int .i64 code]) rfl (by kernel_rfl) (by kernel_rfl) (by kernel_rfl) (by kernel_rfl) (fun _ _ _ h => h) (fun w => exec_moveV rfl rfl) ?_
            refine any_take (i := 7) (v := .agg (rC id n (strN ys) dd)) rfl (by kernel_rfl) (by kernel_rfl) (by kernel_rfl) (by kernel_rfl) (fun _ _ _ h => h) (fun w => by go_simp) ?_
            refine any_take (i := 8) (v := .int .i64 code) rfl (by kernel_rfl) (by kernel_rfl) (by kernel_rfl) (by kernel_rfl) (fun _ _ _ h => h) (fun w => by go_simp) ?_
            refine any_skip (i := 10) (by kernel_rfl) rfl (by kernel_rfl) (exec_store rfl rfl rfl (run_storeVar_row _ _ _ _ _ _ AX.out (size41' hid.len) (by rw [r_size hid.len]; rfl) (one_r _ _ _ _))) ?_
            refine wpAny_ready (rs := [11]) (by kernel_rfl) (by simp) ?_
            refine AllReady.cons rfl (fun K hK => ?_) AllReady.nil
            go_simp
            refine hK _ _ ?_
            clear hK K
            refine wpAny_done (by kernel_rfl) ?_ _
            go_wp2_with fail
            go_meet
            case rel => exact ⟨wd.heap.size, rfl, rfl, setRow_heap _ _ _ _ _ _ AX.out, by omega, BR.out _ _ _ BC.out (by omega)⟩
        case' c9 =>
          refine step_ok (by kernel_rfl) (exec_alloc rfl (zero41 _)) ?_
          refine hK _ _ ?_
          clear hK K
          refine wpAny_ready (rs := [0, 4]) (by kernel_rfl) (by simp) (AllReady.cons rfl (fun K hK => ?r0) (AllReady.cons rfl (fun K hK => ?r4) AllReady.nil))
          case' r0 =>
            refine step_ok (by kernel_rfl) (exec_load rfl rfl (load_r _ _ _ _ hid.len (GF.out _ BY.out))) ?_
            refine hK _ _ ?_
            clear hK K
            refine any_step (i := 4) (by kernel_rfl) rfl (by kernel_rfl) (exec_load rfl rfl (LF.out _ BY.out)) ?_
            refine wpAny_ready (rs := [5]) (by kernel_rfl) (by simp) (AllReady.cons rfl (fun K hK => ?_) AllReady.nil)
            go_simp
            refine (rhear_any _ hid n hn xs d vb f hmm t HLE.out (by omega)).mono ?_
            rintro e w5 ⟨rfl, hb5⟩
            have BC := Lib.hid (BY.out.trans (hb5.mono BY.out.size))
            have AX := Lib.hid ((hb5.block _ (lt_of_block AY.out)).trans AY.out)
            clear hb5
            refine hK _ _ ?_
            clear hK K
            rw [HH.out]
            simp only []
            refine any_take (i := 6) (v := .tuple #[.agg (rC id n (strN ys) dd), .int .i64 code]) rfl (by kernel_rfl) (by kernel_rfl) (by kernel_rfl) (by kernel_rfl) (fun _ _ _ h => h) (fun w => exec_moveV rfl rfl) ?_
            refine any_take (i := 7) (v := .agg (rC id n (strN ys) dd)) rfl (by kernel_rfl) (by kernel_rfl) (by kernel_rfl) (by kernel_rfl) (fun _ _ _ h => h) (fun w => by go_simp) ?_
            refine any_take (i := 8) (v := .int .i64 code) rfl (by kernel_rfl) (by kernel_rfl) (by kernel_rfl) (by kernel_rfl) (fun _ _ _ h => h) (fun w => by go_simp) ?_
            refine any_skip (i := 10) (by kernel_rfl) rfl (by kernel_rfl) (exec_store rfl rfl rfl (run_storeVar_row _ _ _ _ _ _ AX.out (size41' hid.len) (by rw [r_size hid.len]; rfl) (one_r _ _ _ _))) ?_
            refine wpAny_ready (rs := [11]) (by kernel_rfl) (by simp) ?_
            refine AllReady.cons rfl (fun K hK => ?_) AllReady.nil
            go_simp
            refine hK _ _ ?_
            clear hK K
            refine wpAny_done (by kernel_rfl) ?_ _
            go_wp2_with fail
            go_meet
            case rel => exact ⟨wd.heap.size, rfl, rfl, setRow_heap _ _ _ _ _ _ AX.out, by omega, BR.out _ _ _ BC.out (by omega)⟩
          case' r4 =>
            refine step_ok (by kernel_rfl) (exec_load rfl rfl (LF.out _ BY.out)) ?_
            refine hK _ _ ?_
            clear hK K
            refine any_step (i := 0) (by kernel_rfl) rfl (by kernel_rfl) (exec_load rfl rfl (load_r _ _ _ _ hid.len (GF.out _ BY.out))) ?_
            refine wpAny_ready (rs := [5]) (by kernel_rfl) (by simp) (AllReady.cons rfl (fun K hK => ?_) AllReady.nil)
            go_simp
            refine (rhear_any _ hid n hn xs d vb f hmm t HLE.out (by omega)).mono ?_
            rintro e w5 ⟨rfl, hb5⟩
            have BC := Lib.hid (BY.out.trans (hb5.mono BY.out.size))
            have AX := Lib.hid ((hb5.block _ (lt_of_block AY.out)).trans AY.out)
            clear hb5
            refine hK _ _ ?_
            clear hK K
            rw [HH.out]
            simp only []
            refine any_take (i := 6) (v := .tuple #[.agg (rC id n (strN ys) dd), .int .i64 code]) rfl (by kernel_rfl) (by kernel_rfl) (by kernel_rfl) (by kernel_rfl) (fun _ _ _ h => h) (fun w => exec_moveV rfl rfl) ?_
            refine any_take (i := 7) (v := .agg (rC id n (strN ys) dd)) rfl (by kernel_rfl) (by kernel_rfl) (by kernel_rfl) (by kernel_rfl) (fun _ _ _ h => h) (fun w => by go_simp) ?_
            refine any_take (i := 8) (v := .int .i64 code) rfl (by kernel_rfl) (by kernel_rfl) (by kernel_rfl) (by kernel_rfl) (fun _ _ _ h => h) (fun w => by go_simp) ?_
            refine any_skip (i := 10) (by kernel_rfl) rfl (by kernel_rfl) (exec_store rfl rfl rfl (run_storeVar_row _ _ _ _ _ _ AX.out (size41' hid.len) (by rw [r_size hid.len]; rfl) (one_r _ _ _ _))) ?_
            refine wpAny_ready (rs := [11]) (by kernel_rfl) (by simp) ?_
            refine AllReady.cons rfl (fun K hK => ?_) AllReady.nil
            go_simp
            refine hK _ _ ?_
            clear hK K
            refine wpAny_done (by kernel_rfl) ?_ _
            go_wp2_with fail
            go_meet
            case rel => exact ⟨wd.heap.size, rfl, rfl, setRow_heap _ _ _ _ _ _ AX.out, by omega, BR.out _ _ _ BC.out (by omega)⟩
      case rest =>
        obtain ⟨g', rfl, rfl, hG', hle', hbx⟩ := hcut
        have RC := Lib.hid (HR.out.below hbx)
        have GC := Lib.hid ((hbx.block g (lt_of_block HG.out)).trans HG.out)
        have IC := Lib.hid ((hbx.block _ (lt_of_block HI.out)).trans HI.out)
        have BC := Lib.hid (BE.out.trans (hbx.mono sr))
        have GP := Lib.hid hG'
        have p1 : g' ≠ b := by have := HR.out.lt; omega
        have p2 : g' ≠ g := by have := lt_of_block HG.out; omega
        have p3 : w.heap.size ≤ wc.heap.size := BC.out.size
        clear hG' hbx HR HG HI BE hle' c34 HCJ
        go_wp2_with fail
        refine (clone_any wc RC.out hid hn HLE.out H256.out p3).mono ?_
        rintro e w5 ⟨rfl, vc, hr5, hc5, ho5, hf5⟩
        obtain ⟨cb, hcb⟩ : ∃ cb, cb = wc.heap.size := ⟨_, rfl⟩
        have hcbb : cb ≠ b := by have := RC.out.lt; omega
        have hcbg : cb ≠ g := by have := lt_of_block GC.out; omega
        have hcbp : cb ≠ g' := by have := lt_of_block GP.out; omega
        have hlcb : w.heap.size ≤ cb := by omega
        have hlcb1 : w.heap.size ≠ cb := by have := lt_of_block IC.out; omega
        have AP : Hid (Apart b cb v vc) := Lib.hid ⟨fun e => hcbb e.symm, fun k h1 h2 => by have := ho5 k h2; have := RC.out.own_lt k h1; omega⟩
        rw [← hcb] at hc5
        rw [← hcb]
        have G5 := hf5.keep RC.out GC.out (by decide) hgb
        have P5 := hf5.keep RC.out GP.out (by decide) p1
        have I5 := hf5.keep RC.out IC.out (by decide) hlb1
        have B5 := hf5.law RC.out BC.out hlb
        have L5 := Lib.hid (LR.out w5 B5)
        have HR5 := Lib.hid hr5; have HC5 := Lib.hid hc5; have HG5 := Lib.hid G5; have HP5 := Lib.hid P5; have HI5 := Lib.hid I5; have HB5 := Lib.hid B5
        clear hr5 hc5 ho5 hf5 G5 P5 I5 B5 RC GC IC BC GP hcb LR
        go_wp2_with ((with_reducible refine wpList_load 31 rfl _ rfl ?_); refine ⟨_, _, rfl, L5.out, ?_⟩)
        refine (own_any w5 vb f hmm.len t).mono ?_
        rintro e w6 ⟨rfl, hb6⟩
        have R6 := HR5.out.below hb6
        have C6 := HC5.out.below hb6
        have G6 := (hb6.block _ (lt_of_block HG5.out)).trans HG5.out
        have P6 := (hb6.block _ (lt_of_block HP5.out)).trans HP5.out
        have I6 := (hb6.block _ (lt_of_block HI5.out)).trans HI5.out
        have B6 := HB5.out.trans (hb6.mono HB5.out.size)
        have HR6 := Lib.hid R6; have HC6 := Lib.hid C6; have HG6 := Lib.hid G6; have HP6 := Lib.hid P6; have HI6 := Lib.hid I6; have HB6 := Lib.hid B6
        clear hb6 R6 C6 G6 P6 I6 B6 HR5 HC5 HG5 HP5 HI5 HB5 L5
        go_wp2_with fail
        refine (hear_any w6 HR6.out hid hn HLE.out HB6.out.size vb f hmm t (by unfold maxLen; omega)).mono ?_
        rintro e w7 ⟨rfl, v7, hr7, hv7, hf7⟩
        have hys : ys.length ≤ n := by have := hearF_le (l := id) (d := d) (vb := vb) (f := f) (m := mm) (t := t) HLE.out; rw [HH.out] at this; exact this
        have hyl : ∀ x ∈ ys, x < 256 := by have := hearF_lt (l := id) (n := n) (d := d) (vb := vb) (f := f) (m := mm) (t := t) H256.out; rw [HH.out] at this; exact this
        have herr : code ≠ 0 → ys = xs ∧ dd = d := fun hc => by have := hearF_err id n xs d vb f mm t (by rw [HH.out]; exact hc); rw [HH.out] at this; exact this
        rw [HH.out] at hr7
        rw [HH.out]
        simp only at hr7
        have C7 := Lib.hid (HC6.out.frame HR6.out hf7 hcbb (fun k h1 h2 => AP.out.sep k h2 h1))
        have A7 : Hid (Apart b cb v7 vc) := Lib.hid ⟨fun e => hcbb e.symm, fun k h1 h2 => by
          rcases hv7 with e | ⟨q, hq, hle⟩
          · rw [e] at h1; exact AP.out.sep k h1 h2
          · rw [hq] at h1; have := HC6.out.own_lt k h2; simp at h1; omega⟩
        have G7 := Lib.hid (hf7.keep HR6.out HG6.out (by decide) hgb)
        have P7 := Lib.hid (hf7.keep HR6.out HP6.out (by decide) p1)
        have I7 := Lib.hid (hf7.keep HR6.out HI6.out (by decide) hlb1)
        have B7 := Lib.hid (hf7.law HR6.out HB6.out hlb)
        have R7 := Lib.hid hr7; have HYS := Lib.hid hys; have HYL := Lib.hid hyl; have HERR := Lib.hid herr
        clear hr7 hv7 hf7 hys hyl herr HR6 HC6 HG6 HP6 HI6 HB6 AP HH
        go_wp2_with ((with_reducible refine wpList_loadG 41 _ rfl (by kernel_rfl) ?_); refine ⟨_, _, rfl, load_r _ _ _ _ hid.len P7.out, ?_⟩)
        refine (same_any w7 R7.out hid.len hn HYS.out HYL.out).mono ?_
        rintro e w8 ⟨rfl, r8, f8⟩
        have C8 := Lib.hid (C7.out.frame R7.out f8 hcbb (fun k h1 h2 => A7.out.sep k h2 h1))
        have G8 := Lib.hid (f8.keep R7.out G7.out (by decide) hgb)
        have P8 := Lib.hid (f8.keep R7.out P7.out (by decide) p1)
        have I8 := Lib.hid (f8.keep R7.out I7.out (by decide) hlb1)
        have B8 := Lib.hid (f8.law R7.out B7.out hlb)
        have R8 := Lib.hid r8
        clear r8 f8 C7 G7 P7 I7 B7 R7
        by_cases hc0 : code = 0
        · have e1 : (code != 0) = false := by simp [hc0]
          have e2 : (code == 0) = true := by simp [hc0]
          clear hc0
          have LG := Lib.hid (load_r (w := w8) _ _ _ hid.len P8.out)
          have ST := Lib.hid (run_storeVar_row (P := Try.prog) w8 g _ 41 _ (rC id n (strN ys) dd) G8.out (size41' hid.len) (by rw [r_size hid.len, r_size hid.len]) (one_r _ _ _ _))
          have RZ := Lib.hid (R8.out.setRow G8.out (by decide) hgb (rC id n (strN ys) dd))
          have GZ := Lib.hid (setRow_heap w8 g _ (rC id n (strN ys) dd) _ _ G8.out)
          have IZ := Lib.hid ((setRow_other w8 g w.heap.size (rC id n (strN ys) dd) (by omega)).trans I8.out)
          have BZ := Lib.hid (below_setRow (g := g) B8.out (by omega) (rC id n (strN ys) dd))
          go_wp2_with (first
            | ((with_reducible refine wpList_load 41 rfl _ rfl ?_); refine ⟨_, _, rfl, LG.out, ?_⟩)
            | ((with_reducible refine wpList_store 41 rfl _ _ rfl ?_); refine ⟨_, _, _, rfl, rfl, ST.out, ?_⟩))
          go_roundg (m - (j + 1))
          case measure => omega
          case rel => exact ⟨j + 1, ys, dd, v7, by omega, rfl, by go_num, RZ.out, GZ.out, IZ.out, HYS.out, HYL.out, BZ.out⟩
        · have e1 : (code != 0) = true := by simp [hc0]
          have e2 : (code == 0) = false := by simp [hc0]
          have xl6 : xs.length ≤ 65536 := by have := HLE.out; omega
          have yl6 : ys.length ≤ 65536 := by have := HYS.out; omega
          have E9 := equal_f w8 R8.out C8.out A7.out hid HYL.out H256.out yl6 xl6
          rw [show eqF n n dd d ys xs = true by rw [(HERR.out hc0).1, (HERR.out hc0).2]; exact eqF_refl _ _ _] at E9
          have HE9 := Lib.hid E9
          clear E9 hc0
          go_wp2_with fail
          refine HE9.out.mono ?_
          rintro e w9 ⟨rfl, q9⟩
          have G9 := Lib.hid (q9.keep R8.out C8.out G8.out (by decide) hgb hcbg.symm)
          have P9 := Lib.hid (q9.keep R8.out C8.out P8.out (by decide) p1 hcbp.symm)
          have I9 := Lib.hid (q9.keep R8.out C8.out I8.out (by decide) hlb1 hlcb1)
          have B9 := Lib.hid (q9.law R8.out C8.out B8.out hlb hlcb)
          have R9 := Lib.hid q9.one
          clear q9 HE9 G8 P8 I8 B8 R8 C8
          have LG := Lib.hid (load_r (w := w9) _ _ _ hid.len P9.out)
          have ST := Lib.hid (run_storeVar_row (P := Try.prog) w9 g _ 41 _ (rC id n (strN ys) dd) G9.out (size41' hid.len) (by rw [r_size hid.len, r_size hid.len]) (one_r _ _ _ _))
          have RZ := Lib.hid (R9.out.setRow G9.out (by decide) hgb (rC id n (strN ys) dd))
          have GZ := Lib.hid (setRow_heap w9 g _ (rC id n (strN ys) dd) _ _ G9.out)
          have IZ := Lib.hid ((setRow_other w9 g w.heap.size (rC id n (strN ys) dd) (by omega)).trans I9.out)
          have BZ := Lib.hid (below_setRow (g := g) B9.out (by omega) (rC id n (strN ys) dd))
          go_wp2_with (first
            | ((with_reducible refine wpList_load 41 rfl _ rfl ?_); refine ⟨_, _, rfl, LG.out, ?_⟩)
            | ((with_reducible refine wpList_store 41 rfl _ _ rfl ?_); refine ⟨_, _, _, rfl, rfl, ST.out, ?_⟩))
          go_roundg (m - (j + 1))
          case measure => omega
          case rel => exact ⟨j + 1, ys, dd, v7, by omega, rfl, by go_num, RZ.out, GZ.out, IZ.out, HYS.out, HYL.out, BZ.out⟩
    · have hjn : j = m := by omega
      subst hjn
      go_wp2_with fail
      refine (reset_any wr HR.out hid.len).mono ?_
      rintro e w5 ⟨rfl, r5, f5⟩
      have I5 := Lib.hid (f5.keep HR.out HI.out (by decide) hlb1)
      have B5 := Lib.hid (f5.law HR.out BE.out hlb)
      have R5 := Lib.hid r5
      clear r5 f5 HR HG HI BE
      go_wp2_with ((with_reducible refine wpList_load 23 rfl _ rfl ?_); refine ⟨_, _, rfl, load_id _ w.heap.size 0 _ _ _ hid.len I5.out (id_self id), ?_⟩)
      refine (newrcv_any w5 hid (n : Int) (by omega) (by omega)).mono ?_
      rintro e w6 ⟨rfl, hw6⟩
      have bw : Below w5.heap.size w5 w6 := by rw [hw6]; exact ((Below.refl _ _).alloc (Nat.le_refl _) _).alloc (by simp) _
      have O6 : Rc w6 w.heap.size (w5.heap.size + 1) id n [] false (.slice none 0 0) := by rw [hw6]; exact rc_new2 w5 _ hid.len _ _
      have R6 := Lib.hid (R5.out.below bw)
      have I6 := Lib.hid ((bw.block _ (lt_of_block I5.out)).trans I5.out)
      have B6 := Lib.hid (B5.out.trans (bw.mono B5.out.size))
      have s5 := B5.out.size
      obtain ⟨ob, hob⟩ : ∃ ob, ob = w5.heap.size + 1 := ⟨_, rfl⟩
      have o1 : ob ≠ b := by have := R5.out.lt; omega
      have o3 : w.heap.size ≤ ob := by omega
      rw [← hob] at O6
      rw [← hob]
      have HO6 := Lib.hid O6
      clear hw6 bw O6 R5 I5 B5 hob
      go_wp2_with (first
        | ((with_reducible refine wpList_load 23 rfl _ rfl ?_); refine ⟨_, _, rfl, load_id _ w.heap.size 0 _ _ _ hid.len I6.out (id_self id), ?_⟩)
        | ((with_reducible refine wpList_build2 41 rfl _ _ rfl ?_); refine ⟨_, _, _, rfl, rfl, build_r _ hid.len n, ?_⟩))
      have CS : Calls Try.prog 17 #[.pointer (some ⟨b, 0, none⟩), .agg (rC id n ⟨#[]⟩ false)] w6 fun e w' => e = .returned (.bool true) ∧ Rc w' w.heap.size b id n [] false (.slice none 0 0) ∧ FrB b (.slice none 0 0) w6 w' := same_any w6 R6.out hid.len hn (by simp) (by simp)
      refine CS.mono ?_
      rintro e w7 ⟨rfl, r7, f7⟩
      have O7 := HO6.out.still (fun cs T fz h1 h2 => f7.keep R6.out h1 h2 o1)
      have B7 := f7.law R6.out B6.out hlb
      have E8 := equal_f w7 r7 O7 ⟨o1.symm, fun k h1 h2 => by simp [Value.ownBlock] at h2⟩ hid (by simp) (by simp) (by simp) (by simp)
      rw [eqF_refl] at E8
      have HE8 := Lib.hid E8; have HR7 := Lib.hid r7; have HO7 := Lib.hid O7; have HB7 := Lib.hid B7
      clear E8 r7 f7 O7 B7 CS R6 HO6 B6
      go_wp2_with fail
      refine HE8.out.mono ?_
      rintro e w8 ⟨rfl, q8⟩
      have B8 := Lib.hid (q8.law HR7.out HO7.out HB7.out hlb o3)
      clear q8 HE8
      go_wp2_with fail
      go_ret
      exact ⟨by simp, B8.out⟩

theorem law_rcv_all (w : World) {id : List Nat} (hid : IdOk id) (n : Int) (hn : (Lit.int .i64 n).wf = true) (a : Option Addr) (cap : Nat) (L : List Cm) (hm : L.length ≤ maxLen) (hr : RdC w a L) :
    Calls Try.prog 5 #[.agg (idA id), .int .i64 n, .slice a L.length cap] w fun e w' => e = .returned (.bool true) ∧ Below w.heap.size w w' := by
  have hb : -9223372036854775808 ≤ n ∧ n ≤ 9223372036854775807 := by
    simpa [Lit.wf, IntKind.min, IntKind.max, IntKind.signed, IntKind.bits] using hn
  by_cases hl : 30 < L.length
  · exact law_rcv_long w id n a L.length cap hm hl
  by_cases hr0 : n < 0 ∨ 65536 < n
  · exact law_rcv_range w hid n a L.length cap (by omega) hb.1 hb.2 hr0
  · obtain ⟨k, rfl⟩ : ∃ k : Nat, n = (k : Int) := ⟨n.toNat, by omega⟩
    exact law_rcv w hid k (by omega) a cap L (by omega) hr

end Go.Proofs.Ytndjcaljkpkgfaa
