/- Walk of the statement TransferSender. -/
import Derived.Test.YtndjcaljkpkgfaaRefCB
import Derived.Test.YtndjcaljkpkgfaaLen
import Derived.Test.YtndjcaljkpkgfaaLawKit
namespace Go.Proofs.Ytndjcaljkpkgfaa
open Go.RowKit Go.Maps
set_option linter.unusedVariables false

theorem law_snd_long (w : World) (id : List Nat) (text : ByteArray) (n c s : Int) (ht : text.size ≤ maxLen) (hl : 300 < text.size) :
    Calls Try.prog 6 #[.agg (idA id), .string text, .int .u16 n, .int .i64 c, .int .i64 s] w fun e w' => e = .returned (.bool true) ∧ Below w.heap.size w w' := by
  unfold maxLen at ht
  have b0 : Below w.heap.size w (w.alloc (.cells (idA id) 23)) := (Below.refl _ _).alloc (Nat.le_refl _) _
  have K1 := Lib.hid (known_any (w.alloc (.cells (idA id) 23)))
  have B0 := Lib.hid b0
  clear b0
  go_enter Try.func6, Try.ntmps6
  go_wp2_with fail
  refine K1.out.mono ?_
  rintro e w1 ⟨rfl, hb1⟩
  have B1 : Hid (Below w.heap.size w w1) := Lib.hid (B0.out.trans (hb1.mono B0.out.size))
  clear hb1
  go_wp2_with fail
  refine (known_any w1).mono ?_
  rintro e w2 ⟨rfl, hb2⟩
  have B2 : Hid (Below w.heap.size w w2) := Lib.hid (B1.out.trans (hb2.mono B1.out.size))
  clear hb2
  go_wp2_with fail
  go_ret
  exact ⟨rfl, B2.out⟩

/-- The row of commands in its block. -/
theorem row_at {w : World} {base k : Nat} {v : Value} {id : List Nat} {t : ByteArray} {c f : Nat} (hid : IdOk id) (h : w.ownsRow base 31 35 v (k + 1) (flat (dL id t c f k ++ [eC id]))) :
    ∃ g cap cur, v = .slice (some ⟨g, 0, none⟩) (k + 1) cap ∧ base ≤ g ∧ w.heap[g]? = some (.cells cur 31 (0, 0)) ∧
      (∀ i, i < k → ∀ j u, (dcm id t c f i).cells[j]? = some u → cur[i * 35 + j]? = some u) ∧ (∀ j u, (eC id).cells[j]? = some u → cur[k * 35 + j]? = some u) := by
  rcases h.2 with ⟨_, hn⟩ | ⟨g, cap, cur, rfl, hb, hg, _, _, _, ht⟩
  · omega
  · have hall : ∀ x ∈ dL id t c f k ++ [eC id], x.m.length = 32 := by
      intro x hx
      rcases List.mem_append.1 hx with hx | hx
      · obtain ⟨i, _, rfl⟩ := List.mem_map.1 hx; exact hid.len
      · simp at hx; subst hx; exact hid.len
    have key : ∀ i (hi : i < (dL id t c f k ++ [eC id]).length) j u, (dL id t c f k ++ [eC id])[i].cells[j]? = some u → cur[i * 35 + j]? = some u := by
      intro i hi j u hu
      have h1 := flat_at _ hall i hi j u hu
      rw [← ht] at h1
      rw [List.getElem?_take] at h1
      split at h1
      · simpa using h1
      · cases h1
    refine ⟨g, cap, cur, rfl, hb, hg, fun i hi j u hu => key i (by simp [dL_len]; omega) j u ?_, fun j u hu => key k (by simp [dL_len]) j u ?_⟩
    · rw [List.getElem_append_left (by rw [dL_len]; exact hi)]
      simpa [dL] using hu
    · rw [List.getElem_append_right (by rw [dL_len]; exact Nat.le_refl _)]
      simpa [dL_len] using hu

theorem wpList_runG {P : Program} {ops : Array Oper} {rest : List Oper} {o : Oper} {a : Act} {w w' : World} {Q : Exit → Act → World → Prop} {v : Value} (hw : Region.wanted o (yielded ops a.tmps) = true) (h : (execOp a.eval o).run P w = .ok (.value v) w') (hk : wpList P ops Q rest (a.put o.dst v) w') : wpList P ops Q (o :: rest) a w := by
  refine wpList_step fun K hK => ?_
  rw [if_pos hw]
  unfold Oper.wp
  rw [h]
  exact hK _ _ hk
theorem wpList_build0G {P : Program} {ops : Array Oper} {rest : List Oper} {o : Oper} {a : Act} {w : World} {Q : Exit → Act → World → Prop} (t : TypeId) (ho : o.op = .build t #[]) (hw : Region.wanted o (yielded ops a.tmps) = true) (h : ∃ v, (Instr.build t #[]).run P w = .ok v w ∧ wpList P ops Q rest (a.put o.dst v) w) : wpList P ops Q (o :: rest) a w := by
  obtain ⟨v, h1, h2⟩ := h
  exact wpList_runG hw (exec_build ho (by simpa using h1)) h2
theorem wpList_eqlG {P : Program} {ops : Array Oper} {rest : List Oper} {o : Oper} {a : Act} {w : World} {Q : Exit → Act → World → Prop} (t : TypeId) {t' : TypeId} (x y : Operand) (ho : o.op = .binOp .eql t x y t') (hw : Region.wanted o (yielded ops a.tmps) = true) (hm : P.eqGuardType P.depth t = false)
    (h : ∃ xs ys r, a.eval x = .agg xs ∧ a.eval y = .agg ys ∧ (Op.equal t (.agg xs) (.agg ys)).run P w = .ok r w ∧ wpList P ops Q rest (a.put o.dst (.bool r)) w) : wpList P ops Q (o :: rest) a w := by
  obtain ⟨xs, ys, r, h1, h2, h3, h4⟩ := h
  exact wpList_runG hw (exec_eql ho h1 h2 hm h3) h4

/-- What holds at the head of a round. -/
def SndR (w : World) (b : Nat) (id : List Nat) (t : ByteArray) (c f k g : Nat) (cur : Array Value) (kk : Nat) (i : Value) (wr : World) : Prop :=
  ∃ j : Nat, i = .int .i64 (j : Int) ∧ kk = k + 1 - j ∧ ((j ≤ k ∧ Sn wr b id t c (gs t c f j) false) ∨ (j = k + 1 ∧ Sn wr b id t c t.size true)) ∧ wr.heap[g]? = some (.cells cur 31 (0, 0)) ∧ Below w.heap.size w wr
theorem below_snd {w w1 w2 : World} {b : Nat} {l : List Nat} {t : ByteArray} {c s : Nat} {d : Bool} (h : Below w.heap.size w w1) (hb : w.heap.size ≤ b) (hp : SnPost w1 b l t c s d w2) : Below w.heap.size w w2 := h.trans (hp.2.2.mono hb)

set_option maxRecDepth 100000 in
set_option maxHeartbeats 4000000 in
theorem law_snd (w : World) {id : List Nat} (hid : IdOk id) (text : ByteArray) (ht : text.size ≤ 300) (n : Int) (n0 : 0 ≤ n) (n1 : n ≤ 65535) (c s : Int) (cr : -9223372036854775808 ≤ c ∧ c ≤ 9223372036854775807) (sr : -9223372036854775808 ≤ s ∧ s ≤ 9223372036854775807) :
    Calls Try.prog 6 #[.agg (idA id), .string text, .int .u16 n, .int .i64 c, .int .i64 s] w fun e w' => e = .returned (.bool true) ∧ Below w.heap.size w w' := by
  obtain ⟨cr0, cr1⟩ := cr
  obtain ⟨sr0, sr1⟩ := sr
  have b0 : Below w.heap.size w (w.alloc (.cells (idA id) 23)) := (Below.refl _ _).alloc (Nat.le_refl _) _
  have K1 := Lib.hid (known_any (w.alloc (.cells (idA id) 23)))
  have B0 := Lib.hid b0
  have I0 : Hid ((w.alloc (.cells (idA id) 23)).heap[w.heap.size]? = some (.cells (idA id) 23 (0, 0))) := Lib.hid (heap_alloc_new w _)
  clear b0
  go_enter Try.func6, Try.ntmps6
  go_wp2_with fail
  refine K1.out.mono ?_
  rintro e w1 ⟨rfl, hb1⟩
  have B1 : Hid (Below w.heap.size w w1) := Lib.hid (B0.out.trans (hb1.mono B0.out.size))
  have I1 : Hid (w1.heap[w.heap.size]? = some (.cells (idA id) 23 (0, 0))) := Lib.hid ((hb1.block _ (lt_of_block I0.out)).trans I0.out)
  clear hb1 K1 I0 B0
  go_wp2_with fail
  refine (length_any w1 text n n0 n1 ht).mono ?_
  rintro e w2 ⟨q, rfl, hq, hb2⟩
  have B2 : Hid (Below w.heap.size w w2) := Lib.hid (B1.out.trans (hb2.mono B1.out.size))
  have I2 : Hid (w2.heap[w.heap.size]? = some (.cells (idA id) 23 (0, 0))) := Lib.hid ((hb2.block _ (lt_of_block I1.out)).trans I1.out)
  clear hb2 I1 B1 n0 n1 ht
  go_wp2_with ((with_reducible refine wpList_load 23 rfl _ rfl ?_); refine ⟨_, _, rfl, load_id _ w.heap.size 0 _ _ _ hid.len I2.out (id_self id), ?_⟩)
  by_cases hbad : c < 1 ∨ 4096 < c ∨ s < 0 ∨ (q.size : Int) < s
  · refine (newsnd_no w2 id q c s (by omega) hbad).mono ?_
    rintro e w3 ⟨rfl, hw3⟩
    have B3 : Hid (Below w.heap.size w w3) := Lib.hid (by rw [hw3]; exact B2.out.alloc B2.out.size _)
    clear hw3 B2 I2
    have hb4 : c < 1 ∨ (¬ c < 1 ∧ 4096 < c) ∨ (¬ c < 1 ∧ ¬ 4096 < c ∧ s < 0) ∨ (¬ c < 1 ∧ ¬ 4096 < c ∧ ¬ s < 0 ∧ (q.size : Int) < s) := by omega
    clear hbad
    rcases hb4 with h0 | ⟨h0, h1⟩ | ⟨h0, h1, h2⟩ | ⟨h0, h1, h2, h3⟩
    all_goals
      go_wp2_with fail
      go_ret
      exact ⟨by simp, B3.out⟩
  obtain ⟨c, rfl⟩ : ∃ x : Nat, c = (x : Int) := ⟨c.toNat, by omega⟩
  obtain ⟨f, rfl⟩ : ∃ x : Nat, s = (x : Int) := ⟨s.toNat, by omega⟩
  have c0 : 1 ≤ c := by omega
  have c1 : c ≤ 4096 := by omega
  have hf : f ≤ q.size := by omega
  clear hbad cr0 cr1 sr0 sr1
  refine (newsnd_any w2 hid q (c : Int) (f : Int) (by omega) (by omega) (by omega) (by omega) (by omega)).mono ?_
  rintro e w3 ⟨rfl, hw3⟩
  have B3 : Hid (Below w.heap.size w w3) := Lib.hid (by
    have := B2.out.size
    rw [hw3]; exact (B2.out.alloc this _).alloc (by simp; omega) _)
  have S3 : Hid (Sn w3 (w2.heap.size + 1) id q c f false) := Lib.hid (by rw [hw3]; exact sn_new w2 _ id q c f)
  have I3 : Hid (w3.heap[w.heap.size]? = some (.cells (idA id) 23 (0, 0))) := Lib.hid (by rw [hw3]; exact alloc_block (alloc_block I2.out))
  obtain ⟨b, hb⟩ : ∃ b, b = w2.heap.size + 1 := ⟨_, rfl⟩
  have hlb : w.heap.size ≤ b := by have := B2.out.size; omega
  rw [← hb] at S3
  rw [← hb]
  clear hw3 hb I2 B2
  have C1 := Lib.hid (sent_any w3 S3.out hid.len)
  have C2 := Lib.hid (ended_any w3 S3.out hid.len)
  go_wp2_with (first
    | (go_at_call 21; refine C1.out.mono ?_; rintro e w7 ⟨rfl, hw7⟩; subst hw7)
    | (go_at_call 22; refine C2.out.mono ?_; rintro e w7 ⟨rfl, hw7⟩; subst hw7)
    | ((with_reducible refine wpList_load 23 rfl _ rfl ?_); refine ⟨_, _, rfl, load_id _ w.heap.size 0 _ _ _ hid.len I3.out (id_self id), ?_⟩))
  refine (cmds_any w3 hid q c f (by omega) c0 c1 hf).mono ?_
  rintro e w4 ⟨k, v, rfl, hk, hlt, hown, hb4⟩
  obtain ⟨g, cap, cur, rfl, hgb, hgr, hD, hE⟩ := row_at hid hown
  have B4 : Hid (Below w.heap.size w w4) := Lib.hid (B3.out.trans (hb4.mono B3.out.size))
  have S4 : Hid (Sn w4 b id q c f false) := Lib.hid (S3.out.below hb4)
  have hgb2 : g ≠ b := by have := S3.out.lt; omega
  have hk8 : k ≤ 8000 := by have := gs_ge (f := f) c0 k hlt; have := gs_le (c := c) hf k; omega
  have HK := Lib.hid hk; have HLT := Lib.hid hlt; have G4 := Lib.hid hgr; have HD := Lib.hid hD; have HE := Lib.hid hE
  obtain ⟨m, hm⟩ : ∃ m, m = k + 1 := ⟨_, rfl⟩
  rw [← hm]
  have HM := Lib.hid hm
  have EWS : Hid (IntKind.i64.wrap ((m : Int) - 1) = (k : Int)) := Lib.hid ((IntWalk.i64_in _ (by omega)).trans (by omega))
  clear hk hlt hown hgr hb4 hgb I3 B3 S3 C1 C2 hD hE hm
  go_wp2_with fail
  go_loopg [14] (k + 1) (fun kk i wr => SndR w b id q c f k g cur kk i wr)
  case atStart => exact ⟨0, rfl, rfl, .inl ⟨Nat.zero_le _, S4.out⟩, G4.out, B4.out⟩
  case round =>
    obtain ⟨j, rfl, rfl, hst, hG, hbel⟩ := hrel
    have BE := Lib.hid hbel; have GR := Lib.hid hG
    clear S4 G4 B4 hG hbel
    by_cases hj : j < m
    · have hjm : (j : Int) < (m : Int) := by omega
      have hjk1 : j ≤ k := by have := HM.out; omega
      by_cases hjk : j < k
      · obtain ⟨p, hp⟩ : ∃ p, p = gs q c f j := ⟨_, rfl⟩
        have hSn : Sn wr b id q c p false := by
          rcases hst with ⟨_, h⟩ | ⟨h, _⟩
          · rw [hp]; exact h
          · omega
        clear hst
        have hpq : p < q.size := by rw [hp]; exact HLT.out j hjk
        obtain ⟨p2, hp2⟩ : ∃ p2, p2 = min (p + c) q.size := ⟨_, rfl⟩
        have hpp : p ≤ p2 := by omega
        have hpz : p2 ≤ q.size := by omega
        have hgs : gs q c f (j + 1) = p2 := by rw [hp2, hp]; rfl
        obtain ⟨tx, htx⟩ : ∃ tx, tx = q.extract p p2 := ⟨_, rfl⟩
        have htz : tx.size = p2 - p := by rw [htx, ByteArray.size_extract]; omega
        have RW : Hid (∀ x u, (rcmC 7 (p : Int) id tx)[x]? = some u → cur[j * 35 + x]? = some u) := Lib.hid fun x u hu => HD.out j hjk x u (by
          have e : dcm id q c f j = ⟨7, (p : Int), id, tx⟩ := by unfold dcm; rw [hgs, ← hp, htx]
          rw [e]; exact hu)
        have SY := say_data wr hSn hid (by omega) hpq c1
        rw [← hp2, ← htx] at SY
        have HS := Lib.hid SY
        have HGS := Lib.hid hgs
        have EWT : Hid (IntKind.i64.wrap ((p : Int) + (tx.size : Int)) = (p2 : Int)) := Lib.hid ((IntWalk.i64_in _ (by omega)).trans (by omega))
        have EJ : Hid (((j : Int) == (k : Int)) = false) := Lib.hid (by simp; omega)
        have LJ : Hid ((j : Int) < (k : Int)) := Lib.hid (by omega)
        have EQ : Hid (∀ w', (Op.equal 34 (.agg (cmdC 7 (p : Int) id tx)) (.agg (cmdC 7 (p : Int) id tx))).run Try.prog w' = .ok true w') := Lib.hid fun w' => eq_cmd w' hid 7 (p : Int) tx (by decide) (by simp [Lit.wf, IntKind.min, IntKind.max, IntKind.signed, IntKind.bits]; omega) (by unfold maxLen; omega)
        have htz8 : tx.size ≤ 8000 := by omega
        clear SY hgs hp htx hp2 hSn htz
        go_wp2_with fail
        refine HS.out.mono ?_
        rintro e w5 ⟨rfl, hs5⟩
        have S5 : Hid (Sn w5 b id q c p2 false) := Lib.hid hs5.1
        have B5 : Hid (Below w.heap.size w w5) := Lib.hid (below_snd BE.out hlb hs5)
        have G5 : Hid (w5.heap[g]? = some (.cells cur 31 (0, 0))) := Lib.hid ((hs5.2.1 g (lt_of_block GR.out) hgb2).trans GR.out)
        clear hs5 HS BE GR
        have ST := Lib.hid (store_at (P := Try.prog) w5 _ rfl 34 zc34 (cmdC 7 (p : Int) id tx) (size34' hid.len) (by rw [cmd_size hid.len]; rfl) (one_cmd _ _ _ _))
        go_wp2_with ((with_reducible refine wpList_store 34 rfl _ _ rfl ?_); refine ⟨_, _, _, rfl, rfl, ST.out, ?_⟩)
        clear ST
        obtain ⟨cb, hcb⟩ : ∃ cb, cb = w5.heap.size := ⟨_, rfl⟩
        have CB : Hid ((w5.alloc (.cells (cmdC 7 (p : Int) id tx) 34)).heap[cb]? = some (.cells (cmdC 7 (p : Int) id tx) 34 (0, 0))) := Lib.hid (by rw [hcb]; exact heap_alloc_new w5 _)
        have S6 : Hid (Sn (w5.alloc (.cells (cmdC 7 (p : Int) id tx) 34)) b id q c p2 false) := Lib.hid (alloc_block S5.out)
        have G6 := Lib.hid (alloc_block (o := .cells (cmdC 7 (p : Int) id tx) 34) G5.out)
        have B6 := Lib.hid (B5.out.alloc B5.out.size (.cells (cmdC 7 (p : Int) id tx) 34))
        rw [← hcb]
        generalize w5.alloc (.cells (cmdC 7 (p : Int) id tx) 34) = w6 at *
        clear hcb S5 G5 B5
        have C33 : Hid (∀ w', Below w6.heap.size w6 w' → w'.cell? ⟨g, j * 35 + 33, none⟩ = some (.int .i64 (p : Int))) := Lib.hid fun w' hw' => (cellB ((hw'.block _ (lt_of_block G6.out)).trans G6.out) _).trans (RW.out 33 _ (rcm_at hid.len _ _ _).2.1)
        have C34 : Hid (∀ w', Below w6.heap.size w6 w' → w'.cell? ⟨g, j * 35 + 34, none⟩ = some (.string tx)) := Lib.hid fun w' hw' => (cellB ((hw'.block _ (lt_of_block G6.out)).trans G6.out) _).trans (RW.out 34 _ (rcm_at hid.len _ _ _).2.2)
        go_wp2_with fail
        refine wp_region_quiet (C := fun w' => Below w6.heap.size w6 w') mixed (by kernel_rfl) (Below.refl _ _).drew ?_
        refine BigFrame.wpQuiet_want (by kernel_rfl) (fun K hK => quiet_run (v := .bool true) (fun w' hw' => ?_) ?_)
        · go_simp
        go_simp; refine hK _ ?_; clear hK K
        refine BigFrame.wpQuiet_want (by kernel_rfl) (fun K hK => quiet_run (v := .bool false) (fun w' hw' => ?_) ?_)
        · go_simp
        go_simp; refine hK _ ?_; clear hK K
        refine BigFrame.wpQuiet_want (by kernel_rfl) (fun K hK => quiet_run (v := .bool false) (fun w' hw' => ?_) ?_)
        · go_simp
        go_simp; refine hK _ ?_; clear hK K
        refine BigFrame.wpQuiet_want (by kernel_rfl) (fun K hK => quiet_run (v := .agg (cmdC 7 (p : Int) id tx)) (fun w' hw' => ?_) ?_)
        · exact exec_load rfl rfl (load_cmd w' cb _ _ hid.len ((hw'.block _ (lt_of_block CB.out)).trans CB.out))
        go_simp; refine hK _ ?_; clear hK K
        refine BigFrame.wpQuiet_want (by kernel_rfl) (fun K hK => quiet_run (v := .slice (some ⟨g, 0, none⟩) m cap) (fun w' hw' => ?_) ?_)
        · go_simp
        go_simp; refine hK _ ?_; clear hK K
        refine BigFrame.wpQuiet_want (by kernel_rfl) (fun K hK => quiet_run (v := .int .i64 (j : Int)) (fun w' hw' => ?_) ?_)
        · go_simp
        go_simp; refine hK _ ?_; clear hK K
        refine BigFrame.wpQuiet_want (by kernel_rfl) (fun K hK => quiet_run (v := .pointer (some ⟨g, j * 35, none⟩)) (fun w' hw' => ?_) ?_)
        · go_simp
        go_simp; refine hK _ ?_; clear hK K
        refine BigFrame.wpQuiet_want (by kernel_rfl) (fun K hK => quiet_run (v := .agg (rcmC 7 (p : Int) id tx)) (fun w' hw' => ?_) ?_)
        · exact exec_load rfl rfl (load_rcm w' g (j * 35) hid.len (fun x u hu => (cellB ((hw'.block _ (lt_of_block G6.out)).trans G6.out) _).trans (RW.out x u hu)))
        go_simp; refine hK _ ?_; clear hK K
        refine BigFrame.wpQuiet_want (by kernel_rfl) (fun K hK => ⟨.agg (cmdC 7 (p : Int) id tx), fun w' hw' => ?_, ?_⟩)
        · unfold Oper.quietAt
          go_simp
          exact (own_any w' 7 (p : Int) hid.len tx).mono fun e w2 ⟨h1, h2⟩ => ⟨h1, hw'.trans (h2.mono hw'.size)⟩
        go_simp; refine hK _ ?_; clear hK K
        refine BigFrame.wpQuiet_want (by kernel_rfl) (fun K hK => quiet_run (v := .bool false) (fun w' hw' => ?_) ?_)
        · exact exec_neq rfl rfl rfl guard34 (EQ.out w')
        go_simp; refine hK _ ?_; clear hK K
        refine BigFrame.wpQuiet_want (by kernel_rfl) (fun K hK => quiet_run (v := .bool false) (fun w' hw' => ?_) ?_)
        · go_simp
        go_simp; refine hK _ ?_; clear hK K
        refine BigFrame.wpQuiet_want (by kernel_rfl) (fun K hK => quiet_run (v := .bool false) (fun w' hw' => ?_) ?_)
        · go_simp
        go_simp; refine hK _ ?_; clear hK K
        refine BigFrame.wpQuiet_want (by kernel_rfl) (fun K hK => quiet_run (v := .pointer (some ⟨b, 0, none⟩)) (fun w' hw' => ?_) ?_)
        · go_simp
        go_simp; refine hK _ ?_; clear hK K
        refine BigFrame.wpQuiet_want (by kernel_rfl) (fun K hK => ⟨.bool false, fun w' hw' => ?_, ?_⟩)
        · unfold Oper.quietAt
          go_simp
          exact (ended_any w' (S6.out.below hw') hid.len).mono fun e w2 ⟨h1, h2⟩ => ⟨h1, h2 ▸ hw'⟩
        go_simp; refine hK _ ?_; clear hK K
        refine BigFrame.wpQuiet_want (by kernel_rfl) (fun K hK => quiet_run (v := .int .i64 (j : Int)) (fun w' hw' => ?_) ?_)
        · go_simp
        go_simp; refine hK _ ?_; clear hK K
        refine BigFrame.wpQuiet_want (by kernel_rfl) (fun K hK => quiet_run (v := .slice (some ⟨g, 0, none⟩) m cap) (fun w' hw' => ?_) ?_)
        · go_simp
        go_simp; refine hK _ ?_; clear hK K
        refine BigFrame.wpQuiet_want (by kernel_rfl) (fun K hK => quiet_run (v := .int .i64 (m : Int)) (fun w' hw' => ?_) ?_)
        · go_simp
        go_simp; refine hK _ ?_; clear hK K
        refine BigFrame.wpQuiet_want (by kernel_rfl) (fun K hK => quiet_run (v := .int .i64 (k : Int)) (fun w' hw' => ?_) ?_)
        · (have c := EWS.out; go_simp)
        go_simp; refine hK _ ?_; clear hK K
        refine BigFrame.wpQuiet_want (by kernel_rfl) (fun K hK => quiet_run (v := .bool false) (fun w' hw' => ?_) ?_)
        · (have c := EJ.out; go_simp)
        go_simp; refine hK _ ?_; clear hK K
        refine BigFrame.wpQuiet_want (by kernel_rfl) (fun K hK => quiet_run (v := .bool false) (fun w' hw' => ?_) ?_)
        · go_simp
        go_simp; refine hK _ ?_; clear hK K
        refine BigFrame.wpQuiet_want (by kernel_rfl) (fun K hK => quiet_run (v := .bool false) (fun w' hw' => ?_) ?_)
        · go_simp
        go_simp; refine hK _ ?_; clear hK K
        refine BigFrame.wpQuiet_want (by kernel_rfl) (fun K hK => quiet_run (v := .bool false) (fun w' hw' => ?_) ?_)
        · go_simp
        go_simp; refine hK _ ?_; clear hK K
        refine BigFrame.wpQuiet_want (by kernel_rfl) (fun K hK => quiet_run (v := .int .i64 (j : Int)) (fun w' hw' => ?_) ?_)
        · go_simp
        go_simp; refine hK _ ?_; clear hK K
        refine BigFrame.wpQuiet_want (by kernel_rfl) (fun K hK => quiet_run (v := .slice (some ⟨g, 0, none⟩) m cap) (fun w' hw' => ?_) ?_)
        · go_simp
        go_simp; refine hK _ ?_; clear hK K
        refine BigFrame.wpQuiet_want (by kernel_rfl) (fun K hK => quiet_run (v := .int .i64 (m : Int)) (fun w' hw' => ?_) ?_)
        · go_simp
        go_simp; refine hK _ ?_; clear hK K
        refine BigFrame.wpQuiet_want (by kernel_rfl) (fun K hK => quiet_run (v := .int .i64 (k : Int)) (fun w' hw' => ?_) ?_)
        · (have c := EWS.out; go_simp)
        go_simp; refine hK _ ?_; clear hK K
        refine BigFrame.wpQuiet_want (by kernel_rfl) (fun K hK => quiet_run (v := .bool true) (fun w' hw' => ?_) ?_)
        · (have c := LJ.out; go_simp)
        go_simp; refine hK _ ?_; clear hK K
        refine BigFrame.wpQuiet_want (by kernel_rfl) (fun K hK => quiet_run (v := .bool true) (fun w' hw' => ?_) ?_)
        · go_simp
        go_simp; refine hK _ ?_; clear hK K
        refine BigFrame.wpQuiet_want (by kernel_rfl) (fun K hK => quiet_run (v := .pointer (some ⟨b, 0, none⟩)) (fun w' hw' => ?_) ?_)
        · go_simp
        go_simp; refine hK _ ?_; clear hK K
        refine BigFrame.wpQuiet_want (by kernel_rfl) (fun K hK => ⟨.int .i64 (p2 : Int), fun w' hw' => ?_, ?_⟩)
        · unfold Oper.quietAt
          go_simp
          exact (sent_any w' (S6.out.below hw') hid.len).mono fun e w2 ⟨h1, h2⟩ => ⟨h1, h2 ▸ hw'⟩
        go_simp; refine hK _ ?_; clear hK K
        refine BigFrame.wpQuiet_want (by kernel_rfl) (fun K hK => quiet_run (v := .slice (some ⟨g, 0, none⟩) m cap) (fun w' hw' => ?_) ?_)
        · go_simp
        go_simp; refine hK _ ?_; clear hK K
        refine BigFrame.wpQuiet_want (by kernel_rfl) (fun K hK => quiet_run (v := .int .i64 (j : Int)) (fun w' hw' => ?_) ?_)
        · go_simp
        go_simp; refine hK _ ?_; clear hK K
        refine BigFrame.wpQuiet_want (by kernel_rfl) (fun K hK => quiet_run (v := .pointer (some ⟨g, j * 35, none⟩)) (fun w' hw' => ?_) ?_)
        · go_simp
        go_simp; refine hK _ ?_; clear hK K
        refine BigFrame.wpQuiet_want (by kernel_rfl) (fun K hK => quiet_run (v := .pointer (some ⟨g, j * 35 + 33, none⟩)) (fun w' hw' => ?_) ?_)
        · go_simp
        go_simp; refine hK _ ?_; clear hK K
        refine BigFrame.wpQuiet_want (by kernel_rfl) (fun K hK => quiet_run (v := .int .i64 (p : Int)) (fun w' hw' => ?_) ?_)
        · (have c := C33.out w' hw'; go_simp)
        go_simp; refine hK _ ?_; clear hK K
        refine BigFrame.wpQuiet_want (by kernel_rfl) (fun K hK => quiet_run (v := .slice (some ⟨g, 0, none⟩) m cap) (fun w' hw' => ?_) ?_)
        · go_simp
        go_simp; refine hK _ ?_; clear hK K
        refine BigFrame.wpQuiet_want (by kernel_rfl) (fun K hK => quiet_run (v := .int .i64 (j : Int)) (fun w' hw' => ?_) ?_)
        · go_simp
        go_simp; refine hK _ ?_; clear hK K
        refine BigFrame.wpQuiet_want (by kernel_rfl) (fun K hK => quiet_run (v := .pointer (some ⟨g, j * 35, none⟩)) (fun w' hw' => ?_) ?_)
        · go_simp
        go_simp; refine hK _ ?_; clear hK K
        refine BigFrame.wpQuiet_want (by kernel_rfl) (fun K hK => quiet_run (v := .pointer (some ⟨g, j * 35 + 34, none⟩)) (fun w' hw' => ?_) ?_)
        · go_simp
        go_simp; refine hK _ ?_; clear hK K
        refine BigFrame.wpQuiet_want (by kernel_rfl) (fun K hK => quiet_run (v := .string tx) (fun w' hw' => ?_) ?_)
        · (have c := C34.out w' hw'; go_simp)
        go_simp; refine hK _ ?_; clear hK K
        refine BigFrame.wpQuiet_want (by kernel_rfl) (fun K hK => quiet_run (v := .int .i64 (tx.size : Int)) (fun w' hw' => ?_) ?_)
        · go_simp
        go_simp; refine hK _ ?_; clear hK K
        refine BigFrame.wpQuiet_want (by kernel_rfl) (fun K hK => quiet_run (v := .int .i64 (p2 : Int)) (fun w' hw' => ?_) ?_)
        · (have c := EWT.out; go_simp)
        go_simp; refine hK _ ?_; clear hK K
        refine BigFrame.wpQuiet_want (by kernel_rfl) (fun K hK => quiet_run (v := .bool false) (fun w' hw' => ?_) ?_)
        · go_simp
        go_simp; refine hK _ ?_; clear hK K
        refine BigFrame.wpQuiet_want (by kernel_rfl) (fun K hK => quiet_run (v := .bool false) (fun w' hw' => ?_) ?_)
        · go_simp
        go_simp; refine hK _ ?_; clear hK K
        refine BigFrame.wpQuiet_want (by kernel_rfl) (fun K hK => quiet_run (v := .bool false) (fun w' hw' => ?_) ?_)
        · go_simp
        go_simp; refine hK _ ?_; clear hK K
        refine wpQuiet_nil ?_
        intro w7 hw7
        have W7 := Lib.hid hw7
        clear hw7
        go_wp2_with fail
        go_roundg (k + 1 - (j + 1))
        case measure => omega
        case rel => exact ⟨j + 1, by go_num, rfl, .inl ⟨by omega, by rw [HGS.out]; exact S6.out.below W7.out⟩, (W7.out.block _ (lt_of_block G6.out)).trans G6.out, B6.out.trans (W7.out.mono B6.out.size)⟩
      · obtain rfl : j = k := by omega
        have hSn : Sn wr b id q c q.size false := by
          rcases hst with ⟨_, h⟩ | ⟨h, _⟩
          · rw [HK.out] at h; exact h
          · omega
        clear hst
        have RW : Hid (∀ x u, (rcmC 8 0 id ⟨#[]⟩)[x]? = some u → cur[j * 35 + x]? = some u) := Lib.hid fun x u hu => HE.out x u hu
        have HS := Lib.hid (say_last wr hSn hid (by omega))
        have EJ : Hid (((j : Int) == (j : Int)) = true) := Lib.hid (by simp)
        have LJ : Hid (¬ (j : Int) < (j : Int)) := Lib.hid (by omega)
        have EQ : Hid (∀ w', (Op.equal 34 (.agg (cmdC 8 0 id ⟨#[]⟩)) (.agg (cmdC 8 0 id ⟨#[]⟩))).run Try.prog w' = .ok true w') := Lib.hid fun w' => eq_cmd w' hid 8 0 ⟨#[]⟩ (by decide) (by decide) (by decide)
        clear hSn
        go_wp2_with fail
        refine HS.out.mono ?_
        rintro e w5 ⟨rfl, hs5⟩
        have S5 : Hid (Sn w5 b id q c q.size true) := Lib.hid hs5.1
        have B5 : Hid (Below w.heap.size w w5) := Lib.hid (below_snd BE.out hlb hs5)
        have G5 : Hid (w5.heap[g]? = some (.cells cur 31 (0, 0))) := Lib.hid ((hs5.2.1 g (lt_of_block GR.out) hgb2).trans GR.out)
        clear hs5 HS BE GR
        have ST := Lib.hid (store_at (P := Try.prog) w5 _ rfl 34 zc34 (cmdC 8 0 id ⟨#[]⟩) (size34' hid.len) (by rw [cmd_size hid.len]; rfl) (one_cmd _ _ _ _))
        go_wp2_with ((with_reducible refine wpList_store 34 rfl _ _ rfl ?_); refine ⟨_, _, _, rfl, rfl, ST.out, ?_⟩)
        clear ST
        obtain ⟨cb, hcb⟩ : ∃ cb, cb = w5.heap.size := ⟨_, rfl⟩
        have CB : Hid ((w5.alloc (.cells (cmdC 8 0 id ⟨#[]⟩) 34)).heap[cb]? = some (.cells (cmdC 8 0 id ⟨#[]⟩) 34 (0, 0))) := Lib.hid (by rw [hcb]; exact heap_alloc_new w5 _)
        have S6 : Hid (Sn (w5.alloc (.cells (cmdC 8 0 id ⟨#[]⟩) 34)) b id q c q.size true) := Lib.hid (alloc_block S5.out)
        have G6 := Lib.hid (alloc_block (o := .cells (cmdC 8 0 id ⟨#[]⟩) 34) G5.out)
        have B6 := Lib.hid (B5.out.alloc B5.out.size (.cells (cmdC 8 0 id ⟨#[]⟩) 34))
        rw [← hcb]
        generalize w5.alloc (.cells (cmdC 8 0 id ⟨#[]⟩) 34) = w6 at *
        clear hcb S5 G5 B5
        go_wp2_with fail
        refine wp_region_quiet (C := fun w' => Below w6.heap.size w6 w') mixed (by kernel_rfl) (Below.refl _ _).drew ?_
        refine BigFrame.wpQuiet_want (by kernel_rfl) (fun K hK => quiet_run (v := .bool true) (fun w' hw' => ?_) ?_)
        · go_simp
        go_simp; refine hK _ ?_; clear hK K
        refine BigFrame.wpQuiet_want (by kernel_rfl) (fun K hK => quiet_run (v := .bool false) (fun w' hw' => ?_) ?_)
        · go_simp
        go_simp; refine hK _ ?_; clear hK K
        refine BigFrame.wpQuiet_want (by kernel_rfl) (fun K hK => quiet_run (v := .bool false) (fun w' hw' => ?_) ?_)
        · go_simp
        go_simp; refine hK _ ?_; clear hK K
        refine BigFrame.wpQuiet_want (by kernel_rfl) (fun K hK => quiet_run (v := .agg (cmdC 8 0 id ⟨#[]⟩)) (fun w' hw' => ?_) ?_)
        · exact exec_load rfl rfl (load_cmd w' cb _ _ hid.len ((hw'.block _ (lt_of_block CB.out)).trans CB.out))
        go_simp; refine hK _ ?_; clear hK K
        refine BigFrame.wpQuiet_want (by kernel_rfl) (fun K hK => quiet_run (v := .slice (some ⟨g, 0, none⟩) m cap) (fun w' hw' => ?_) ?_)
        · go_simp
        go_simp; refine hK _ ?_; clear hK K
        refine BigFrame.wpQuiet_want (by kernel_rfl) (fun K hK => quiet_run (v := .int .i64 (j : Int)) (fun w' hw' => ?_) ?_)
        · go_simp
        go_simp; refine hK _ ?_; clear hK K
        refine BigFrame.wpQuiet_want (by kernel_rfl) (fun K hK => quiet_run (v := .pointer (some ⟨g, j * 35, none⟩)) (fun w' hw' => ?_) ?_)
        · go_simp
        go_simp; refine hK _ ?_; clear hK K
        refine BigFrame.wpQuiet_want (by kernel_rfl) (fun K hK => quiet_run (v := .agg (rcmC 8 0 id ⟨#[]⟩)) (fun w' hw' => ?_) ?_)
        · exact exec_load rfl rfl (load_rcm w' g (j * 35) hid.len (fun x u hu => (cellB ((hw'.block _ (lt_of_block G6.out)).trans G6.out) _).trans (RW.out x u hu)))
        go_simp; refine hK _ ?_; clear hK K
        refine BigFrame.wpQuiet_want (by kernel_rfl) (fun K hK => ⟨.agg (cmdC 8 0 id ⟨#[]⟩), fun w' hw' => ?_, ?_⟩)
        · unfold Oper.quietAt
          go_simp
          exact (own_any w' 8 0 hid.len ⟨#[]⟩).mono fun e w2 ⟨h1, h2⟩ => ⟨h1, hw'.trans (h2.mono hw'.size)⟩
        go_simp; refine hK _ ?_; clear hK K
        refine BigFrame.wpQuiet_want (by kernel_rfl) (fun K hK => quiet_run (v := .bool false) (fun w' hw' => ?_) ?_)
        · exact exec_neq rfl rfl rfl guard34 (EQ.out w')
        go_simp; refine hK _ ?_; clear hK K
        refine BigFrame.wpQuiet_want (by kernel_rfl) (fun K hK => quiet_run (v := .bool false) (fun w' hw' => ?_) ?_)
        · go_simp
        go_simp; refine hK _ ?_; clear hK K
        refine BigFrame.wpQuiet_want (by kernel_rfl) (fun K hK => quiet_run (v := .bool false) (fun w' hw' => ?_) ?_)
        · go_simp
        go_simp; refine hK _ ?_; clear hK K
        refine BigFrame.wpQuiet_want (by kernel_rfl) (fun K hK => quiet_run (v := .pointer (some ⟨b, 0, none⟩)) (fun w' hw' => ?_) ?_)
        · go_simp
        go_simp; refine hK _ ?_; clear hK K
        refine BigFrame.wpQuiet_want (by kernel_rfl) (fun K hK => ⟨.bool true, fun w' hw' => ?_, ?_⟩)
        · unfold Oper.quietAt
          go_simp
          exact (ended_any w' (S6.out.below hw') hid.len).mono fun e w2 ⟨h1, h2⟩ => ⟨h1, h2 ▸ hw'⟩
        go_simp; refine hK _ ?_; clear hK K
        refine BigFrame.wpQuiet_want (by kernel_rfl) (fun K hK => quiet_run (v := .int .i64 (j : Int)) (fun w' hw' => ?_) ?_)
        · go_simp
        go_simp; refine hK _ ?_; clear hK K
        refine BigFrame.wpQuiet_want (by kernel_rfl) (fun K hK => quiet_run (v := .slice (some ⟨g, 0, none⟩) m cap) (fun w' hw' => ?_) ?_)
        · go_simp
        go_simp; refine hK _ ?_; clear hK K
        refine BigFrame.wpQuiet_want (by kernel_rfl) (fun K hK => quiet_run (v := .int .i64 (m : Int)) (fun w' hw' => ?_) ?_)
        · go_simp
        go_simp; refine hK _ ?_; clear hK K
        refine BigFrame.wpQuiet_want (by kernel_rfl) (fun K hK => quiet_run (v := .int .i64 (j : Int)) (fun w' hw' => ?_) ?_)
        · (have c := EWS.out; go_simp)
        go_simp; refine hK _ ?_; clear hK K
        refine BigFrame.wpQuiet_want (by kernel_rfl) (fun K hK => quiet_run (v := .bool true) (fun w' hw' => ?_) ?_)
        · (have c := EJ.out; go_simp)
        go_simp; refine hK _ ?_; clear hK K
        refine BigFrame.wpQuiet_want (by kernel_rfl) (fun K hK => quiet_run (v := .bool false) (fun w' hw' => ?_) ?_)
        · go_simp
        go_simp; refine hK _ ?_; clear hK K
        refine BigFrame.wpQuiet_want (by kernel_rfl) (fun K hK => quiet_run (v := .bool false) (fun w' hw' => ?_) ?_)
        · go_simp
        go_simp; refine hK _ ?_; clear hK K
        refine BigFrame.wpQuiet_want (by kernel_rfl) (fun K hK => quiet_run (v := .bool false) (fun w' hw' => ?_) ?_)
        · go_simp
        go_simp; refine hK _ ?_; clear hK K
        refine BigFrame.wpQuiet_want (by kernel_rfl) (fun K hK => quiet_run (v := .int .i64 (j : Int)) (fun w' hw' => ?_) ?_)
        · go_simp
        go_simp; refine hK _ ?_; clear hK K
        refine BigFrame.wpQuiet_want (by kernel_rfl) (fun K hK => quiet_run (v := .slice (some ⟨g, 0, none⟩) m cap) (fun w' hw' => ?_) ?_)
        · go_simp
        go_simp; refine hK _ ?_; clear hK K
        refine BigFrame.wpQuiet_want (by kernel_rfl) (fun K hK => quiet_run (v := .int .i64 (m : Int)) (fun w' hw' => ?_) ?_)
        · go_simp
        go_simp; refine hK _ ?_; clear hK K
        refine BigFrame.wpQuiet_want (by kernel_rfl) (fun K hK => quiet_run (v := .int .i64 (j : Int)) (fun w' hw' => ?_) ?_)
        · (have c := EWS.out; go_simp)
        go_simp; refine hK _ ?_; clear hK K
        refine BigFrame.wpQuiet_want (by kernel_rfl) (fun K hK => quiet_run (v := .bool false) (fun w' hw' => ?_) ?_)
        · (have c := LJ.out; go_simp)
        go_simp; refine hK _ ?_; clear hK K
        refine BigFrame.wpQuiet_want (by kernel_rfl) (fun K hK => quiet_run (v := .bool false) (fun w' hw' => ?_) ?_)
        · go_simp
        go_simp; refine hK _ ?_; clear hK K
        go_big_quiet_skip
        go_big_quiet_skip
        go_big_quiet_skip
        go_big_quiet_skip
        go_big_quiet_skip
        go_big_quiet_skip
        go_big_quiet_skip
        go_big_quiet_skip
        go_big_quiet_skip
        go_big_quiet_skip
        go_big_quiet_skip
        go_big_quiet_skip
        go_big_quiet_skip
        go_big_quiet_skip
        go_big_quiet_skip
        refine BigFrame.wpQuiet_want (by kernel_rfl) (fun K hK => quiet_run (v := .bool false) (fun w' hw' => ?_) ?_)
        · go_simp
        go_simp; refine hK _ ?_; clear hK K
        refine BigFrame.wpQuiet_want (by kernel_rfl) (fun K hK => quiet_run (v := .bool false) (fun w' hw' => ?_) ?_)
        · go_simp
        go_simp; refine hK _ ?_; clear hK K
        refine wpQuiet_nil ?_
        intro w7 hw7
        have W7 := Lib.hid hw7
        clear hw7
        go_wp2_with fail
        go_roundg (j + 1 - (j + 1))
        case measure => omega
        case rel => exact ⟨j + 1, by go_num, rfl, .inr ⟨rfl, S6.out.below W7.out⟩, (W7.out.block _ (lt_of_block G6.out)).trans G6.out, B6.out.trans (W7.out.mono B6.out.size)⟩
    · have hjk : j = k + 1 := by
        rcases hst with ⟨h, _⟩ | ⟨h, _⟩
        · have := HM.out; omega
        · exact h
      have hSn : Sn wr b id q c q.size true := by
        rcases hst with ⟨h, _⟩ | ⟨_, h⟩
        · have := HM.out; omega
        · exact h
      have hmj : j = m := by have := HM.out; omega
      clear hst hjk
      have HS := Lib.hid (say_ended wr hSn hid.len)
      have EQ : Hid (∀ w', (Op.equal 34 (.agg cmdZ) (.agg cmdZ)).run Try.prog w' = .ok true w') := Lib.hid fun w' => eq_cmd w' zid_ok 0 0 ⟨#[]⟩ (by decide) (by decide) (by decide)
      clear hSn
      go_wp2_with fail
      refine HS.out.mono ?_
      rintro e w5 ⟨rfl, hs5⟩
      have S5 : Hid (Sn w5 b id q c q.size true) := Lib.hid hs5.1
      have B5 : Hid (Below w.heap.size w w5) := Lib.hid (below_snd BE.out hlb hs5)
      clear hs5 HS BE GR
      have ST := Lib.hid (store_at (P := Try.prog) w5 _ rfl 34 zc34 cmdZ size34z (by rw [cmdZ_size]; rfl) one_cmdZ)
      have S6 : Hid (Sn (w5.alloc (.cells cmdZ 34)) b id q c q.size true) := Lib.hid (alloc_block S5.out)
      have B6 := Lib.hid (B5.out.alloc B5.out.size (.cells cmdZ 34))
      have LZ : Hid ((loadVar 34 ⟨w5.heap.size, 0, none⟩).run Try.prog (w5.alloc (.cells cmdZ 34)) = .ok (.agg cmdZ) (w5.alloc (.cells cmdZ 34))) := Lib.hid (load_cmd _ _ _ _ zid_ok.len (heap_alloc_new w5 _))
      have C1 := Lib.hid (sent_any _ S6.out hid.len)
      have C2 := Lib.hid (ended_any _ S6.out hid.len)
      go_wp2_with (first
        | ((with_reducible refine wpList_store 34 rfl _ _ rfl ?_); refine ⟨_, _, _, rfl, rfl, ST.out, ?_⟩)
        | ((with_reducible refine wpList_loadG 34 _ rfl (by kernel_rfl) ?_); refine ⟨_, _, rfl, LZ.out, ?_⟩)
        | ((with_reducible refine wpList_build0G 34 rfl (by kernel_rfl) ?_); refine ⟨_, build_cmd0' _, ?_⟩)
        | ((with_reducible refine wpList_eqlG 34 _ _ rfl (by kernel_rfl) guard34 ?_); refine ⟨_, _, _, rfl, rfl, EQ.out _, ?_⟩)
        | (go_at_call 21; refine C1.out.mono ?_; rintro e w7 ⟨rfl, hw7⟩; subst hw7)
        | (go_at_call 22; refine C2.out.mono ?_; rintro e w7 ⟨rfl, hw7⟩; subst hw7))
      go_ret
      exact ⟨by simp, B6.out⟩

theorem law_snd_all (w : World) {id : List Nat} (hid : IdOk id) (text : ByteArray) (ht : text.size ≤ maxLen) (n : Int) (hn : (Lit.int .u16 n).wf = true) (c : Int) (hc : (Lit.int .i64 c).wf = true) (s : Int) (hs : (Lit.int .i64 s).wf = true) :
    Calls Try.prog 6 #[.agg (idA id), .string text, .int .u16 n, .int .i64 c, .int .i64 s] w fun e w' => e = .returned (.bool true) ∧ Below w.heap.size w w' := by
  have hn' : 0 ≤ n ∧ n ≤ 65535 := by simpa [Lit.wf, IntKind.min, IntKind.max, IntKind.signed, IntKind.bits] using hn
  have hc' : -9223372036854775808 ≤ c ∧ c ≤ 9223372036854775807 := by simpa [Lit.wf, IntKind.min, IntKind.max, IntKind.signed, IntKind.bits] using hc
  have hs' : -9223372036854775808 ≤ s ∧ s ≤ 9223372036854775807 := by simpa [Lit.wf, IntKind.min, IntKind.max, IntKind.signed, IntKind.bits] using hs
  by_cases hl : 300 < text.size
  · exact law_snd_long w id text n c s ht hl
  · exact law_snd w hid text (by omega) n hn'.1 hn'.2 c s hc' hs'

end Go.Proofs.Ytndjcaljkpkgfaa
