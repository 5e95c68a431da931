/- bulletinref08.ParsePublic. -/
import Derived.Test.YtohmdledkhgdaaaGreatDoorLo37
namespace Go.Proofs.YtohmdledkhgdaaaGreatDoor
open Go.RowKit
set_option linter.unusedVariables false
set_option maxRecDepth 100000
theorem results_tmp_cell_tmp {P : Program} {fn : Func} {p u v : Tmp} {ty : TypeId} (h : fn.results = #[.tmp u, .cell p ty, .tmp v]) (tmps : Array Value) (w : World) (g : Nat) (t : TypeId) (cs : Array Value) (fr : Nat × Nat) (d : TypeDesc)
    (hp : tmps.getD p undef = .pointer (some ⟨g, 0, none⟩)) (hg : w.heap[g]? = some (.cells cs t fr))
    (hu : P.underlying ty = some d) (hd : (match d with | .struct _ | .array _ _ => true | _ => false) = true) (hi : (P.info? ty).map (·.size) = some cs.size) :
    (results fn tmps).run P w = .ok (.tuple #[tmps.getD u undef, .agg cs, tmps.getD v undef]) w := by
  have hp' : tmps[p]?.getD undef = .pointer (some ⟨g, 0, none⟩) := by simpa using hp
  simp [results, h, hp', asAddr, run_loadVar_row w g t ty cs fr d hg hu hd hi]
def RppPost (l : List Nat) (w : World) (e : Ending) (w' : World) : Prop :=
  ∃ (h : Int) (cs : Array Value), e = .returned (.tuple #[.int .i64 h, .agg cs, .int .i64 ((pubF l : Nat) : Int)]) ∧ Cl 16 cs ∧ Below w.heap.size w w'
theorem cl_set {n : Nat} {cs : Array Value} (h : Cl n cs) (j : Nat) {u : Value} (hu : u.oneCell' = true) : Cl n (cs.setIfInBounds j u) := by
  obtain ⟨h2, h3⟩ := h
  refine ⟨by simpa using h2, ?_⟩
  rw [Array.all_eq_true'] at h3 ⊢
  intro x hx
  rw [Array.mem_iff_getElem] at hx
  obtain ⟨i, hi, rfl⟩ := hx
  rw [Array.getElem_setIfInBounds (by simpa using hi)]
  split
  · exact hu
  · exact h3 _ (Array.getElem_mem _)
set_option maxHeartbeats 4000000 in
theorem rpp08_any (s : ByteArray) (w : World) (hs : s.size ≤ 100000) :
    Calls Tryz.prog 171 #[.string s] w (RppPost (bs s) w) := by
  obtain ⟨zs, hzs⟩ : ∃ zs, zs = idA zero16 := ⟨_, rfl⟩
  have HZS := Lib.hid hzs
  have ZCL : Hid (Cl 16 zs) := Lib.hid (by rw [hzs]; exact cl_au zero16_ok)
  obtain ⟨w0, hw0⟩ : ∃ w0, w0 = (w.alloc (.cells zs 22)).alloc (.cells zs 22) := ⟨_, rfl⟩
  have START : Hid ((w.alloc (.cells #[.int .u8 0, .int .u8 0, .int .u8 0, .int .u8 0, .int .u8 0, .int .u8 0, .int .u8 0, .int .u8 0, .int .u8 0, .int .u8 0, .int .u8 0, .int .u8 0, .int .u8 0, .int .u8 0, .int .u8 0, .int .u8 0] 22)).alloc (.cells #[.int .u8 0, .int .u8 0, .int .u8 0, .int .u8 0, .int .u8 0, .int .u8 0, .int .u8 0, .int .u8 0, .int .u8 0, .int .u8 0, .int .u8 0, .int .u8 0, .int .u8 0, .int .u8 0, .int .u8 0, .int .u8 0] 22) = w0) := Lib.hid (by rw [hw0, hzs]; rfl)
  have R0 : w0.heap[w.heap.size]? = some (.cells zs 22 (0, 0)) := by rw [hw0]; exact alloc_block (heap_alloc_last w _)
  have L0 : w0.heap[w.heap.size + 1]? = some (.cells zs 22 (0, 0)) := by rw [hw0]; have := heap_alloc_last (w.alloc (.cells zs 22)) (.cells zs 22); rw [World.size_alloc] at this; exact this
  have B0 : Below w.heap.size w w0 := by rw [hw0]; exact ((Below.refl _ _).alloc (Nat.le_refl _) _).alloc (by simp) _
  have S0 : w0.heap.size = w.heap.size + 2 := by rw [hw0, World.size_alloc, World.size_alloc]
  have FIN : Hid (∀ (w4 : World) (cs : Array Value), Cl 16 cs → w4.heap[w.heap.size]? = some (.cells zs 22 (0, 0)) → Below w.heap.size w w4 →
      (storeVar 22 ⟨w.heap.size, 0, none⟩ (.agg cs)).run Tryz.prog w4 = .ok () (w4.setRow w.heap.size cs) ∧
      (∀ tmps : Array Value, tmps.getD 3 undef = .pointer (some ⟨w.heap.size, 0, none⟩) → (results Tryz.f171 tmps).run Tryz.prog (w4.setRow w.heap.size cs) = .ok (.tuple #[tmps.getD 2 undef, .agg cs, tmps.getD 4 undef]) (w4.setRow w.heap.size cs)) ∧
      Below w.heap.size w (w4.setRow w.heap.size cs)) := Lib.hid (fun w4 cs hcl hg hb =>
    ⟨run_storeVar_row (P := Tryz.prog) w4 w.heap.size _ 22 zs cs hg (by rw [hcl.1]; exact size_a16) (by rw [hcl.1, ZCL.out.1]) hcl.2,
     fun tmps h2 => results_tmp_cell_tmp Tryz.results171 tmps _ w.heap.size _ _ _ _ h2 (setRow_heap w4 w.heap.size zs cs _ _ hg) Tryz.underlying22 rfl (by rw [hcl.1]; exact size_a16),
     below_setRow hb (Nat.le_refl _) cs⟩)
  obtain ⟨xs, hxs⟩ : ∃ x, x = (decF (bs s)).1 := ⟨_, rfl⟩
  obtain ⟨er, her⟩ : ∃ x, x = (decF (bs s)).2.2 := ⟨_, rfl⟩
  obtain ⟨m, hm⟩ : ∃ x, x = xs.length := ⟨_, rfl⟩
  obtain ⟨R, hR⟩ : ∃ x, x = pubF (bs s) := ⟨_, rfl⟩
  have PF : Hid (R = if er ≠ 0 then er else if m < 17 then 4 else if 17 < m then 5 else if xs.getD 0 0 < 1 ∨ 8 < xs.getD 0 0 then 2 else 0) := Lib.hid (by rw [hR, hm, hxs, her]; rfl)
  have ANS : Hid (∀ (h : Int) cs w', Cl 16 cs → Below w.heap.size w w' → RppPost (bs s) w (.returned (.tuple #[.int .i64 h, .agg cs, .int .i64 (R : Int)])) w') := Lib.hid (fun h cs w' hc hb => ⟨h, cs, by rw [hR], hc, hb⟩)
  have hml : m ≤ s.size := by rw [hm, hxs, ← bs_length s]; exact dec_len' _
  have D := Lib.hid (rdecode_short s w0 (by omega))
  have HXS : Hid (xs = (decF (bs s)).1) := Lib.hid hxs
  have HM := Lib.hid hm; have HER := Lib.hid her
  have HB0 := Lib.hid B0; have HR0 := Lib.hid R0; have HL0 := Lib.hid L0; have HS0 := Lib.hid S0
  have XLT : Hid (∀ x ∈ xs, x < 256) := Lib.hid (by
    rw [hxs]
    by_cases h : (decF (bs s)).2.2 = 0
    · exact (enc_dec _ h).2
    · rw [dec_err_nil' _ h]; intro x hx; cases hx)
  clear hxs her hm hR hw0 R0 L0 B0 hzs S0
  go_enter Tryz.func171, Tryz.ntmps171
  go_upto_region 2 with fail
  rw [START.out]
  clear START
  go_wp2_with fail
  refine D.out.mono ?_
  rintro e w1 ⟨v, rfl, hown, hb1⟩
  rw [← HXS.out, ← HM.out] at hown
  rw [← HER.out]
  have HOWN := Lib.hid hown
  have R1 : Hid (w1.heap[w.heap.size]? = some (.cells zs 22 (0, 0))) := Lib.hid ((hb1.block w.heap.size (by rw [HS0.out]; omega)).trans HR0.out)
  have L1 : Hid (w1.heap[w.heap.size + 1]? = some (.cells zs 22 (0, 0))) := Lib.hid ((hb1.block (w.heap.size + 1) (by rw [HS0.out]; omega)).trans HL0.out)
  have B1 : Hid (Below w.heap.size w w1) := Lib.hid (HB0.out.trans (hb1.mono (by rw [HS0.out]; omega)))
  obtain ⟨a, cap, hv⟩ : ∃ a cap, v = .slice a m cap := by
    rcases hown.2 with ⟨h1, h0⟩ | ⟨g, cap, cur, h1, _⟩
    · exact ⟨none, 0, by rw [h1, h0]⟩
    · exact ⟨_, _, h1⟩
  subst hv
  have LZ : Hid (∀ wx : World, wx.heap[w.heap.size + 1]? = some (.cells zs 22 (0, 0)) → (loadVar 22 ⟨w.heap.size + 1, 0, none⟩).run Tryz.prog wx = .ok (.agg zs) wx) := Lib.hid (fun wx h => run_load_cl wx (w.heap.size + 1) 16 _ _ zs _ _ h rfl Tryz.underlying22 size_a16 ZCL.out.1)
  have OTH : Hid (∀ (wx : World) (cs : Array Value), (wx.setRow w.heap.size cs).heap[w.heap.size + 1]? = wx.heap[w.heap.size + 1]?) := Lib.hid (fun wx cs => setRow_other wx _ _ cs (by omega))
  clear D hown hb1 HR0 HL0 HB0
  by_cases e0 : er = 0
  · have q0 : ((er : Int) != 0) = false := int_nneq (by omega)
    by_cases h17 : m < 17
    · have F := Lib.hid (show R = 4 by rw [PF.out, if_neg (by omega), if_pos h17])
      have A4 : Hid (∀ (h : Int) (cs : Array Value) w', Cl 16 cs → Below w.heap.size w w' → RppPost (bs s) w (.returned (.tuple #[.int .i64 h, .agg cs, .int .i64 4])) w') := Lib.hid (fun h cs w' hc hb => by have := ANS.out h cs w' hc hb; rw [F.out] at this; exact this)
      go_upto_region 6 with fail
      obtain ⟨wd, hwd⟩ : ∃ wd, wd = w1.drew := ⟨_, rfl⟩
      have HS : (fun wx : World => wx.heap[w.heap.size + 1]? = some (.cells zs 22 (0, 0))) wd := by rw [hwd]; exact L1.out
      have RD : wd.heap[w.heap.size]? = some (.cells zs 22 (0, 0)) := by rw [hwd]; exact R1.out
      have BD : Below w.heap.size w wd := by rw [hwd]; exact B1.out.drew
      obtain ⟨ST, RES, BB⟩ := FIN.out wd zs ZCL.out RD BD
      have HS8 : (fun wx : World => wx.heap[w.heap.size + 1]? = some (.cells zs 22 (0, 0))) (wd.setRow w.heap.size zs) := (OTH.out wd zs).trans HS
      have RES := Lib.hid RES; have BB := Lib.hid BB
      refine wp_region_held (S := fun wx : World => wx.heap[w.heap.size + 1]? = some (.cells zs 22 (0, 0))) (by kernel_rfl) ?_
      change wpAnyH _ _ _ _ _ _ _ _ w1.drew
      rw [← hwd]
      clear hwd FIN
      refine takeV 0 (.agg zs) rfl (fun w' hw' => exec_load (ty := 22) (x := .tmp 5) (ad := ⟨w.heap.size + 1, 0, none⟩) rfl (by kernel_rfl) (LZ.out w' hw')) HS ?_
      refine anyH_step (i := 1) (v := .int .i64 0) (by kernel_rfl) rfl rfl (exec_assignV rfl (by kernel_rfl)) HS ?_
      refine anyH_stepS (i := 2) (by kernel_rfl) rfl rfl (exec_store (t := 22) (ad := ⟨w.heap.size, 0, none⟩) (u := .agg zs) rfl (by kernel_rfl) (by kernel_rfl) ST) HS8 ?_
      refine anyH_step (i := 3) (v := .int .i64 4) (by kernel_rfl) rfl rfl (exec_assignV rfl (by kernel_rfl)) HS8 ?_
      refine wpAnyH_done (by kernel_rfl) ?_ _
      clear HS HS8 ST RD BD
      go_simp
      refine ‹∀ (a : Act) (w_1 : World), _ → _› _ _ ?_
      go_wp2_with fail
      exact bodyPost_ret (RES.out _ rfl) rfl (A4.out _ _ _ ZCL.out BB.out)
    by_cases h18 : 17 < m
    · have F := Lib.hid (show R = 5 by rw [PF.out, if_neg (by omega), if_neg h17, if_pos h18])
      have A4 : Hid (∀ (h : Int) (cs : Array Value) w', Cl 16 cs → Below w.heap.size w w' → RppPost (bs s) w (.returned (.tuple #[.int .i64 h, .agg cs, .int .i64 5])) w') := Lib.hid (fun h cs w' hc hb => by have := ANS.out h cs w' hc hb; rw [F.out] at this; exact this)
      go_upto_region 8 with fail
      obtain ⟨wd, hwd⟩ : ∃ wd, wd = w1.drew := ⟨_, rfl⟩
      have HS : (fun wx : World => wx.heap[w.heap.size + 1]? = some (.cells zs 22 (0, 0))) wd := by rw [hwd]; exact L1.out
      have RD : wd.heap[w.heap.size]? = some (.cells zs 22 (0, 0)) := by rw [hwd]; exact R1.out
      have BD : Below w.heap.size w wd := by rw [hwd]; exact B1.out.drew
      obtain ⟨ST, RES, BB⟩ := FIN.out wd zs ZCL.out RD BD
      have HS8 : (fun wx : World => wx.heap[w.heap.size + 1]? = some (.cells zs 22 (0, 0))) (wd.setRow w.heap.size zs) := (OTH.out wd zs).trans HS
      have RES := Lib.hid RES; have BB := Lib.hid BB
      refine wp_region_held (S := fun wx : World => wx.heap[w.heap.size + 1]? = some (.cells zs 22 (0, 0))) (by kernel_rfl) ?_
      change wpAnyH _ _ _ _ _ _ _ _ w1.drew
      rw [← hwd]
      clear hwd FIN
      refine takeV 0 (.agg zs) rfl (fun w' hw' => exec_load (ty := 22) (x := .tmp 5) (ad := ⟨w.heap.size + 1, 0, none⟩) rfl (by kernel_rfl) (LZ.out w' hw')) HS ?_
      refine anyH_step (i := 1) (v := .int .i64 0) (by kernel_rfl) rfl rfl (exec_assignV rfl (by kernel_rfl)) HS ?_
      refine anyH_stepS (i := 2) (by kernel_rfl) rfl rfl (exec_store (t := 22) (ad := ⟨w.heap.size, 0, none⟩) (u := .agg zs) rfl (by kernel_rfl) (by kernel_rfl) ST) HS8 ?_
      refine anyH_step (i := 3) (v := .int .i64 5) (by kernel_rfl) rfl rfl (exec_assignV rfl (by kernel_rfl)) HS8 ?_
      refine wpAnyH_done (by kernel_rfl) ?_ _
      clear HS HS8 ST RD BD
      go_simp
      refine ‹∀ (a : Act) (w_1 : World), _ → _› _ _ ?_
      go_wp2_with fail
      exact bodyPost_ret (RES.out _ rfl) rfl (A4.out _ _ _ ZCL.out BB.out)
    obtain rfl : m = 17 := by omega
    obtain ⟨g, cap', hg⟩ := ownsRow_succ HOWN.out
    cases hg
    have hgl : w0.heap.size ≤ g := (HOWN.out.lt g rfl).1
    have CELL : Hid (∀ j, j < 17 → w1.cell? ⟨g, j, none⟩ = some (U (xs.getD j 0))) := Lib.hid (fun j hj => by
      rw [HOWN.out.cellAt j hj, List.getElem?_map]
      have hl : j < xs.length := by rw [← HM.out]; exact hj
      rw [List.getElem?_eq_getElem hl]; simp [List.getD, hl])
    obtain ⟨c, hc⟩ : ∃ c, c = xs.getD 0 0 := ⟨_, rfl⟩
    have c0 : w1.cell? ⟨g, 0, none⟩ = some (.int .u8 (c : Int)) := by rw [CELL.out 0 (by omega), hc]; rfl
    have hc2 : c < 256 := by rw [hc]; have hl : 0 < xs.length := by rw [← HM.out]; omega
                             have := XLT.out (xs[0]) (List.getElem_mem hl); simpa [List.getD, hl] using this
    have PG : Hid (R = if c < 1 ∨ 8 < c then 2 else 0) := Lib.hid (by rw [PF.out, if_neg (by omega), if_neg h17, if_neg h18, hc])
    clear hc PF
    rcases (by omega : c < 1 ∨ 8 < c ∨ (1 ≤ c ∧ c ≤ 8)) with h | h | ⟨h, h2⟩
    · have F := Lib.hid (show R = 2 by rw [PG.out, if_pos (.inl h)])
      have A4 : Hid (∀ (h : Int) (cs : Array Value) w', Cl 16 cs → Below w.heap.size w w' → RppPost (bs s) w (.returned (.tuple #[.int .i64 h, .agg cs, .int .i64 2])) w') := Lib.hid (fun h cs w' hc hb => by have := ANS.out h cs w' hc hb; rw [F.out] at this; exact this)
      go_upto_region 10 with fail
      obtain ⟨wd, hwd⟩ : ∃ wd, wd = w1.drew := ⟨_, rfl⟩
      have HS : (fun wx : World => wx.heap[w.heap.size + 1]? = some (.cells zs 22 (0, 0))) wd := by rw [hwd]; exact L1.out
      have RD : wd.heap[w.heap.size]? = some (.cells zs 22 (0, 0)) := by rw [hwd]; exact R1.out
      have BD : Below w.heap.size w wd := by rw [hwd]; exact B1.out.drew
      obtain ⟨ST, RES, BB⟩ := FIN.out wd zs ZCL.out RD BD
      have HS8 : (fun wx : World => wx.heap[w.heap.size + 1]? = some (.cells zs 22 (0, 0))) (wd.setRow w.heap.size zs) := (OTH.out wd zs).trans HS
      have RES := Lib.hid RES; have BB := Lib.hid BB
      refine wp_region_held (S := fun wx : World => wx.heap[w.heap.size + 1]? = some (.cells zs 22 (0, 0))) (by kernel_rfl) ?_
      change wpAnyH _ _ _ _ _ _ _ _ w1.drew
      rw [← hwd]
      clear hwd FIN
      refine takeV 0 (.agg zs) rfl (fun w' hw' => exec_load (ty := 22) (x := .tmp 5) (ad := ⟨w.heap.size + 1, 0, none⟩) rfl (by kernel_rfl) (LZ.out w' hw')) HS ?_
      refine anyH_step (i := 1) (v := .int .i64 0) (by kernel_rfl) rfl rfl (exec_assignV rfl (by kernel_rfl)) HS ?_
      refine anyH_stepS (i := 2) (by kernel_rfl) rfl rfl (exec_store (t := 22) (ad := ⟨w.heap.size, 0, none⟩) (u := .agg zs) rfl (by kernel_rfl) (by kernel_rfl) ST) HS8 ?_
      refine anyH_step (i := 3) (v := .int .i64 2) (by kernel_rfl) rfl rfl (exec_assignV rfl (by kernel_rfl)) HS8 ?_
      refine wpAnyH_done (by kernel_rfl) ?_ _
      clear HS HS8 ST RD BD
      go_simp
      refine ‹∀ (a : Act) (w_1 : World), _ → _› _ _ ?_
      go_wp2_with fail
      exact bodyPost_ret (RES.out _ rfl) rfl (A4.out _ _ _ ZCL.out BB.out)
    · have F := Lib.hid (show R = 2 by rw [PG.out, if_pos (.inr h)])
      have A4 : Hid (∀ (h : Int) (cs : Array Value) w', Cl 16 cs → Below w.heap.size w w' → RppPost (bs s) w (.returned (.tuple #[.int .i64 h, .agg cs, .int .i64 2])) w') := Lib.hid (fun h cs w' hc hb => by have := ANS.out h cs w' hc hb; rw [F.out] at this; exact this)
      go_upto_region 10 with fail
      obtain ⟨wd, hwd⟩ : ∃ wd, wd = w1.drew := ⟨_, rfl⟩
      have HS : (fun wx : World => wx.heap[w.heap.size + 1]? = some (.cells zs 22 (0, 0))) wd := by rw [hwd]; exact L1.out
      have RD : wd.heap[w.heap.size]? = some (.cells zs 22 (0, 0)) := by rw [hwd]; exact R1.out
      have BD : Below w.heap.size w wd := by rw [hwd]; exact B1.out.drew
      obtain ⟨ST, RES, BB⟩ := FIN.out wd zs ZCL.out RD BD
      have HS8 : (fun wx : World => wx.heap[w.heap.size + 1]? = some (.cells zs 22 (0, 0))) (wd.setRow w.heap.size zs) := (OTH.out wd zs).trans HS
      have RES := Lib.hid RES; have BB := Lib.hid BB
      refine wp_region_held (S := fun wx : World => wx.heap[w.heap.size + 1]? = some (.cells zs 22 (0, 0))) (by kernel_rfl) ?_
      change wpAnyH _ _ _ _ _ _ _ _ w1.drew
      rw [← hwd]
      clear hwd FIN
      refine takeV 0 (.agg zs) rfl (fun w' hw' => exec_load (ty := 22) (x := .tmp 5) (ad := ⟨w.heap.size + 1, 0, none⟩) rfl (by kernel_rfl) (LZ.out w' hw')) HS ?_
      refine anyH_step (i := 1) (v := .int .i64 0) (by kernel_rfl) rfl rfl (exec_assignV rfl (by kernel_rfl)) HS ?_
      refine anyH_stepS (i := 2) (by kernel_rfl) rfl rfl (exec_store (t := 22) (ad := ⟨w.heap.size, 0, none⟩) (u := .agg zs) rfl (by kernel_rfl) (by kernel_rfl) ST) HS8 ?_
      refine anyH_step (i := 3) (v := .int .i64 2) (by kernel_rfl) rfl rfl (exec_assignV rfl (by kernel_rfl)) HS8 ?_
      refine wpAnyH_done (by kernel_rfl) ?_ _
      clear HS HS8 ST RD BD
      go_simp
      refine ‹∀ (a : Act) (w_1 : World), _ → _› _ _ ?_
      go_wp2_with fail
      exact bodyPost_ret (RES.out _ rfl) rfl (A4.out _ _ _ ZCL.out BB.out)
    · have F := Lib.hid (show R = 0 by rw [PG.out, if_neg (by omega)])
      have A4 : Hid (∀ (h : Int) (cs : Array Value) w', Cl 16 cs → Below w.heap.size w w' → RppPost (bs s) w (.returned (.tuple #[.int .i64 h, .agg cs, .int .i64 0])) w') := Lib.hid (fun h cs w' hc hb => by have := ANS.out h cs w' hc hb; rw [F.out] at this; exact this)
      clear LZ PG
      go_wp2_with fail
      go_loopg [9] 16 (fun k i wr => ∃ j : Nat, j ≤ 16 ∧ k = 16 - j ∧ i = .int .i64 (j : Int) ∧ Hid (∃ cs, wr.heap[w.heap.size + 1]? = some (.cells cs 22 (0, 0)) ∧ Cl 16 cs) ∧ Hid (wr.heap[w.heap.size]? = some (.cells zs 22 (0, 0))) ∧ Hid (wr.heap[g]? = w1.heap[g]?) ∧ Hid (Below w.heap.size w wr))
      case atStart => exact ⟨0, by omega, rfl, rfl, Lib.hid ⟨zs, L1.out, ZCL.out⟩, R1, Lib.hid rfl, B1⟩
      case round =>
        obtain ⟨j, hj, rfl, rfl, hcs, hres, hgg, hbel⟩ := hrel
        obtain ⟨rs, hcell, hcl⟩ := hcs.out
        by_cases hlt : j < 16
        · obtain ⟨z, hz⟩ : ∃ z, z = xs.getD (j + 1) 0 := ⟨_, rfl⟩
          have cz : wr.cell? ⟨g, j + 1, none⟩ = some (.int .u8 (z : Int)) := by
            have h := CELL.out (j + 1) (by omega)
            rw [← hz] at h
            have e : wr.cell? ⟨g, j + 1, none⟩ = w1.cell? ⟨g, j + 1, none⟩ := by unfold World.cell?; simp only [hgg.out]
            exact e.trans h
          obtain ⟨u, hu⟩ : ∃ u, wr.cell? ⟨w.heap.size + 1, j, none⟩ = some u := ⟨rs[j]'(by rw [hcl.1]; omega), by rw [cell_of_row wr _ j _ _ _ hcell]; simp [hcl.1, hlt]⟩
          have hfr : wr.frozen? ⟨w.heap.size + 1, j, none⟩ = false := by simp [World.frozen?, hcell]
          have k0 : (0 : Int) ≤ (j : Int) := by omega
          have k1 : (j : Int) < 16 := by omega
          have k2 : (0 : Int) ≤ (j : Int) + 1 := by omega
          have k3 : (j : Int) + 1 < 17 := by omega
          have v0 : IntKind.i64.wrap (j : Int) = (j : Int) := IntWalk.i64_in _ (by omega)
          have v1 : IntKind.i64.wrap ((j : Int) + 1) = (j : Int) + 1 := IntWalk.i64_in _ (by omega)
          have C2 : Hid (∃ cs, (wr.setCell ⟨w.heap.size + 1, j, none⟩ (.int .u8 (z : Int))).heap[w.heap.size + 1]? = some (.cells cs 22 (0, 0)) ∧ Cl 16 cs) := Lib.hid ⟨_, setB hcell j _, cl_set hcl j rfl⟩
          have R2 : Hid ((wr.setCell ⟨w.heap.size + 1, j, none⟩ (.int .u8 (z : Int))).heap[w.heap.size]? = some (.cells zs 22 (0, 0))) := Lib.hid (by rw [Below.heap_setCell _ _ _ _ (show w.heap.size ≠ w.heap.size + 1 by omega)]; exact hres.out)
          have G2 : Hid ((wr.setCell ⟨w.heap.size + 1, j, none⟩ (.int .u8 (z : Int))).heap[g]? = w1.heap[g]?) := Lib.hid (by rw [Below.heap_setCell _ _ _ _ (show g ≠ w.heap.size + 1 by have := HS0.out; omega)]; exact hgg.out)
          have BW : Hid (Below w.heap.size w (wr.setCell ⟨w.heap.size + 1, j, none⟩ (.int .u8 (z : Int)))) := Lib.hid (hbel.out.setCell (p := ⟨w.heap.size + 1, j, none⟩) (Nat.le_succ _) _)
          clear hcs hcell hcl hz hgg hres hbel FIN CELL
          go_wp2_with fail
          go_roundg (16 - (j + 1))
          case measure => omega
          case rel => exact ⟨j + 1, by omega, rfl, by go_num, C2, R2, G2, BW⟩
        · obtain rfl : j = 16 := by omega
          go_upto_region 15 with fail
          obtain ⟨wd, hwd⟩ : ∃ wd, wd = wr.drew := ⟨_, rfl⟩
          have RL := Lib.hid hcl
          have cg : wd.cell? ⟨g, 0, none⟩ = some (.int .u8 (c : Int)) := by
            have e : wd.cell? ⟨g, 0, none⟩ = w1.cell? ⟨g, 0, none⟩ := by
              have h : wd.heap[g]? = w1.heap[g]? := by rw [hwd]; exact hgg.out
              unfold World.cell?; simp only [h]
            exact e.trans c0
          have HS : (fun wx : World => wx.cell? ⟨g, 0, none⟩ = some (.int .u8 (c : Int)) ∧ wx.heap[w.heap.size + 1]? = some (.cells rs 22 (0, 0))) wd := ⟨cg, by rw [hwd]; exact hcell⟩
          have RD : wd.heap[w.heap.size]? = some (.cells zs 22 (0, 0)) := by rw [hwd]; exact hres.out
          have BD : Below w.heap.size w wd := by rw [hwd]; exact hbel.out.drew
          obtain ⟨ST, RES, BB⟩ := FIN.out wd rs RL.out RD BD
          have HS8 : (fun wx : World => wx.cell? ⟨g, 0, none⟩ = some (.int .u8 (c : Int)) ∧ wx.heap[w.heap.size + 1]? = some (.cells rs 22 (0, 0))) (wd.setRow w.heap.size rs) := ⟨by
            have e : (wd.setRow w.heap.size rs).cell? ⟨g, 0, none⟩ = wd.cell? ⟨g, 0, none⟩ := by
              have h : (wd.setRow w.heap.size rs).heap[g]? = wd.heap[g]? := setRow_other wd _ _ rs (by have := HS0.out; omega)
              unfold World.cell?; simp only [h]
            exact e.trans cg, (OTH.out wd rs).trans HS.2⟩
          have RES := Lib.hid RES; have BB := Lib.hid BB
          have LZ : Hid (∀ wx : World, wx.heap[w.heap.size + 1]? = some (.cells rs 22 (0, 0)) → (loadVar 22 ⟨w.heap.size + 1, 0, none⟩).run Tryz.prog wx = .ok (.agg rs) wx) := Lib.hid (fun wx h => run_load_cl wx (w.heap.size + 1) 16 _ _ rs _ _ h rfl Tryz.underlying22 size_a16 RL.out.1)
          have vc : IntKind.i64.wrap (c : Int) = (c : Int) := IntWalk.i64_in _ (by omega)
          refine wp_region_held (S := fun wx : World => wx.cell? ⟨g, 0, none⟩ = some (.int .u8 (c : Int)) ∧ wx.heap[w.heap.size + 1]? = some (.cells rs 22 (0, 0))) (by kernel_rfl) ?_
          change wpAnyH _ _ _ _ _ _ _ _ wr.drew
          rw [← hwd]
          clear hwd FIN hcell hcl hcs hgg hres hbel CELL c0 cg
          refine takeV 0 (.slice (some ⟨g, 0, none⟩) 17 cap) rfl (fun _ _ => by go_simp) HS ?_
          refine takeV 1 (.pointer (some ⟨g, 0, none⟩)) rfl (fun _ _ => by go_simp) HS ?_
          refine takeV 2 (.int .u8 (c : Int)) rfl (fun w' hw' => by obtain ⟨c3, c4⟩ := hw'; go_simp) HS ?_
          refine takeV 3 (.int .i64 (c : Int)) rfl (fun _ _ => by go_simp) HS ?_
          refine takeV 4 (.agg rs) rfl (fun w' hw' => exec_load (ty := 22) (x := .tmp 5) (ad := ⟨w.heap.size + 1, 0, none⟩) rfl (by kernel_rfl) (LZ.out w' hw'.2)) HS ?_
          refine anyH_step (i := 5) (v := .int .i64 (c : Int)) (by kernel_rfl) rfl rfl (exec_assignV rfl (by kernel_rfl)) HS ?_
          refine anyH_stepS (i := 6) (by kernel_rfl) rfl rfl (exec_store (t := 22) (ad := ⟨w.heap.size, 0, none⟩) (u := .agg rs) rfl (by kernel_rfl) (by kernel_rfl) ST) HS8 ?_
          refine anyH_step (i := 7) (v := .int .i64 0) (by kernel_rfl) rfl rfl (exec_assignV rfl (by kernel_rfl)) HS8 ?_
          refine wpAnyH_done (by kernel_rfl) ?_ _
          clear HS HS8 ST RD BD
          go_simp
          refine ‹∀ (a : Act) (w_1 : World), _ → _› _ _ ?_
          go_wp2_with fail
          exact bodyPost_ret (RES.out _ rfl) rfl (A4.out _ _ _ RL.out BB.out)
  · have q0 : ((er : Int) != 0) = true := int_neq (by omega)
    have F := Lib.hid (show R = er by rw [PF.out, if_pos e0])
    have A4 : Hid (∀ (h : Int) (cs : Array Value) w', Cl 16 cs → Below w.heap.size w w' → RppPost (bs s) w (.returned (.tuple #[.int .i64 h, .agg cs, .int .i64 (er : Int)])) w') := Lib.hid (fun h cs w' hc hb => by have := ANS.out h cs w' hc hb; rw [F.out] at this; exact this)
    go_upto_region 4 with fail
    obtain ⟨wd, hwd⟩ : ∃ wd, wd = w1.drew := ⟨_, rfl⟩
    have HS : (fun wx : World => wx.heap[w.heap.size + 1]? = some (.cells zs 22 (0, 0))) wd := by rw [hwd]; exact L1.out
    have RD : wd.heap[w.heap.size]? = some (.cells zs 22 (0, 0)) := by rw [hwd]; exact R1.out
    have BD : Below w.heap.size w wd := by rw [hwd]; exact B1.out.drew
    obtain ⟨ST, RES, BB⟩ := FIN.out wd zs ZCL.out RD BD
    have HS8 : (fun wx : World => wx.heap[w.heap.size + 1]? = some (.cells zs 22 (0, 0))) (wd.setRow w.heap.size zs) := (OTH.out wd zs).trans HS
    have RES := Lib.hid RES; have BB := Lib.hid BB
    refine wp_region_held (S := fun wx : World => wx.heap[w.heap.size + 1]? = some (.cells zs 22 (0, 0))) (by kernel_rfl) ?_
    change wpAnyH _ _ _ _ _ _ _ _ w1.drew
    rw [← hwd]
    clear hwd FIN
    refine takeV 0 (.agg zs) rfl (fun w' hw' => exec_load (ty := 22) (x := .tmp 5) (ad := ⟨w.heap.size + 1, 0, none⟩) rfl (by kernel_rfl) (LZ.out w' hw')) HS ?_
    refine takeV 1 (.int .i64 (er : Int)) rfl (fun _ _ => by go_simp) HS ?_
    refine anyH_step (i := 2) (v := .int .i64 0) (by kernel_rfl) rfl rfl (exec_assignV rfl (by kernel_rfl)) HS ?_
    refine anyH_stepS (i := 3) (by kernel_rfl) rfl rfl (exec_store (t := 22) (ad := ⟨w.heap.size, 0, none⟩) (u := .agg zs) rfl (by kernel_rfl) (by kernel_rfl) ST) HS8 ?_
    refine anyH_step (i := 4) (v := .int .i64 (er : Int)) (by kernel_rfl) rfl rfl (exec_assignV rfl (by kernel_rfl)) HS8 ?_
    refine wpAnyH_done (by kernel_rfl) ?_ _
    clear HS HS8 ST RD BD
    go_simp
    refine ‹∀ (a : Act) (w_1 : World), _ → _› _ _ ?_
    go_wp2_with fail
    exact bodyPost_ret (RES.out _ rfl) rfl (A4.out _ _ _ ZCL.out BB.out)
end Go.Proofs.YtohmdledkhgdaaaGreatDoor
/- Plain: the words of a command, one after the other, as the reference's Parse meets them. -/
namespace Go.Proofs.YtohmdledkhgdaaaGreatDoor
set_option linter.unusedVariables false
theorem spl_tw (c : Nat) : ∀ l : List Nat, spl c l = (l.takeWhile fun x => !decide (x = c)) :: (match l.dropWhile fun x => !decide (x = c) with | [] => [] | _ :: u => spl c u)
  | [] => rfl
  | x :: t => by
    simp only [spl]
    by_cases h : x = c
    · rw [if_pos h, List.takeWhile_cons, List.dropWhile_cons]; simp [h]
    · rw [if_neg h, spl_tw c t, List.takeWhile_cons, List.dropWhile_cons]; simp [h]
/-- The words that follow (each rest begins with its space). -/
def rst (t : List Nat) : List (List Nat) := match t with
  | [] => []
  | _ :: u => spl 32 u
/-- The error of a word of a sort. -/
def wordE (a : Nat) (x : List Nat) : Nat := if a = 0 then tgtF x else if a = 1 then grpF x else if a = 2 then numF 0 1000000 x else if a = 3 then (if x = wOpen ∨ x = wMod then 0 else 3) else if a = 4 then modsF x else if a = 5 then numF 1 1000 x else pubF x
/-- The sorts of the words of a kind. -/
def sortsN (k : Nat) : List Nat := if k = 1 then [0] else if k = 2 then [0, 1] else if k = 3 then [1, 2, 3, 4] else if k = 4 then [1, 2] else [5, 6]
def endF (k : Nat) (t : List Nat) : Nat := if k = 3 then restF t else fin t
/-- The words of the sorts that are still to come; m: moderated. -/
def chF (k : Nat) : List Nat → Bool → List Nat → Nat
  | [], _, t => endF k t
  | a :: r, m, t => if a = 4 ∧ m = false then chF k r m t else nxt t fun x t => fe (wordE a x) (chF k r (if a = 3 then decide (x = wMod) else m) t)
def kindN (x : List Nat) : Nat := if x = kRekey then 5 else if x = kRemove then 4 else if x = kDefine then 3 else if x = kApprove then 2 else if x = kCancel then 1 else 0
theorem nxt_congr {t : List Nat} {f g : List Nat → List Nat → Nat} (h : ∀ x t, f x t = g x t) : nxt t f = nxt t g := by
  unfold nxt; split
  · rfl
  · exact h _ _
theorem cmdK_ch (k t : List Nat) : cmdK k t = if kindN k = 0 then 11 else chF (kindN k) (sortsN (kindN k)) false t := by
  unfold cmdK kindN
  by_cases h5 : k = kRekey
  · subst h5; rfl
  by_cases h4 : k = kRemove
  · subst h4; rfl
  by_cases h3 : k = kDefine
  · subst h3
    rw [if_neg (by decide), if_neg (by decide), if_pos rfl]
    show _ = nxt t fun g t => fe (grpF g) (nxt t fun v t => fe (numF 0 1000000 v) (nxt t fun m t => fe (if m = wOpen ∨ m = wMod then 0 else 3) (if 4 = 4 ∧ decide (m = wMod) = false then restF t else nxt t fun a t => fe (modsF a) (restF t))))
    refine nxt_congr fun g t => ?_
    refine congrArg (fe (grpF g)) (nxt_congr fun v t => ?_)
    refine congrArg (fe (numF 0 1000000 v)) (nxt_congr fun m t => ?_)
    by_cases ho : m = wOpen
    · subst ho; rfl
    · by_cases hm : m = wMod
      · subst hm; rfl
      · simp [ho, hm, fe]
  by_cases h2 : k = kApprove
  · subst h2; rfl
  by_cases h1 : k = kCancel
  · subst h1; rfl
  rw [if_neg h1, if_neg h2, if_neg h3, if_neg h4, if_neg h5, if_neg h5, if_neg h4, if_neg h3, if_neg h2, if_neg h1]
  rfl
/-- The state of the words: t, what follows; ws, its words. -/
theorem rst_drop (s : List Nat) (at' : Nat) (x : List Nat) (r : List (List Nat)) (h : rst (s.drop at') = x :: r) :
    at' < s.length ∧ (∃ u, s.drop at' = u ∧ u ≠ [] ∧ x = (u.drop 1).takeWhile (fun c => !decide (c = 32)) ∧ s.drop (at' + 1 + x.length) = (u.drop 1).dropWhile (fun c => !decide (c = 32))) ∧ rst (s.drop (at' + 1 + x.length)) = r ∧ at' + 1 + x.length ≤ s.length := by
  generalize hu : s.drop at' = u at h ⊢
  match u, h with
  | [], h => simp [rst] at h
  | y :: u, h =>
    have hl : at' < s.length := by
      have := congrArg List.length hu
      simp at this; omega
    simp only [rst] at h
    rw [spl_tw] at h
    injection h with h1 h2
    have e : u = x ++ u.dropWhile (fun c => !decide (c = 32)) := by rw [← h1]; exact (List.takeWhile_append_dropWhile).symm
    have e2 : s.drop (at' + 1 + x.length) = u.dropWhile (fun c => !decide (c = 32)) := by
      rw [← List.drop_drop, ← List.drop_drop, hu]
      show List.drop x.length u = _
      rw [e]
      simp
      rw [← e]
    refine ⟨hl, ⟨_, rfl, by simp, h1.symm, e2⟩, ?_, ?_⟩
    · rw [e2]; exact h2
    · have := congrArg List.length e
      have h3 := congrArg List.length hu
      simp at this h3
      omega
theorem ch_skip {k : Nat} {r : List Nat} {t : List Nat} : chF k (4 :: r) false t = chF k r false t := by simp [chF]
theorem ch_short {k a : Nat} {r : List Nat} {m : Bool} (h : ¬ (a = 4 ∧ m = false)) : chF k (a :: r) m [] = 4 := by simp only [chF]; rw [if_neg h]; rfl
theorem ch_word {k a : Nat} {r : List Nat} {m : Bool} {s : List Nat} {at' : Nat} {x : List Nat} {ws : List (List Nat)} (h : ¬ (a = 4 ∧ m = false)) (hr : rst (s.drop at') = x :: ws) :
    chF k (a :: r) m (s.drop at') = fe (wordE a x) (chF k r (if a = 3 then decide (x = wMod) else m) (s.drop (at' + 1 + x.length))) := by
  obtain ⟨_, ⟨u, h1, h2, h3, h4⟩, _, _⟩ := rst_drop s at' x ws hr
  rw [h1, h4]
  match u, h2 with
  | y :: u, _ =>
    simp only [chF]
    rw [if_neg h]
    simp only [nxt]
    simp only [List.drop_succ_cons, List.drop_zero] at h3 ⊢
    rw [← h3]
theorem tw_drop (p : Nat → Bool) : ∀ s : List Nat, s.drop (s.takeWhile p).length = s.dropWhile p
  | [] => rfl
  | x :: s => by
    simp only [List.takeWhile_cons, List.dropWhile_cons]
    split
    · simpa using tw_drop p s
    · rfl
theorem cmdF_start (s : List Nat) (hl : s.length ≤ 1000) : ∃ x ws, spl 32 s = x :: ws ∧ x = s.takeWhile (fun c => !decide (c = 32)) ∧ rst (s.drop x.length) = ws ∧ x.length ≤ s.length ∧ cmdF s = if kindN x = 0 then 11 else chF (kindN x) (sortsN (kindN x)) false (s.drop x.length) := by
  refine ⟨_, _, spl_tw 32 s, rfl, ?_⟩
  have e : s = s.takeWhile (fun c => !decide (c = 32)) ++ s.dropWhile (fun c => !decide (c = 32)) := (List.takeWhile_append_dropWhile).symm
  have e2 := tw_drop (fun c => !decide (c = 32)) s
  rw [e2]
  refine ⟨rfl, ?_, ?_⟩
  · have := congrArg List.length e; rw [List.length_append] at this; omega
  · unfold cmdF; rw [if_neg (by omega), cmdK_ch]
end Go.Proofs.YtohmdledkhgdaaaGreatDoor
