/- bulletinref11.Parse. -/
import Derived.Test.YtohmdledkhgdaaaGreatDoorLo35
namespace Go.Proofs.YtohmdledkhgdaaaGreatDoor
open Go.RowKit
set_option linter.unusedVariables false
set_option maxRecDepth 100000
def endS : ByteArray := ⟨#[64, 104, 97, 115, 104, 62]⟩
theorem endS_bs : bs endS = sHash := by decide
set_option maxHeartbeats 4000000 in
theorem rmid11_any (s : ByteArray) (w : World) (hs : s.size ≤ 10000000) :
    Calls Tryz.prog 167 #[.string s] w (MpPost (bs s) w) := by
  obtain ⟨zs, hzs⟩ : ∃ zs, zs = idA zero32 := ⟨_, rfl⟩
  have LEN := Lib.hid (bs_length s)
  have HZS := Lib.hid hzs
  have zc : Cl 32 zs := by rw [hzs]; exact ⟨by rw [idA_size]; rfl, one_idA _⟩
  have ZCL := Lib.hid zc
  have BU : Hid (∀ w, (Instr.build 124 #[]).run Tryz.prog w = .ok (.agg zs) w) := Lib.hid (fun w => by rw [hzs]; kernel_rfl)
  have START : Hid ((w.alloc (.cells (Array.replicate 32 (.int .u8 0)) 124)).alloc (.cells (Array.replicate 32 (.int .u8 0)) 124) = (w.alloc (.cells zs 124)).alloc (.cells zs 124)) := Lib.hid (by rw [hzs]; rfl)
  have SZ : (Tryz.prog.info? 124).map (·.size) = some 32 := by kernel_rfl
  have FIN : Hid (∀ (w4 : World) (cs : Array Value), Cl 32 cs → w4.heap[w.heap.size]? = some (.cells zs 124 (0, 0)) → Below w.heap.size w w4 →
      (storeVar 124 ⟨w.heap.size, 0, none⟩ (.agg cs)).run Tryz.prog w4 = .ok () (w4.setRow w.heap.size cs) ∧
      (∀ tmps : Array Value, tmps.getD 2 undef = .pointer (some ⟨w.heap.size, 0, none⟩) → (results Tryz.f167 tmps).run Tryz.prog (w4.setRow w.heap.size cs) = .ok (.tuple #[.agg cs, tmps.getD 3 undef, tmps.getD 4 undef]) (w4.setRow w.heap.size cs)) ∧
      Below w.heap.size w (w4.setRow w.heap.size cs)) := Lib.hid (fun w4 cs hcl hg hb =>
    ⟨run_storeVar_row (P := Tryz.prog) w4 w.heap.size _ 124 zs cs hg (by rw [hcl.1]; exact SZ) (by rw [hcl.1, ZCL.out.1]) hcl.2,
     fun tmps h2 => results_cell_tmp2 Tryz.results167 tmps _ w.heap.size _ _ _ _ h2 (setRow_heap w4 w.heap.size zs cs _ _ hg) Tryz.underlying124 rfl (by rw [hcl.1]; exact SZ),
     below_setRow hb (Nat.le_refl _) cs⟩)
  have NO : Hid (midP (bs s) = none → ∀ a er : Int, er ≠ 0 → ∀ w', Below w.heap.size w w' → MpPost (bs s) w (.returned (.tuple #[.agg zs, .int .i64 a, .int .i64 er])) w') := Lib.hid (fun h a er he w' hb => ⟨a, er, by rw [h, HZS.out]; exact ⟨rfl, he⟩, hb⟩)
  have BAD : Hid (∀ j, j < 71 → j < s.size → fitB j ((bs s).getD j 0) = false → midP (bs s) = none) := Lib.hid (fun j h1 h2 h3 => mid_bad h1 (by rw [LEN.out]; exact h2) h3)
  obtain ⟨mn, hmn⟩ : ∃ mn : Nat, mn = min s.size 71 := ⟨_, rfl⟩
  have hm1 : mn ≤ s.size := by omega
  have hm2 : mn ≤ 71 := by omega
  have HMN := Lib.hid hmn
  obtain ⟨D, hD⟩ : ∃ D, D = ((bs s).drop 1).take 64 := ⟨_, rfl⟩
  have DAT : Hid (∀ j, j < 64 → D.getD j 0 = (bs s).getD (1 + j) 0) := Lib.hid (fun j hj => by rw [hD, getD_take hj, getD_drop])
  have HD := Lib.hid hD
  have PZ : Hid (zs = idA (pn 32 D 0)) := Lib.hid (by rw [hzs, pn_zero]; rfl)
  have SZh := Lib.hid SZ
  clear hzs hmn hD zc SZ
  go_enter Tryz.func167, Tryz.ntmps167
  go_wp2_with fail
  go_loopg [7] mn (fun k i wr => ∃ j : Nat, j ≤ mn ∧ k = mn - j ∧ i = .int .i64 (j : Int) ∧ Hid (∀ q, q < j → fitB q ((bs s).getD q 0) = true) ∧ Hid (wr.heap[w.heap.size]? = some (.cells zs 124 (0, 0))) ∧ Hid (wr.heap[w.heap.size + 1]? = some (.cells (idA (pn 32 D (min (j - 1) 64))) 124 (0, 0))) ∧ Hid (Below w.heap.size w wr))
  case atStart =>
    refine ⟨0, by omega, rfl, rfl, Lib.hid (fun q hq => by omega), Lib.hid ?_, Lib.hid ?_, Lib.hid (((Below.refl _ _).alloc (Nat.le_refl _) _).alloc (by simp) _)⟩
    · have h : ((w.alloc (.cells zs 124)).alloc (.cells zs 124)).heap[w.heap.size]? = some (.cells zs 124 (0, 0)) := alloc_block (heap_alloc_last w _)
      rw [← START.out] at h
      exact h
    · have h := heap_alloc_last (w.alloc (.cells zs 124)) (.cells zs 124)
      rw [World.size_alloc, ← START.out] at h
      show _ = some (Obj.cells (idA (pn 32 D 0)) _ _)
      rw [← PZ.out]
      exact h
  case round =>
    obtain ⟨j, hj, rfl, rfl, hg, hres, hcell, hbel⟩ := hrel
    by_cases hlt : j < mn
    · obtain ⟨c, hc⟩ : ∃ c, c = (bs s).getD j 0 := ⟨_, rfl⟩
      have hc2 : c < 256 := by rw [hc]; exact bs_lt' s j
      have y1 := fun w => idx_q s w j j rfl (by omega) c hc
      have HC := Lib.hid hc
      have G2 : Hid (fitB j c = true → ∀ q, q < j + 1 → fitB q ((bs s).getD q 0) = true) := Lib.hid (fun h q hq => by
        by_cases e : q = j
        · rw [e, ← hc]; exact h
        · exact hg.out q (by omega))
      have NN := Lib.hid (fun h : fitB j c = false => NO.out (BAD.out j (by omega) (by omega) (by rw [← hc]; exact h)))
      clear hc hg
      rcases (by omega : j = 0 ∨ (1 ≤ j ∧ j ≤ 64) ∨ 64 < j) with h0 | ⟨h0, h64⟩ | h64
      · have y0 := fun w => idx_q s w 0 0 rfl (by omega) c (by rw [HC.out, h0])
        have n0 : ((j : Int) == 0) = true := int_eq (by omega)
        clear y1
        by_cases e : c = 60
        · have q1 : ((c : Int) != 60) = false := int_nneq (by omega)
          have G3 := Lib.hid (G2.out (by unfold fitB; rw [if_pos (by omega), decide_eq_true e]))
          have CL2 : Hid (wr.heap[w.heap.size + 1]? = some (.cells (idA (pn 32 D (min (j + 1 - 1) 64))) 124 (0, 0))) := Lib.hid (by
            have := hcell.out
            rw [show min (j - 1) 64 = 0 by omega] at this
            rw [show min (j + 1 - 1) 64 = 0 by omega]
            exact this)
          clear e G2 NN NO FIN BU START PZ
          go_wp2_with fail
          go_roundg (mn - (j + 1))
          case measure => omega
          case rel => exact ⟨j + 1, by omega, rfl, by go_num, G3, by (first | exact hres | exact Lib.hid hres.out), by (first | exact CL2 | exact Lib.hid CL2.out), by (first | exact hbel | exact Lib.hid hbel.out.drew)⟩
        · have q1 : ((c : Int) != 60) = true := int_neq (by omega)
          have N3 := Lib.hid (NN.out (by unfold fitB; rw [if_pos (by omega), decide_eq_false e]))
          obtain ⟨ST, RES, BB⟩ := FIN.out wr zs ZCL.out hres.out hbel.out
          have ST := Lib.hid ST; have RES := Lib.hid RES; have BB := Lib.hid BB
          clear e G2 NN NO FIN
          go_wp2_with (first
            | ((with_reducible refine wpList_build0 124 rfl rfl ?_); refine ⟨_, BU.out _, ?_⟩)
            | ((with_reducible refine wpList_store 124 rfl _ _ rfl ?_); refine ⟨_, _, _, rfl, rfl, ST.out, ?_⟩))
          exact bodyPost_ret (RES.out _ rfl) rfl (N3.out _ 6 (by decide) _ BB.out)
      · have n0 : ((j : Int) == 0) = false := int_ne (by omega)
        have IX := Lib.hid (fun w => rdig11_any w c hc2)
        by_cases hd : hdB c = true
        · rw [hvz_good hd] at IX
          obtain ⟨y, hy⟩ : ∃ y, y = hv c := ⟨_, rfl⟩
          have hy16 : y < 16 := by rw [hy]; exact hv_lt c
          rw [← hy] at IX
          obtain ⟨k, hk⟩ : ∃ k, k = (j - 1) / 2 := ⟨_, rfl⟩
          have hk16 : k < 32 := by omega
          have emin : min (j - 1) 64 = j - 1 := by omega
          have hcl := hcell.out
          rw [emin] at hcl
          obtain ⟨v, hv'⟩ : ∃ v, (pn 32 D (j - 1))[k]? = some v := ⟨_, pn_at hk16⟩
          obtain ⟨hst, hv16⟩ := pn_step hk (by omega) hv'
          rw [DAT.out (j - 1) (by omega), show 1 + (j - 1) = j by omega, ← HC.out, ← hy] at hst
          have hc1 : wr.cell? ⟨w.heap.size + 1, k, none⟩ = some (.int .u8 (v : Int)) := by rw [cell_of_row wr _ k _ _ _ hcl]; unfold idA; rw [List.getElem?_toArray, List.getElem?_map, hv']; rfl
          have hc1d : wr.drew.cell? ⟨w.heap.size + 1, k, none⟩ = some (.int .u8 (v : Int)) := hc1
          have hfk : wr.frozen? ⟨w.heap.size + 1, k, none⟩ = false := by simp [World.frozen?, hcl]
          have hfkd : wr.drew.frozen? ⟨w.heap.size + 1, k, none⟩ = false := hfk
          obtain ⟨z, hz⟩ : ∃ z, z = v * 16 + y := ⟨_, rfl⟩
          rw [← hz] at hst
          have s1 : IntKind.u8.wrap ((v : Int) * 16) = (v : Int) * 16 := by rw [IntKind.wrap_u8]; omega
          have s3 : IntKind.u8.wrap (y : Int) = (y : Int) := by rw [IntKind.wrap_u8]; omega
          have s2 : IntKind.u8.wrap ((v : Int) * 16 + (y : Int)) = (z : Int) := by rw [IntKind.wrap_u8]; omega
          have hdv : Int.tdiv ((j : Int) - 1) 2 = (k : Int) := by rw [Int.tdiv_eq_ediv_of_nonneg (by omega)]; omega
          have wk : IntKind.i64.wrap (k : Int) = (k : Int) := IntWalk.i64_in _ (by omega)
          have HW : Hid (∀ w2 : World, w2.heap[w.heap.size + 1]? = wr.heap[w.heap.size + 1]? → (w2.setCell ⟨w.heap.size + 1, k, none⟩ (.int .u8 (z : Int))).heap[w.heap.size + 1]? = some (.cells (idA (pn 32 D (min (j + 1 - 1) 64))) 124 (0, 0))) := Lib.hid (fun w2 h2 => by
            rw [show min (j + 1 - 1) 64 = j - 1 + 1 by omega, hst, ← idA_set]; exact setB (h2.trans hcl) k _)
          have RW : Hid (∀ w2 : World, w2.heap[w.heap.size]? = wr.heap[w.heap.size]? → (w2.setCell ⟨w.heap.size + 1, k, none⟩ (.int .u8 (z : Int))).heap[w.heap.size]? = some (.cells zs 124 (0, 0))) := Lib.hid (fun w2 h2 => by
            rw [Below.heap_setCell _ _ _ _ (show w.heap.size ≠ w.heap.size + 1 by omega)]; exact h2.trans hres.out)
          have BW : Hid (∀ w2 : World, Below w.heap.size w w2 → Below w.heap.size w (w2.setCell ⟨w.heap.size + 1, k, none⟩ (.int .u8 (z : Int)))) := Lib.hid (fun w2 h2 => h2.setCell (p := ⟨w.heap.size + 1, k, none⟩) (Nat.le_succ _) _)
          have BD := Lib.hid hbel.out.drew
          have G3 := Lib.hid (G2.out (by unfold fitB; rw [if_neg (by omega), if_pos (by omega)]; exact hd))
          clear hd hy hv' hst hz hcell hres FIN NO BU START hk PZ hcl emin G2 NN
          go_wp2_with (go_at_call 208; refine (IX.out _).mono ?_; rintro e w' ⟨rfl, rfl⟩)
          go_roundg (mn - (j + 1))
          case measure => omega
          case rel => exact ⟨j + 1, by omega, rfl, by go_num, G3, Lib.hid (RW.out _ rfl), Lib.hid (HW.out _ rfl), Lib.hid (BW.out _ (by first | exact hbel.out | exact BD.out))⟩
        · have hd' : hdB c = false := by simpa using hd
          rw [hvz_bad hd'] at IX
          have N3 := Lib.hid (NN.out (by unfold fitB; rw [if_neg (by omega), if_pos (by omega)]; exact hd'))
          obtain ⟨ST, RES, BB⟩ := FIN.out wr zs ZCL.out hres.out hbel.out
          have ST := Lib.hid ST; have RES := Lib.hid RES; have BB := Lib.hid BB
          clear hd hd' FIN NO G2 NN
          go_wp2_with (first
            | (go_at_call 208; refine (IX.out _).mono ?_; rintro e w' ⟨rfl, rfl⟩)
            | ((with_reducible refine wpList_build0 124 rfl rfl ?_); refine ⟨_, BU.out _, ?_⟩)
            | ((with_reducible refine wpList_store 124 rfl _ _ rfl ?_); refine ⟨_, _, _, rfl, rfl, ST.out, ?_⟩))
          exact bodyPost_ret (RES.out _ rfl) rfl (N3.out _ 6 (by decide) _ BB.out)
      · have n0 : ((j : Int) == 0) = false := int_ne (by omega)
        obtain ⟨x, hx⟩ : ∃ x, x = sHash.getD (j - 65) 0 := ⟨_, rfl⟩
        generalize hE : ({ data := #[64, 104, 97, 115, 104, 62] } : ByteArray) = E
        have hE2 : E = endS := hE.symm
        have es : E.size = 6 := by rw [hE2]; rfl
        have y2 := fun w => idx_q E w ((j : Int) - 65) (j - 65) (by omega) (by omega) x (by rw [hE2, endS_bs]; exact hx)
        have HE := Lib.hid hE
        clear hE hE2
        have wk : IntKind.i64.wrap ((j : Int) - 65) = (j : Int) - 65 := IntWalk.i64_in _ (by omega)
        by_cases e : c = x
        · subst e
          have q1 : ((c : Int) != (c : Int)) = false := int_nneq rfl
          have G3 := Lib.hid (G2.out (by unfold fitB; rw [if_neg (by omega), if_neg (by omega), ← hx, decide_eq_true rfl]))
          have CL2 : Hid (wr.heap[w.heap.size + 1]? = some (.cells (idA (pn 32 D (min (j + 1 - 1) 64))) 124 (0, 0))) := Lib.hid (by
            have := hcell.out
            rw [show min (j - 1) 64 = 64 by omega] at this
            rw [show min (j + 1 - 1) 64 = 64 by omega]
            exact this)
          clear G2 NN NO FIN BU START PZ hx hcell
          go_upto_region 6 with fail
          refine wp_region_still_lit (by kernel_rfl) (by kernel_rfl) ?_
          repeat still_step
          refine wpStill_nil ?_
          go_wp2_with fail
          have hE := HE.out
          subst hE
          go_roundg (mn - (j + 1))
          case measure => omega
          case rel => exact ⟨j + 1, by omega, rfl, by go_num, G3, by (first | exact hres | exact Lib.hid hres.out), by (first | exact CL2 | exact Lib.hid CL2.out), by (first | exact hbel | exact Lib.hid hbel.out.drew)⟩
        · have q1 : ((c : Int) != (x : Int)) = true := int_neq (by omega)
          have N3 := Lib.hid (NN.out (by unfold fitB; rw [if_neg (by omega), if_neg (by omega), ← hx, decide_eq_false e]))
          obtain ⟨ST, RES, BB⟩ := FIN.out wr zs ZCL.out hres.out hbel.out
          obtain ⟨ST2, RES2, BB2⟩ := FIN.out wr.drew zs ZCL.out hres.out hbel.out.drew
          have ST2 := Lib.hid ST2; have RES2 := Lib.hid RES2; have BB2 := Lib.hid BB2
          have ST := Lib.hid ST; have RES := Lib.hid RES; have BB := Lib.hid BB
          clear e G2 NN NO FIN hx
          go_upto_region 6 with fail
          refine wp_region_still_lit (by kernel_rfl) (by kernel_rfl) ?_
          repeat still_step
          refine wpStill_nil ?_
          go_wp2_with (first
            | ((with_reducible refine wpList_build0 124 rfl rfl ?_); refine ⟨_, BU.out _, ?_⟩)
            | ((with_reducible refine wpList_store 124 rfl _ _ rfl ?_); first | (refine ⟨_, _, _, rfl, rfl, ST.out, ?_⟩) | (refine ⟨_, _, _, rfl, rfl, ST2.out, ?_⟩)))
          first
            | exact bodyPost_ret (RES.out _ rfl) rfl (N3.out _ 6 (by decide) _ BB.out)
            | exact bodyPost_ret (RES2.out _ rfl) rfl (N3.out _ 6 (by decide) _ BB2.out)
    · obtain rfl : j = mn := by omega
      by_cases h1 : s.size < 71
      · have e1 : j = s.size := by have := HMN.out; omega
        have NN := Lib.hid (NO.out (mid_len (by rw [LEN.out]; omega)))
        obtain ⟨ST, RES, BB⟩ := FIN.out wr zs ZCL.out hres.out hbel.out
        have ST := Lib.hid ST; have RES := Lib.hid RES; have BB := Lib.hid BB
        clear FIN NO
        go_wp2_with (first
          | ((with_reducible refine wpList_build0 124 rfl rfl ?_); refine ⟨_, BU.out _, ?_⟩)
          | ((with_reducible refine wpList_store 124 rfl _ _ rfl ?_); refine ⟨_, _, _, rfl, rfl, ST.out, ?_⟩))
        exact bodyPost_ret (RES.out _ rfl) rfl (NN.out _ 4 (by decide) _ BB.out)
      · have e71 : j = 71 := by have := HMN.out; omega
        by_cases h2 : 71 < s.size
        · have NN := Lib.hid (NO.out (mid_len (by rw [LEN.out]; omega)))
          obtain ⟨ST, RES, BB⟩ := FIN.out wr zs ZCL.out hres.out hbel.out
          have ST := Lib.hid ST; have RES := Lib.hid RES; have BB := Lib.hid BB
          clear FIN NO
          go_wp2_with (first
            | ((with_reducible refine wpList_build0 124 rfl rfl ?_); refine ⟨_, BU.out _, ?_⟩)
            | ((with_reducible refine wpList_store 124 rfl _ _ rfl ?_); refine ⟨_, _, _, rfl, rfl, ST.out, ?_⟩))
          exact bodyPost_ret (RES.out _ rfl) rfl (NN.out _ 5 (by decide) _ BB.out)
        · have h71 : s.size = 71 := by omega
          have GG : ∀ q, q < 71 → fitB q ((bs s).getD q 0) = true := fun q hq => hg.out q (by omega)
          have YES := Lib.hid (mid_good (by rw [LEN.out]; exact h71) GG)
          have OK := mid_ok YES.out
          have hcell' := hcell.out
          have DL : D.length = 2 * 32 := by rw [HD.out, List.length_take, List.length_drop, LEN.out, h71]; rfl
          rw [show min (j - 1) 64 = 2 * 32 by omega, pn_end DL, HD.out] at hcell'
          obtain ⟨cs, hcs⟩ : ∃ cs, cs = idA (uh (((bs s).drop 1).take 64)) := ⟨_, rfl⟩
          have CL : Cl 32 cs := by rw [hcs]; exact ⟨by rw [idA_size, OK.len], one_idA _⟩
          rw [← hcs] at hcell'
          obtain ⟨ST, RES, BB⟩ := FIN.out wr cs CL hres.out hbel.out
          have ST := Lib.hid ST; have RES := Lib.hid RES; have BB := Lib.hid BB
          have LD := Lib.hid (run_load_cl wr (w.heap.size + 1) 32 _ _ cs _ _ hcell' rfl Tryz.underlying124 SZh.out CL.1)
          have HCS := Lib.hid hcs
          clear FIN NO OK hcell' CL GG hcs hcell hres hbel hg BU START DL
          go_wp2_with (first
            | ((with_reducible refine wpList_load 124 rfl _ rfl ?_); refine ⟨_, _, rfl, LD.out, ?_⟩)
            | ((with_reducible refine wpList_store 124 rfl _ _ rfl ?_); refine ⟨_, _, _, rfl, rfl, ST.out, ?_⟩))
          exact bodyPost_ret (RES.out _ rfl) rfl (by unfold MpPost; rw [YES.out]; simp only []; rw [← HCS.out]; exact ⟨_, 0, rfl, BB.out⟩)
theorem rgroups_any (w : World) (v : Value) (gs : List ByteArray) (hr : SRow w v gs) (hl : gs.length ≤ 1000000) (hz : ∀ g ∈ gs, g.size ≤ 1000000) :
    Calls Tryz.prog 46 #[v] w fun e w' => e = .returned (.int .i64 (groupsF (gs.map bs) : Nat)) ∧ Below w.heap.size w w' := by
  obtain ⟨T, hT⟩ : ∃ T, T = groupsF (gs.map bs) := ⟨_, rfl⟩
  rw [← hT]
  have C := Lib.hid (rglist_any w v gs hr hl hz)
  obtain ⟨a, cap, rfl, hc, _⟩ := hr
  obtain ⟨m, hm⟩ : ∃ m, m = gs.length := ⟨_, rfl⟩
  rw [← hm] at hc C hl ⊢
  by_cases h0 : m = 0
  · have T4 : Hid (T = 4) := Lib.hid (by rw [hT]; unfold groupsF; rw [if_pos]; rw [hm] at h0; rw [List.length_eq_zero_iff.1 h0]; rfl)
    have q1 : ((m : Int) == 0) = true := int_eq (by omega)
    clear hT hm hz C
    go_enter Tryz.func46, Tryz.ntmps46
    go_wp2_with fail
    go_ret
    exact ⟨by rw [T4.out]; rfl, Below.refl _ _⟩
  · have TL : Hid (T = listF nameF (gs.map bs)) := Lib.hid (by rw [hT]; unfold groupsF; rw [if_neg]; intro e; exact h0 (by rw [hm, ← List.length_map (f := bs), e]; rfl))
    have q1 : ((m : Int) == 0) = false := int_ne (by omega)
    clear hT hm hz
    go_enter Tryz.func46, Tryz.ntmps46
    go_wp2_with fail
    refine C.out.mono ?_
    rintro e w2 ⟨rfl, hb2⟩
    have B2 := Lib.hid hb2
    clear hb2 C
    go_wp2_with fail
    go_ret
    exact ⟨by rw [TL.out]; rfl, B2.out⟩
theorem ltL_drop (k : Nat) : ∀ (a b : List Nat), a.take k = b.take k → k ≤ a.length → k ≤ b.length → ltL a b = ltL (a.drop k) (b.drop k) := by
  induction k with
  | zero => intros; simp
  | succ k ih =>
    intro a b h ha hb
    match a, b with
    | [], _ => simp at ha
    | _ :: _, [] => simp at hb
    | x :: a, y :: b =>
      simp only [List.take_succ_cons, List.cons.injEq] at h
      obtain ⟨rfl, h⟩ := h
      simp only [List.drop_succ_cons]
      rw [← ih a b h (by simpa using ha) (by simpa using hb)]
      simp [ltL]
theorem ltL_same {a b : List Nat} (h : a.take 16 = b.take 16) (ha : a.length = 16) (hb : b.length = 16) : ltL a b = false := by
  rw [ltL_drop 16 a b h (by omega) (by omega), List.drop_of_length_le (by omega), List.drop_of_length_le (by omega)]
  rfl
theorem ltL_at {a b : List Nat} {k x y : Nat} (h : a.take k = b.take k) (ha : a.length = 16) (hb : b.length = 16) (hk : k < 16) (hx : x = a.getD k 0) (hy : y = b.getD k 0) (hne : x ≠ y) : ltL a b = decide (x < y) := by
  rw [ltL_drop k a b h (by omega) (by omega), List.drop_eq_getElem_cons (by omega : k < a.length), List.drop_eq_getElem_cons (by omega : k < b.length)]
  have e1 : a[k] = x := by rw [hx]; simp [List.getD, show k < a.length by omega]
  have e2 : b[k] = y := by rw [hy]; simp [List.getD, show k < b.length by omega]
  simp [ltL, e1, e2, hne]
theorem take_next {a b : List Nat} {k x : Nat} (h : a.take k = b.take k) (ha : a.length = 16) (hb : b.length = 16) (hk : k < 16) (hx : x = a.getD k 0) (hy : x = b.getD k 0) : a.take (k + 1) = b.take (k + 1) := by
  rw [List.take_succ_eq_append_getElem (by omega), List.take_succ_eq_append_getElem (by omega), h]
  have e1 : a[k] = x := by rw [hx]; simp [List.getD, show k < a.length by omega]
  have e2 : b[k] = x := by rw [hy]; simp [List.getD, show k < b.length by omega]
  rw [e1, e2]
set_option maxHeartbeats 2000000 in
theorem rincr_any (w : World) (a : Option Addr) (cap : Nat) (ids : List (List Nat)) (hn : ids.length ≤ 1000000) (hA : ARow w a ids) (hok : ∀ x ∈ ids, AuOk x) :
    Calls Tryz.prog 210 #[.slice a ids.length cap] w fun e w' => e = .returned (.bool (incB ids)) ∧ Dr w w' := by
  obtain ⟨n, hn'⟩ : ∃ n, n = ids.length := ⟨_, rfl⟩
  have HN := Lib.hid hn'
  rw [← hn'] at hn ⊢
  have HA := Lib.hid hA; have HOK := Lib.hid hok
  clear hn' hA hok
  go_enter Tryz.func210, Tryz.ntmps210
  go_wp2_with fail
  go_loopg [3, 4] n (fun k i _ wr => ∃ j : Nat, (j + 1 ≤ n ∨ j = 0) ∧ k = n - j ∧ i = .int .i64 ((j : Int) + 1) ∧ Hid (∀ q (h : q + 1 < ids.length), q < j → ltL ids[q] ids[q + 1] = true) ∧ Hid (Dr w wr))
  case atStart => exact ⟨0, .inr rfl, rfl, rfl, Lib.hid (fun q h hq => by omega), Lib.hid (Dr.refl w)⟩
  case round =>
    obtain ⟨j, hj, rfl, rfl, hg, hdr⟩ := hrel
    by_cases hlt : j + 1 < n
    · have hl : j + 1 < ids.length := by rw [← HN.out]; exact hlt
      obtain ⟨b, off, rfl, hcells⟩ := HA.out (fun e => by rw [e] at hl; simp at hl)
      obtain ⟨xa, hxa⟩ : ∃ x, x = ids[j]'(by omega) := ⟨_, rfl⟩
      obtain ⟨xb, hxb⟩ : ∃ x, x = ids[j + 1] := ⟨_, rfl⟩
      have o1 := HOK.out xa (by rw [hxa]; exact List.getElem_mem _)
      have o2 := HOK.out xb (by rw [hxb]; exact List.getElem_mem _)
      have CA := Lib.hid (fun k u (hu : (idA xa)[k]? = some u) => hcells j (by omega) k u (by rw [← hxa]; exact hu))
      have CB := Lib.hid (fun k u (hu : (idA xb)[k]? = some u) => hcells (j + 1) hl k u (by rw [← hxb]; exact hu))
      have NO : Hid (ltL xa xb = false → incB ids = false) := Lib.hid (fun h => inc_no ids j hl (by rw [← hxa, ← hxb]; exact h))
      have G2 : Hid (ltL xa xb = true → ∀ q (h : q + 1 < ids.length), q < j + 1 → ltL ids[q] ids[q + 1] = true) := Lib.hid (fun ht q h hq => by
        by_cases e : q = j
        · subst e; rw [← hxa, ← hxb]; exact ht
        · exact hg.out q h (by omega))
      have O1 := Lib.hid o1; have O2 := Lib.hid o2
      have w1 : IntKind.i64.wrap ((j : Int) + 1 - 1) = (j : Int) := by rw [show (j : Int) + 1 - 1 = (j : Int) by omega]; exact IntWalk.i64_in _ (by omega)
      have w2 : IntKind.i64.wrap ((j : Int) + 1 + 1) = (j : Int) + 1 + 1 := IntWalk.i64_in _ (by omega)
      have w0 : IntKind.i64.wrap (j : Int) = (j : Int) := IntWalk.i64_in _ (by omega)
      have p0 : (0 : Int) ≤ (j : Int) + 1 := by omega
      have p1 : (j : Int) + 1 < (n : Int) := by omega
      have p2 : (j : Int) < (n : Int) := by omega
      clear hcells hl o1 o2 HA HOK hg hj hxa hxb
      go_wp2_with fail
      go_loopg [4] 16 (fun kk v wr => ∃ k : Nat, k ≤ 16 ∧ kk = 16 - k ∧ v = .int .i64 (k : Int) ∧ Hid (xa.take k = xb.take k) ∧ Hid (Dr w wr))
      case atStart => exact ⟨0, by omega, rfl, rfl, Lib.hid (by simp), hdr⟩
      case round =>
        clear hdr
        obtain ⟨k, hk, rfl, rfl, hs, hdr⟩ := hrel
        by_cases hk16 : k < 16
        · obtain ⟨x, hx⟩ : ∃ x, x = xa.getD k 0 := ⟨_, rfl⟩
          obtain ⟨y, hy⟩ : ∃ x, x = xb.getD k 0 := ⟨_, rfl⟩
          have hka : k < xa.length := by rw [O1.out.len]; exact hk16
          have hki : (k : Int) < 16 := by omega
          have hki0 : (0 : Int) ≤ (k : Int) := by omega
          have hkb : k < xb.length := by rw [O2.out.len]; exact hk16
          have cA : wr.cell? ⟨b, off + j * 16 + k, none⟩ = some (.int .u8 (x : Int)) := by
            obtain ⟨p, hp⟩ := hdr.out
            rw [hp]
            exact CA.out k _ (by unfold idA; rw [List.getElem?_toArray, List.getElem?_map, List.getElem?_eq_getElem hka, hx]; simp [List.getD, hka]; rfl)
          have cB : wr.cell? ⟨b, off + (j + 1) * 16 + k, none⟩ = some (.int .u8 (y : Int)) := by
            obtain ⟨p, hp⟩ := hdr.out
            rw [hp]
            exact CB.out k _ (by unfold idA; rw [List.getElem?_toArray, List.getElem?_map, List.getElem?_eq_getElem hkb, hy]; simp [List.getD, hkb]; rfl)
          obtain ⟨wq, hwq⟩ : ∃ x, x = wr.drew := ⟨_, rfl⟩
          obtain ⟨wp, hwp⟩ : ∃ x, x = wq.drew := ⟨_, rfl⟩
          have cAd : wq.cell? ⟨b, off + j * 16 + k, none⟩ = some (.int .u8 (x : Int)) := by rw [hwq]; exact cA
          have cBd : wq.cell? ⟨b, off + (j + 1) * 16 + k, none⟩ = some (.int .u8 (y : Int)) := by rw [hwq]; exact cB
          have cAe : wp.cell? ⟨b, off + j * 16 + k, none⟩ = some (.int .u8 (x : Int)) := by rw [hwp]; exact cAd
          have cBe : wp.cell? ⟨b, off + (j + 1) * 16 + k, none⟩ = some (.int .u8 (y : Int)) := by rw [hwp]; exact cBd
          have HQ := Lib.hid hwq; have HP := Lib.hid hwp
          have DQ : Hid (Dr w wq) := Lib.hid (by rw [hwq]; exact hdr.out.drewN 1)
          have DP : Hid (Dr w wp) := Lib.hid (by rw [hwp]; exact DQ.out.drewN 1)
          clear hwq hwp cA cB
          by_cases e : x = y
          · subst e
            have q1 : ((x : Int) == (x : Int)) = true := int_eq rfl
            have N2 := Lib.hid (take_next hs.out O1.out.len O2.out.len hk16 hx hy)
            clear hx hy hs hka hkb
            go_upto_region 5 with fail
            refine wp_region_still_lit (by kernel_rfl) (by kernel_rfl) ?_
            change wpStill _ _ wr.drew (fun a' => Exit.then _ _ Exit.normal a' wr.drew) _ _
            rw [← HQ.out]
            repeat still_step
            refine wpStill_nil ?_
            go_wp2_with fail
            go_roundg (16 - (k + 1))
            case measure => omega
            case rel => exact ⟨k + 1, by omega, rfl, by go_num, N2, by (first | exact hdr | exact DQ | exact DP | exact Lib.hid hdr.out.drew | exact Lib.hid (hdr.out.drewN 1))⟩
          · have q1 : ((x : Int) == (y : Int)) = false := int_ne (by omega)
            have q2 : ((k : Int) == 16) = false := int_ne (by omega)
            have LT := Lib.hid (ltL_at hs.out O1.out.len O2.out.len hk16 hx hy e)
            clear hx hy hs hka hkb
            by_cases g : y < x
            · have q3 : decide ((y : Int) < (x : Int)) = true := decide_eq_true (by omega)
              have F := Lib.hid (NO.out (by rw [LT.out]; exact decide_eq_false (by omega)))
              clear e LT NO G2
              go_upto_region 5 with fail
              refine wp_region_still_lit (by kernel_rfl) (by kernel_rfl) ?_
              change wpStill _ _ wr.drew (fun a' => Exit.then _ _ Exit.normal a' wr.drew) _ _
              rw [← HQ.out]
              repeat still_step
              refine wpStill_nil ?_
              go_upto_region 7 with fail
              refine wp_region_still_lit (by kernel_rfl) (by kernel_rfl) ?_
              change wpStill _ _ wq.drew (fun a' => Exit.then _ _ Exit.normal a' wq.drew) _ _
              rw [← HP.out]
              repeat still_step
              refine wpStill_nil ?_
              go_wp2_with fail
              go_ret
              exact ⟨by rw [F.out]; rfl, by (first | exact hdr.out | exact DQ.out | exact DP.out | exact hdr.out.drew | exact hdr.out.drewN _)⟩
            · have q3 : decide ((y : Int) < (x : Int)) = false := decide_eq_false (by omega)
              have F := Lib.hid (G2.out (by rw [LT.out]; exact decide_eq_true (by omega)))
              clear e LT NO G2
              go_upto_region 5 with fail
              refine wp_region_still_lit (by kernel_rfl) (by kernel_rfl) ?_
              change wpStill _ _ wr.drew (fun a' => Exit.then _ _ Exit.normal a' wr.drew) _ _
              rw [← HQ.out]
              repeat still_step
              refine wpStill_nil ?_
              go_upto_region 7 with fail
              refine wp_region_still_lit (by kernel_rfl) (by kernel_rfl) ?_
              change wpStill _ _ wq.drew (fun a' => Exit.then _ _ Exit.normal a' wq.drew) _ _
              rw [← HP.out]
              repeat still_step
              refine wpStill_nil ?_
              go_wp2_with fail
              go_roundg (n - (j + 1))
              case measure => omega
              case rel => exact ⟨j + 1, .inl hlt, rfl, by go_num, F, by (first | exact hdr | exact DQ | exact DP | exact Lib.hid hdr.out.drew | exact Lib.hid (hdr.out.drewN _))⟩
        · obtain rfl : k = 16 := by omega
          obtain ⟨wq, hwq⟩ : ∃ x, x = wr.drew := ⟨_, rfl⟩
          obtain ⟨wp, hwp⟩ : ∃ x, x = wq.drew := ⟨_, rfl⟩
          have HQ := Lib.hid hwq; have HP := Lib.hid hwp
          have DQ : Hid (Dr w wq) := Lib.hid (by rw [hwq]; exact hdr.out.drewN 1)
          have DP : Hid (Dr w wp) := Lib.hid (by rw [hwp]; exact DQ.out.drewN 1)
          clear hwq hwp
          have F := Lib.hid (NO.out (ltL_same hs.out O1.out.len O2.out.len))
          clear NO G2 hs
          go_upto_region 5 with fail
          refine wp_region_held (S := fun _ => True) (by kernel_rfl) ?_
          change wpAnyH _ _ _ _ _ _ _ _ wr.drew
          rw [← HQ.out]
          have hB : (fun _ : World => True) wq := trivial
          refine takeV 0 (.int .i64 16) rfl (fun _ _ => by go_simp) hB ?_
          refine takeV 1 (.bool false) rfl (fun _ _ => by go_simp) hB ?_
          refine takeV 2 (.bool false) rfl (fun _ _ => by go_simp) hB ?_
          refine takeU 3 rfl hB ?_
          refine takeU 4 rfl hB ?_
          refine takeU 5 rfl hB ?_
          refine takeU 6 rfl hB ?_
          refine takeU 7 rfl hB ?_
          refine takeU 8 rfl hB ?_
          refine takeU 9 rfl hB ?_
          refine takeU 10 rfl hB ?_
          refine takeU 11 rfl hB ?_
          refine takeU 12 rfl hB ?_
          refine takeU 13 rfl hB ?_
          refine takeU 14 rfl hB ?_
          refine takeU 15 rfl hB ?_
          refine takeU 16 rfl hB ?_
          refine takeV 17 (.bool false) rfl (fun _ _ => by go_simp) hB ?_
          refine wpAnyH_done (by kernel_rfl) ?_ _
          go_simp
          refine ‹∀ (a : Act) (w_1 : World), _ → _› _ _ ?_
          clear hB
          go_upto_region 7 with fail
          refine wp_region_held (S := fun _ => True) (by kernel_rfl) ?_
          change wpAnyH _ _ _ _ _ _ _ _ wq.drew
          rw [← HP.out]
          have hB : (fun _ : World => True) wp := trivial
          refine takeV 0 (.int .i64 16) rfl (fun _ _ => by go_simp) hB ?_
          refine takeV 1 (.bool true) rfl (fun _ _ => by go_simp) hB ?_
          refine takeV 2 (.bool true) rfl (fun _ _ => by go_simp) hB ?_
          refine takeU 3 rfl hB ?_
          refine takeU 4 rfl hB ?_
          refine takeU 5 rfl hB ?_
          refine takeU 6 rfl hB ?_
          refine takeU 7 rfl hB ?_
          refine takeU 8 rfl hB ?_
          refine takeU 9 rfl hB ?_
          refine takeU 10 rfl hB ?_
          refine takeU 11 rfl hB ?_
          refine takeU 12 rfl hB ?_
          refine takeU 13 rfl hB ?_
          refine takeU 14 rfl hB ?_
          refine takeU 15 rfl hB ?_
          refine takeU 16 rfl hB ?_
          refine takeV 17 (.bool true) rfl (fun _ _ => by go_simp) hB ?_
          refine wpAnyH_done (by kernel_rfl) ?_ _
          go_simp
          refine ‹∀ (a : Act) (w_1 : World), _ → _› _ _ ?_
          clear hB
          go_wp2_with fail
          go_ret
          exact ⟨by rw [F.out]; rfl, by (first | exact hdr.out | exact DQ.out | exact DP.out | exact hdr.out.drew | exact hdr.out.drewN _)⟩
    · have YES := Lib.hid (inc_yes ids (fun i h => hg.out i h (by rw [← HN.out] at h; omega)))
      go_wp2_with fail
      go_ret
      exact ⟨by rw [YES.out]; rfl, hdr.out⟩
end Go.Proofs.YtohmdledkhgdaaaGreatDoor
/- Plain functions on lists: what the reference's Decode computes, and that it is the same. -/
namespace Go.Proofs.YtohmdledkhgdaaaGreatDoor
set_option linter.unusedVariables false
def dbitStep (s : Nat × Nat × List Nat) (t : Nat) : Nat × Nat × List Nat := if s.2.1 + 1 = 8 then (0, 0, s.2.2 ++ [2 * s.1 + t]) else (2 * s.1 + t, s.2.1 + 1, s.2.2)
def dbitRun (s : Nat × Nat × List Nat) (g : Nat) : Nat → Nat × Nat × List Nat
  | 0 => s
  | j + 1 => dbitStep (dbitRun s g j) (g / 2 ^ (5 - j) % 2)
theorem dbitStep_pre (b c t : Nat) (xs ys : List Nat) : dbitStep (b, c, xs ++ ys) t = ((dbitStep (b, c, ys) t).1, (dbitStep (b, c, ys) t).2.1, xs ++ (dbitStep (b, c, ys) t).2.2) := by
  unfold dbitStep; split <;> simp_all
theorem dbitRun_pre (b c g : Nat) (xs ys : List Nat) (j : Nat) : dbitRun (b, c, xs ++ ys) g j = ((dbitRun (b, c, ys) g j).1, (dbitRun (b, c, ys) g j).2.1, xs ++ (dbitRun (b, c, ys) g j).2.2) := by
  induction j with
  | zero => rfl
  | succ j ih => rw [dbitRun, ih, dbitStep_pre]; rfl
theorem dbit6 : ∀ c : Fin 4, ∀ b : Fin 64, b.val < 2 ^ (2 * c.val) → ∀ g : Fin 64, dbitRun (b.val, 2 * c.val, []) g.val 6 = decStep (b.val, 2 * c.val, []) g.val := by decide +kernel
theorem dbitRun_dec {s : Nat × Nat × List Nat} {g : Nat} (hc : s.2.1 < 8) (hev : s.2.1 % 2 = 0) (hb : s.1 < 2 ^ s.2.1) (hg : g < 64) : dbitRun s g 6 = decStep s g := by
  obtain ⟨b, c, xs⟩ := s
  simp only at hc hev hb
  have h1 : dbitRun (b, c, xs) g 6 = dbitRun (b, c, xs ++ []) g 6 := by simp
  have h2 : decStep (b, c, xs) g = drain id 8 16 (b * 2 ^ 6 + g) (c + 6) (xs ++ []) := by simp [decStep]
  have hb64 : b < 64 := Nat.lt_of_lt_of_le hb (by have : 2 ^ c ≤ 2 ^ 6 := Nat.pow_le_pow_right (by omega) (by omega)
                                                  omega)
  have e : c = 2 * (c / 2) := by omega
  have h3 := dbit6 ⟨c / 2, by omega⟩ ⟨b, hb64⟩ (by simp only; rw [← e]; exact hb) ⟨g, hg⟩
  simp only [← e] at h3
  rw [h1, h2, dbitRun_pre, drain_pre, h3]
  rfl
theorem dbitRun_inv {s : Nat × Nat × List Nat} {g : Nat} (hc : s.2.1 < 8) (hb : s.1 < 2 ^ s.2.1) (j : Nat) : (dbitRun s g j).2.1 < 8 ∧ (dbitRun s g j).1 < 2 ^ (dbitRun s g j).2.1 ∧ (dbitRun s g j).2.2.length ≤ s.2.2.length + j := by
  induction j with
  | zero => exact ⟨hc, hb, by simp [dbitRun]⟩
  | succ j ih =>
    rw [dbitRun]
    generalize dbitRun s g j = r at *
    unfold dbitStep
    have ht : g / 2 ^ (5 - j) % 2 < 2 := Nat.mod_lt _ (by omega)
    split
    · simp; omega
    · refine ⟨by simp; omega, ?_, by simp; omega⟩
      simp only [Nat.pow_succ]
      omega
theorem dec_even (l : List Nat) (hl : ∀ x ∈ l, x < 64) : (decSt l).2.1 % 2 = 0 := by have := (decSt_inv l hl).2.2; omega
/-- Which characters are padding in place. -/
theorem inPlace_iff (l : List Nat) (i : Nat) (hi : i < l.length) : dataF l ≤ i ↔ (l.length % 4 = 0 ∧ l.getD i 0 = 61 ∧ (i = l.length - 1 ∨ (i = l.length - 2 ∧ l.getD (l.length - 1) 0 = 61))) := by
  unfold dataF
  by_cases h4 : l.length % 4 = 0
  · by_cases hl : l.getD (l.length - 1) 0 = 61
    · rw [if_neg (by omega)]
      by_cases h2 : l.getD (l.length - 2) 0 = 61
      · rw [if_pos h2]
        constructor
        · intro h
          refine ⟨h4, ?_, by omega⟩
          rcases (by omega : i = l.length - 1 ∨ i = l.length - 2) with rfl | rfl
          · exact hl
          · exact h2
        · rintro ⟨_, _, h⟩; omega
      · rw [if_neg h2]
        constructor
        · intro h
          obtain rfl : i = l.length - 1 := by omega
          exact ⟨h4, hl, .inl rfl⟩
        · rintro ⟨_, h5, h⟩
          rcases h with rfl | ⟨rfl, _⟩
          · omega
          · exact absurd h5 h2
    · rw [if_pos (.inr (.inr hl))]
      constructor
      · intro h; omega
      · rintro ⟨_, h5, h⟩
        rcases h with rfl | ⟨_, h6⟩
        · exact absurd h5 hl
        · exact absurd h6 hl
  · rw [if_pos (.inr (.inl h4))]
    constructor
    · intro h; omega
    · rintro ⟨h5, _⟩; omega
theorem dataF_char (l : List Nat) (i : Nat) (hi : i < l.length) (h : dataF l ≤ i) : vOf (l.getD i 0) = none := by
  rw [((inPlace_iff l i hi).1 h).2.1]
  decide +kernel
theorem vOf_none {c : Nat} (h : ∀ i, i < 64 → al i ≠ c) : vOf c = none := by
  unfold vOf
  rw [List.find?_eq_none]
  intro i hi
  simp at hi
  simpa using h i hi
theorem vOf_some {c i : Nat} (hi : i < 64) (h : al i = c) : vOf c = some i := by
  subst h
  have : ∀ v : Fin 64, vOf (al v.val) = some v.val := by decide +kernel
  exact this ⟨i, hi⟩
end Go.Proofs.YtohmdledkhgdaaaGreatDoor
