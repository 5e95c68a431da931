/- bulletinref17.word: the words of the sort public. -/
import Derived.Test.YtohmdledkhgdaaaGreatDoorLo39
namespace Go.Proofs.YtohmdledkhgdaaaGreatDoor
open Go.RowKit
set_option linter.unusedVariables false
set_option maxRecDepth 100000
set_option maxHeartbeats 4000000 in
theorem rword_public (w : World) (cs : Array Value) (k : Nat) (m : Bool) (x : ByteArray) (hs : x.size ≤ 100000) (h : RC cs k m true) :
    Calls Tryz.prog 133 #[.agg cs, .string ⟨#[112, 117, 98, 108, 105, 99]⟩, .string x] w (RwPost k 6 m (bs x) w) := by
  obtain ⟨w0, hw0⟩ : ∃ w0, w0 = (w.alloc (.cells cs 140)).alloc (.cells z17 140) := ⟨_, rfl⟩
  obtain ⟨r0, q0, b0, s0⟩ := rw_start w cs h w0 hw0
  obtain ⟨P, hP⟩ : ∃ P, P = pubF (bs x) := ⟨_, rfl⟩
  have PP := Lib.hid (rpp08_any x w0 (by omega))
  have POST : Hid (∀ cs' w', RC cs' k m true → Below w.heap.size w w' → RwPost k 6 m (bs x) w (.returned (.tuple #[.agg cs', .int .i64 (P : Int)])) w') := Lib.hid (fun cs' w' h1 h2 => ⟨cs', by rw [hP]; rfl, h1, h2⟩)
  have R0 := Lib.hid r0; have Q0 := Lib.hid q0; have B0 := Lib.hid b0
  have HW := Lib.hid hw0
  have HP := Lib.hid hP
  clear hw0 h r0 q0 b0 s0 hP
  go_enter Tryz.func133, Tryz.ntmps133
  go_upto_region 1 with fail
  have W' := HW.out
  unfold z17 at W'
  rw [← W']
  clear W' HW
  go_wp2_with fail
  refine PP.out.mono ?_
  rintro e w1 ⟨hh, rs, rfl, hcl, hb1⟩
  rw [← HP.out]
  have RCL := Lib.hid hcl
  have STN : Hid (∀ zz : Array Value, zz.size = 16 → (storeVar 22 ⟨w1.heap.size, 0, none⟩ (.agg rs)).run Tryz.prog (w1.alloc (.cells zz 22)) = .ok () (w1.alloc (.cells rs 22))) := Lib.hid (fun zz hz => run_storeVar_new w1 22 zz rs (by rw [RCL.out.1]; exact size_a16) (by rw [hz, RCL.out.1]) RCL.out.2)
  have hb3 : Below w0.heap.size w0 (w1.alloc (.cells rs 22)) := hb1.alloc hb1.size _
  have R3 := Lib.hid (R0.out.on hb3)
  have Q3 := Lib.hid ((hb3.block _ (lt_of_block Q0.out)).trans Q0.out)
  have B3 := Lib.hid (B0.out.trans (hb3.mono B0.out.size))
  have I3 := Lib.hid (heap_alloc_new w1 (.cells rs 22))
  have GW : Hid (w.heap.size < w1.heap.size) := Lib.hid (by have := R0.out.lt; have := hb1.size; omega)
  clear hcl hb1 hb3 R0 Q0 B0 PP
  go_upto_region 41 with ((with_reducible refine wpList_store 22 rfl _ _ rfl ?_); refine ⟨_, _, _, rfl, rfl, STN.out _ rfl, ?_⟩)
  obtain ⟨wd, hwd⟩ : ∃ wd, wd = (w1.alloc (.cells rs 22)).drew := ⟨_, rfl⟩
  obtain ⟨g, hg⟩ : ∃ g, g = w1.heap.size := ⟨_, rfl⟩
  have rd : RB wd w.heap.size k m true := by rw [hwd]; exact R3.out.drew
  have qd : wd.heap[w.heap.size + 1]? = some (.cells z17 140 (0, 0)) := by rw [hwd]; exact Q3.out
  have bd : Below w.heap.size w wd := by rw [hwd]; exact B3.out.drew
  have HS : (fun wx : World => wx.heap[g]? = some (.cells rs 22 (0, 0))) wd := by rw [hwd, hg]; exact I3.out
  refine wp_region_held (S := fun wx : World => wx.heap[g]? = some (.cells rs 22 (0, 0))) (by kernel_rfl) ?_
  change wpAnyH _ _ _ _ _ _ _ _ (w1.alloc (.cells rs 22)).drew
  rw [← hwd]
  rw [← hg] at GW ⊢
  clear hwd hg STN R3 Q3 B3 I3
  obtain ⟨u, cu, fu⟩ := rd.cell (show 39 < 56 by omega)
  obtain ⟨r1, c1⟩ := rd.set 39 (u := .int .i64 hh) rfl (by omega) (by omega) (by omega) (by omega)
  obtain ⟨q1, b1⟩ := rw_set rd qd bd 39 (.int .i64 hh)
  obtain ⟨wf, hwf⟩ : ∃ wf, wf = wd.setCell ⟨w.heap.size, 39, none⟩ (.int .i64 hh) := ⟨_, rfl⟩
  have HS1 : (fun wx : World => wx.heap[g]? = some (.cells rs 22 (0, 0))) wf := by
    rw [hwf]; show (wd.setCell _ _).heap[g]? = _
    rw [Below.heap_setCell _ _ _ _ (show g ≠ w.heap.size by have := GW.out; omega)]; exact HS
  rw [← hwf] at r1 q1 b1
  obtain ⟨st1, r4, f4, c4⟩ := r1.store 40 16 (by omega) 22 RCL.out size_a16
  have HS2 : (fun wx : World => wx.heap[g]? = some (.cells rs 22 (0, 0))) (wf.setCells w.heap.size 40 rs.toList) := (f4.other g (lt_of_block HS1) (by have := GW.out; omega)).trans HS1
  have q4 := (f4.other _ (lt_of_block q1) (by omega)).trans q1
  have b4 := b1.trans (f4.below b1.size (Nat.le_refl _))
  have LZ : Hid (∀ wx : World, wx.heap[g]? = some (.cells rs 22 (0, 0)) → (loadVar 22 ⟨g, 0, none⟩).run Tryz.prog wx = .ok (.agg rs) wx) := Lib.hid (fun wx h => run_load_cl wx g 16 _ _ rs _ _ h rfl Tryz.underlying22 size_a16 RCL.out.1)
  clear rd qd bd r1 q1 b1 c1 f4 c4
  refine takeV 0 (.int .i64 hh) rfl (fun _ _ => by go_simp) HS ?_
  refine takeV 1 (.agg rs) rfl (fun w' hw' => exec_load (ty := 22) (x := .tmp 17) (ad := ⟨g, 0, none⟩) rfl (by kernel_rfl) (LZ.out w' hw')) HS ?_
  refine takeV 2 (.pointer (some ⟨w.heap.size, 39, none⟩)) rfl (fun _ _ => by go_simp) HS ?_
  refine anyH_stepS (i := 3) (w' := wf) (by kernel_rfl) rfl rfl (by rw [hwf]; go_simp) HS1 ?_
  refine takeV 4 (.pointer (some ⟨w.heap.size, 40, none⟩)) rfl (fun _ _ => by go_simp) HS1 ?_
  refine anyH_stepS (i := 5) (by kernel_rfl) rfl rfl (exec_store (t := 22) (ad := ⟨w.heap.size, 40, none⟩) (u := .agg rs) rfl (by kernel_rfl) (by kernel_rfl) st1) HS2 ?_
  refine wpAnyH_done (by kernel_rfl) ?_ _
  clear HS HS1 HS2 hwf cu fu st1
  obtain ⟨cs', rc, ld, st, rs, bb⟩ := rw_exit w (wf.setCells w.heap.size 40 rs.toList) (r4) (q4) (b4)
  have RCX := Lib.hid rc; have LD := Lib.hid ld; have ST := Lib.hid st; have RES := Lib.hid rs; have BB := Lib.hid bb
  clear rc ld st rs bb
  have A0 : Hid (RwPost k 6 m (bs x) w (.returned (.tuple #[.agg cs', .int .i64 (P : Int)])) ((wf.setCells w.heap.size 40 rs.toList).setRow (w.heap.size + 1) cs')) := Lib.hid (POST.out cs' _ RCX.out BB.out)
  obtain ⟨w5, hw5⟩ : ∃ w5, w5 = wf.setCells w.heap.size 40 rs.toList := ⟨_, rfl⟩
  rw [← hw5] at LD ST RES A0 ⊢
  clear r4 q4 b4 hw5 POST
  go_simp
  refine ‹∀ (a : Act) (w_1 : World), _ → _› _ _ ?_
  go_wp2_with (first
    | ((with_reducible refine wpList_load 140 rfl _ rfl ?_); refine ⟨_, _, rfl, LD.out, ?_⟩)
    | ((with_reducible refine wpList_store 140 rfl _ _ rfl ?_); refine ⟨_, _, _, rfl, rfl, ST.out, ?_⟩))
  exact bodyPost_ret (RES.out _ rfl) rfl A0.out
theorem blt_22 : ∀ (l : List Value), l.length = 16 → Tryz.prog.builtSlice 22 1 [((0 : Nat), Value.agg l.toArray)] = some l.toArray
  | [v0, v1, v2, v3, v4, v5, v6, v7, v8, v9, v10, v11, v12, v13, v14, v15], _ => by kernel_rfl
theorem info22 : (Tryz.prog.info? 22).map (fun i => (i.zero, i.size, i.bytes)) = some (some (.agg (idA zero16)), 16, 16) := by kernel_rfl
theorem owns_slice {w : World} {base n sz : Nat} {T : TypeId} {v : Value} {xs : List Value} (h : w.ownsRow base T sz v n xs) : ∃ (va : Option Addr) (vc : Nat), v = .slice va n vc := by
  rcases h.2 with ⟨rfl, h0⟩ | ⟨g, cap, cur, rfl, r⟩
  · exact ⟨none, 0, by rw [h0]⟩
  · exact ⟨_, cap, rfl⟩
theorem owns_auG {T : TypeId} {w : World} {base n : Nat} {v : Value} {gs : List ByteArray} (hn : n = gs.length) (h : w.ownsRow base T 16 v n (auCells gs)) : ∃ (va : Option Addr) (vc : Nat), v = .slice va n vc ∧ ARow w va (gs.map auZ) := by
  rcases h.2 with ⟨rfl, h0⟩ | ⟨g, cap, cur, rfl, hg, hgb, hc, _, hs, ht⟩
  · refine ⟨none, 0, by rw [h0], fun hne => absurd ?_ hne⟩
    rw [h0] at hn
    rw [List.map_eq_nil_iff]; exact List.length_eq_zero_iff.1 hn.symm
  · refine ⟨_, cap, rfl, fun _ => ⟨g, 0, rfl, fun q hq k u hu => ?_⟩⟩
    have hq' : q < gs.length := by simpa using hq
    have hk : k < 16 := by
      have := (Array.getElem?_eq_some_iff.1 hu).1
      rw [idA_size, List.getElem_map, (auZ_ok _).len] at this; exact this
    rw [Nat.zero_add, cell_of_row w g _ _ _ _ hgb]
    have e1 : (cur.toList.take (n * 16))[q * 16 + k]? = some u := by
      rw [ht, auCells_at gs q k hq' hk]
      rw [List.getElem_map] at hu
      unfold idA at hu
      rw [List.getElem?_toArray] at hu
      exact hu
    rw [List.getElem?_take] at e1
    split at e1
    · simpa using e1
    · cases e1
set_option maxHeartbeats 4000000 in
theorem rword_authors (w : World) (cs : Array Value) (k0 : Nat) (m : Bool) (x : ByteArray) (hs : x.size ≤ 100000) (h : RC cs k0 m true) :
    Calls Tryz.prog 133 #[.agg cs, .string ⟨#[97, 117, 116, 104, 111, 114, 115]⟩, .string x] w (RwPost k0 4 m (bs x) w) := by
  obtain ⟨w0, hw0⟩ : ∃ w0, w0 = (w.alloc (.cells cs 140)).alloc (.cells z17 140) := ⟨_, rfl⟩
  obtain ⟨r0, q0, b0, s0⟩ := rw_start w cs h w0 hw0
  have SP := Lib.hid (rwords_any x 44 w0 (by omega) (by omega))
  have R0 := Lib.hid r0; have Q0 := Lib.hid q0; have B0 := Lib.hid b0; have S0 := Lib.hid s0
  have HW := Lib.hid hw0
  obtain ⟨i0, hi0, hz0, hz1, hz2⟩ := info_parts info22
  clear hw0 h r0 q0 b0 s0
  go_enter Tryz.func133, Tryz.ntmps133
  go_upto_region 1 with fail
  have W' := HW.out
  unfold z17 at W'
  rw [← W']
  clear W' HW
  go_wp2_with fail
  refine SP.out.mono ?_
  rintro e w3 ⟨v, gs, rfl, hgs, ⟨sa, scap, rfl, hscap, hrow⟩, hgz, hgn, hown, hb3⟩
  have HGS := Lib.hid hgs
  have R3 := Lib.hid (R0.out.on hb3)
  have Q3 := Lib.hid ((hb3.block _ (lt_of_block Q0.out)).trans Q0.out)
  have B3 := Lib.hid (B0.out.trans (hb3.mono B0.out.size))
  have ROW : Hid (gs ≠ [] → ∃ b' off, sa = some ⟨b', off, none⟩ ∧ b' < w3.heap.size ∧ b' ≠ w.heap.size ∧ ∀ j (h : j < gs.length), w3.cell? ⟨b', off + j, none⟩ = some (.string gs[j])) := Lib.hid (fun hne => by
    obtain ⟨b', off, h1, h2, h3⟩ := hrow hne
    refine ⟨b', off, h1, h2, ?_, h3⟩
    have := (hown.lt b' (by rw [h1]; rfl)).1
    have := S0.out
    omega)
  have GZ := Lib.hid hgz
  have NE : Hid (0 < gs.length) := Lib.hid (by rw [← List.length_map (f := bs), hgs]; exact List.length_pos_iff.2 (spl_ne 44 _))
  obtain ⟨n, hn⟩ : ∃ n, n = gs.length := ⟨_, rfl⟩
  have HN := Lib.hid hn
  rw [← hn] at hgn hscap ⊢
  have hb3s := hb3.size
  have hw03 : w.heap.size + 2 ≤ w3.heap.size := by have := S0.out; omega
  clear SP hgs hrow hgz hown hb3 hn R0 Q0 B0 S0 hb3s
  go_wp2_with fail
  go_loopg [12, 13, 14, 15] n (fun k i s13 s14 s15 wr => ∃ (j : Nat) (v : Value), j ≤ n ∧ k = n - j ∧ i = .int .i64 (j : Int) ∧ Hid (auBad (gs.take j) = 0) ∧ Hid (RB wr w.heap.size k0 m (decide (j = 0))) ∧ Hid (wr.cell? ⟨w.heap.size, 36, none⟩ = some v ∧ v.oneCell' = true) ∧ Hid (wr.heap[w.heap.size + 1]? = some (.cells z17 140 (0, 0))) ∧ Hid (wr.ownsRow w3.heap.size 22 16 v j (auCells (gs.take j))) ∧ Hid (Fr1 w.heap.size w3 wr))
  case atStart => exact ⟨0, .slice none 0 0, by omega, rfl, rfl, Lib.hid rfl, R3, Lib.hid ⟨R3.out.modsc, rfl⟩, Q3, Lib.hid (World.ownsRow_nil _ _ _ _), Lib.hid (Fr1.refl _ _)⟩
  case round =>
    obtain ⟨j, v, hj, rfl, rfl, hbad, hrb, hc36, hq, ho, hfr⟩ := hrel
    have hpw := hrb.out.lt
    have hw3r : w3.heap.size ≤ wr.heap.size := hfr.out.size
    by_cases hjn : j < n
    · have hjl : j < gs.length := by rw [← HN.out]; exact hjn
      obtain ⟨b', off, rfl, hbl, hbb, hcl⟩ := ROW.out (by intro e; rw [e] at hjl; simp at hjl)
      obtain ⟨g, hg⟩ : ∃ g, g = gs[j] := ⟨_, rfl⟩
      have hcg : wr.cell? ⟨b', off + j, none⟩ = some (.string g) := by
        have h5 := hcl j hjl
        rw [← hg] at h5
        have := hfr.out.other b' hbl hbb
        unfold World.cell? at h5 ⊢
        simp only [this]
        exact h5
      have hgs1 : g.size ≤ 1000000 := by have := GZ.out g (by rw [hg]; exact List.getElem_mem hjl); omega
      have TKE : gs.take (j + 1) = gs.take j ++ [g] := by rw [List.take_succ_eq_append_getElem hjl, hg]
      have PA := Lib.hid (rpa17_any g wr (by omega))
      have TB := Lib.hid (show auBad (gs.take (j + 1)) = fe (auBad (gs.take j)) (if (autP (bs g)).isNone = true then 3 else 0) by rw [TKE, auBad_snoc])
      have BADL : Hid ((autP (bs g)).isNone = true → modsF (bs x) = 3) := Lib.hid (fun h => by
        unfold modsF
        rw [← HGS.out, mapM_aut, if_pos]
        exact List.any_eq_true.2 ⟨g, by rw [hg]; exact List.getElem_mem hjl, h⟩)
      obtain ⟨cs, hcs⟩ : ∃ cs, cs = idA (auZ g) := ⟨_, rfl⟩
      have CL : Hid (Cl 16 cs) := Lib.hid (by rw [hcs]; exact cl_au (auZ_ok g))
      have TS : Hid (auCells (gs.take (j + 1)) = auCells (gs.take j) ++ cs.toList) := Lib.hid (by rw [TKE, auCells_snoc, hcs]; rfl)
      have PA2 : Hid (Calls Tryz.prog 169 #[.string g] wr fun e w' => ∃ (aa er : Int), e = .returned (.tuple #[.agg cs, .int .i64 aa, .int .i64 er]) ∧ ((autP (bs g)).isNone = true ↔ er ≠ 0) ∧ Below wr.heap.size wr w') := Lib.hid (PA.out.mono (by
        rintro e w' ⟨aa, er, h1, h2⟩
        rw [hcs]
        unfold auZ
        cases hq : autP (bs g) with
        | none => rw [hq] at h1; obtain ⟨rfl, h3⟩ := h1; exact ⟨aa, er, rfl, by simp [h3], h2⟩
        | some id => rw [hq] at h1; subst h1; exact ⟨aa, 0, rfl, by simp, h2⟩))
      have CSZ : Hid (cs.size = 16) := Lib.hid CL.out.1
      have ONE := Lib.hid (cl_mem CL.out)
      have BS : Hid (Tryz.prog.builtSlice 22 1 [((0 : Nat), Value.agg cs)] = some cs) := Lib.hid (by have := blt_22 cs.toList (by simpa using CSZ.out); simpa using this)
      have FO : Hid (Array.foldl (fun (cs : Array Value) (x : Value × Nat) => cs.setIfInBounds x.snd x.fst) #[Value.int .u8 0, Value.int .u8 0, Value.int .u8 0, Value.int .u8 0, Value.int .u8 0, Value.int .u8 0, Value.int .u8 0, Value.int .u8 0, Value.int .u8 0, Value.int .u8 0, Value.int .u8 0, Value.int .u8 0, Value.int .u8 0, Value.int .u8 0, Value.int .u8 0, Value.int .u8 0] cs.zipIdx 0 cs.size = cs) := Lib.hid (by have := fold_au cs.toList (by simpa using CSZ.out); simpa using this)
      have FO2 : Hid (Array.foldl (fun (cs : Array Value) (x : Value × Nat) => cs.setIfInBounds x.snd x.fst) #[Value.int .u8 0, Value.int .u8 0, Value.int .u8 0, Value.int .u8 0, Value.int .u8 0, Value.int .u8 0, Value.int .u8 0, Value.int .u8 0, Value.int .u8 0, Value.int .u8 0, Value.int .u8 0, Value.int .u8 0, Value.int .u8 0, Value.int .u8 0, Value.int .u8 0, Value.int .u8 0] cs.zipIdx 0 16 = cs) := Lib.hid (by have := FO.out; rw [CSZ.out] at this; exact this)
      clear hcl hcs hg PA TKE
      go_wp2_with fail
      refine PA2.out.mono ?_
      rintro e w4 ⟨aa, er4, rfl, hiff, hb4⟩
      have STN : Hid (∀ zz : Array Value, zz.size = 16 → (storeVar 22 ⟨w4.heap.size, 0, none⟩ (.agg cs)).run Tryz.prog (w4.alloc (.cells zz 22)) = .ok () (w4.alloc (.cells cs 22))) := Lib.hid (fun zz hz => run_storeVar_new w4 22 zz cs (by rw [CL.out.1]; exact size_a16) (by rw [hz, CL.out.1]) CL.out.2)
      have hb5 : Below wr.heap.size wr (w4.alloc (.cells cs 22)) := hb4.alloc hb4.size _
      have P5 := Lib.hid (heap_alloc_new w4 (.cells cs 22))
      have R5 := Lib.hid (hrb.out.on hb5)
      have Q5 := Lib.hid ((hb5.block _ (lt_of_block hq.out)).trans hq.out)
      have O5 := Lib.hid (owns_below ho.out hb5)
      have F5 := Lib.hid (hfr.out.trans (Fr1.of_below hb5))
      have C5 : Hid ((w4.alloc (.cells cs 22)).cell? ⟨w.heap.size, 36, none⟩ = some v ∧ v.oneCell' = true) := Lib.hid ⟨(hb5.cell (p := ⟨w.heap.size, 36, none⟩) hpw).trans hc36.out.1, hc36.out.2⟩
      have hw4 : wr.heap.size ≤ w4.heap.size := hb4.size
      have HIFF := Lib.hid hiff
      clear hb4 hb5 PA2 hiff hrb hq ho hfr hc36 hcg
      by_cases her : er4 = 0
      · subst her
        have TB2 : Hid (auBad (gs.take (j + 1)) = 0) := Lib.hid (by rw [TB.out, if_neg (fun h => HIFF.out.1 h rfl), fe_z0]; exact hbad.out)
        go_upto_region 37 with ((with_reducible refine wpList_store 22 rfl _ _ rfl ?_); refine ⟨_, _, _, rfl, rfl, STN.out _ rfl, ?_⟩)
        obtain ⟨w6, hw6⟩ : ∃ w6, w6 = w4.alloc (.cells cs 22) := ⟨_, rfl⟩
        rw [← hw6] at R5 Q5 O5 F5 C5 P5 ⊢
        have LD := Lib.hid (run_load_cl w6 w4.heap.size 16 _ _ cs _ _ P5.out rfl Tryz.underlying22 size_a16 CL.out.1)
        have hw36 : w3.heap.size ≤ w6.heap.size := by rw [hw6]; simp; omega
        have GROW : Hid (∀ (o : Obj) (w8 : World), (w6.alloc o).grownBy w8 v.ownBlock → RB w8 w.heap.size k0 m (decide (j = 0)) ∧ w8.heap[w.heap.size + 1]? = some (.cells z17 140 (0, 0)) ∧ Fr1 w.heap.size w3 w8) := Lib.hid (fun o w8 hg => by
          have B1 : Below w3.heap.size w6 (w6.alloc o) := (Below.refl _ _).alloc hw36 _
          have B := Below.grown B1 hg (by simp; omega) (fun k hk => (O5.out.lt k hk).1)
          obtain ⟨ds, hd1, hd2⟩ := R5.out
          exact ⟨⟨ds, (B.block _ (by omega)).trans hd1, hd2⟩, (B.block _ (by omega)).trans Q5.out, ⟨B.os.trans F5.out.os, B.tape.trans F5.out.tape, B.output.trans F5.out.output, Nat.le_trans hw36 B.size, fun k hk hne => (B.block k hk).trans (F5.out.other k hk hne)⟩⟩)
        have hcz : cs.size = 16 := CSZ.out
        have c36 := C5.out.1
        clear hw6 STN HIFF TB hbad R5 Q5 F5
        go_wp2_with (first
          | ((with_reducible refine wpList_load 22 rfl _ rfl ?_); refine ⟨_, _, rfl, LD.out, ?_⟩)
          | ((with_reducible refine wpList_buildSliceTo rfl 138 22 1 _ rfl w6.heap.size rfl _ rfl Tryz.underlying138 cs BS.out ?_))
          | (at_builtin; refine wpList_append_own _ rfl _ _ 138 rfl w3.heap.size 22 i0 (.agg (idA zero16)) 16 16 Tryz.underlying138 hi0 hz0 hz1 hz2 rfl (by decide) _ _ _ rfl (O5.out.alloc _) ⟨w6.heap.size, 0, none⟩ 1 1 cs.toList rfl (by simpa using CSZ.out) (World.news_of_block (cs := cs) (t := 22) (fr := (0, 0)) (by (first | rw [FO2.out] | rw [FO.out]); exact heap_alloc_new w6 _)) ONE.out (by unfold maxLen; omega) (by omega) (by simp; omega) ?_; intro v' w8 hown' hgrow _; obtain ⟨sa', sc', rfl⟩ := owns_slice hown'; obtain ⟨r8, q8, f8⟩ := GROW.out _ w8 hgrow; clear hgrow GROW; obtain ⟨u, cu, fu⟩ := r8.cell (show 36 < 56 by omega)))
        have O8 : Hid (w8.ownsRow w3.heap.size 22 16 (.slice sa' (j + 1) sc') (j + 1) (auCells (gs.take (j + 1)))) := Lib.hid (by rw [TS.out]; exact hown')
        obtain ⟨r9, c9⟩ := r8.setL (u := .slice sa' (j + 1) sc') rfl
        have f9 : Fr1 w.heap.size w3 (w8.setCell ⟨w.heap.size, 36, none⟩ (.slice sa' (j + 1) sc')) := f8.trans (Fr1.setC _)
        have q9 : (w8.setCell ⟨w.heap.size, 36, none⟩ (.slice sa' (j + 1) sc')).heap[w.heap.size + 1]? = some (.cells z17 140 (0, 0)) := by
          rw [Below.heap_setCell _ _ _ _ (show w.heap.size + 1 ≠ w.heap.size by omega)]; exact q8
        have O9 := Lib.hid (owns_fr O8.out (Fr1.setC (w := w8) (b := w.heap.size) (j := 36) (.slice sa' (j + 1) sc')) (by omega))
        have R9 : Hid (RB (w8.setCell ⟨w.heap.size, 36, none⟩ (.slice sa' (j + 1) sc')) w.heap.size k0 m (decide (j + 1 = 0))) := Lib.hid r9
        have C9 := Lib.hid c9; have F9 := Lib.hid f9; have Q9 := Lib.hid q9
        clear hown' r9 c9 f9 q9 r8 q8 f8 O8 LD BS FO FO2 c36 C5 O5 P5 ONE
        go_wp2_with fail
        go_roundg (n - (j + 1))
        case measure => omega
        case rel => exact ⟨j + 1, _, by omega, rfl, by go_num, TB2, R9, Lib.hid ⟨C9.out, rfl⟩, Q9, O9, F9⟩
      · have q0 : (er4 != 0) = true := int_neq her
        have MF := Lib.hid (BADL.out (HIFF.out.2 her))
        have B5 := Lib.hid (B3.out.trans (F5.out.below B3.out.size (Nat.le_refl _)))
        obtain ⟨cs', rc, ld, st, rs, bb⟩ := rw_exit w (w4.alloc (.cells cs 22)) (R5.out) (Q5.out) (B5.out)
        have RCX := Lib.hid rc; have LD := Lib.hid ld; have ST := Lib.hid st; have RES := Lib.hid rs; have BB := Lib.hid bb
        clear rc ld st rs bb
        have A0 : Hid (RwPost k0 4 m (bs x) w (.returned (.tuple #[.agg cs', .int .i64 3])) ((w4.alloc (.cells cs 22)).setRow (w.heap.size + 1) cs')) := Lib.hid ⟨cs', by show _ = Ending.returned (.tuple #[_, .int .i64 ((modsF (bs x) : Nat) : Int)]); rw [MF.out]; rfl, RCX.out.weak, BB.out⟩
        clear her C5 O5 F5 R5 Q5 P5 B5 BS FO FO2 ONE
        go_wp2_with (first
          | ((with_reducible refine wpList_load 140 rfl _ rfl ?_); refine ⟨_, _, rfl, LD.out, ?_⟩)
          | ((with_reducible refine wpList_store 22 rfl _ _ rfl ?_); refine ⟨_, _, _, rfl, rfl, STN.out _ rfl, ?_⟩)
          | ((with_reducible refine wpList_store 140 rfl _ _ rfl ?_); refine ⟨_, _, _, rfl, rfl, ST.out, ?_⟩))
        exact bodyPost_ret (RES.out _ rfl) rfl A0.out
    · obtain rfl : j = n := by omega
      have hall : gs.take j = gs := List.take_of_length_le (by rw [HN.out]; exact Nat.le_refl _)
      rw [hall] at hbad ho
      have MOK : Hid (modsF (bs x) = if 8 < j then 9 else if incB (gs.map auZ) = false then 30 else 0) := Lib.hid (by
        have h0 : gs.any (fun g => (autP (bs g)).isNone) = false := by
          have := hbad.out; unfold auBad at this
          cases h : gs.any (fun g => (autP (bs g)).isNone)
          · rfl
          · rw [if_pos h] at this; cases this
        unfold modsF
        rw [← HGS.out, mapM_aut, h0, HN.out]
        simp)
      obtain ⟨va, vc, rfl, har⟩ := owns_auG HN.out ho.out
      obtain ⟨ds, hd1, hd2⟩ := hrb.out
      have hd36 : ds[36]? = some (.slice va j vc) := by have h := hc36.out.1; rw [cell_of_row wr w.heap.size 36 _ _ _ hd1] at h; exact h
      have DCL := Lib.hid hd2
      have LNM : (gs.map auZ).length = j := by rw [List.length_map, HN.out]
      obtain ⟨M, hM⟩ : ∃ M, M = modsF (bs x) := ⟨_, rfl⟩
      have POST : Hid (∀ w', Below w.heap.size w w' → RwPost k0 4 m (bs x) w (.returned (.tuple #[.agg ds, .int .i64 (M : Int)])) w') := Lib.hid (fun w' h2 => ⟨ds, by rw [hM]; rfl, hd2.weak, h2⟩)
      have MD := rmods_any wr.drew va vc (gs.map auZ) (by rw [LNM]; have := NE.out; have := HN.out; omega) (by rw [LNM]; omega) har (fun y hy => by obtain ⟨g, _, rfl⟩ := List.mem_map.1 hy; exact auZ_ok g)
      rw [LNM, ← MOK.out, ← hM] at MD
      have MD := Lib.hid MD
      have BR := B3.out.trans (hfr.out.below B3.out.size (Nat.le_refl _))
      have HBR : Hid (Below w.heap.size w wr.drew) := Lib.hid BR.drew
      have HQ := Lib.hid (show wr.drew.heap[w.heap.size + 1]? = some (.cells z17 140 (0, 0)) from hq.out)
      have LZ : Hid (∀ wx : World, wx.heap[w.heap.size]? = some (.cells ds 140 (0, 0)) → (loadVar 140 ⟨w.heap.size, 0, none⟩).run Tryz.prog wx = .ok (.agg ds) wx) := Lib.hid (fun wx h => run_load_cl wx w.heap.size 56 _ _ ds _ _ h rfl Tryz.underlying140 size_c17 DCL.out.cl.1)
      have C36 : Hid (∀ wx : World, wx.heap[w.heap.size]? = some (.cells ds 140 (0, 0)) → wx.cell? ⟨w.heap.size, 36, none⟩ = some (.slice va j vc)) := Lib.hid (fun wx h => by rw [cell_of_row wx w.heap.size 36 _ _ _ h]; exact hd36)
      have STX : Hid (∀ wx : World, wx.heap[w.heap.size + 1]? = some (.cells z17 140 (0, 0)) → Below w.heap.size w wx → (storeVar 140 ⟨w.heap.size + 1, 0, none⟩ (.agg ds)).run Tryz.prog wx = .ok () (wx.setRow (w.heap.size + 1) ds) ∧
          (∀ tmps : Array Value, tmps.getD 6 undef = .pointer (some ⟨w.heap.size + 1, 0, none⟩) → (results Tryz.f133 tmps).run Tryz.prog (wx.setRow (w.heap.size + 1) ds) = .ok (.tuple #[.agg ds, tmps.getD 7 undef]) (wx.setRow (w.heap.size + 1) ds)) ∧ Below w.heap.size w (wx.setRow (w.heap.size + 1) ds)) := Lib.hid (fun wx hx hbx =>
        ⟨run_storeVar_row (P := Tryz.prog) wx (w.heap.size + 1) _ 140 z17 ds hx (by rw [DCL.out.cl.1]; exact size_c17) (by rw [DCL.out.cl.1, cl_z17.1]) DCL.out.cl.2,
          fun tmps ht => results_cell_tmp1 Tryz.results133 tmps _ (w.heap.size + 1) _ _ _ _ ht (setRow_heap wx (w.heap.size + 1) z17 ds _ _ hx) Tryz.underlying140 rfl (by rw [DCL.out.cl.1]; exact size_c17),
          below_setRow hbx (Nat.le_succ _) ds⟩)
      clear hM MOK har hc36 hbad hrb hq ho hfr BR hd36 hd2 ROW GZ LNM
      go_upto_region 38 with fail
      have HS : (fun wx : World => wx.heap[w.heap.size]? = some (.cells ds 140 (0, 0))) wr.drew := hd1
      refine wp_region_held (S := fun wx : World => wx.heap[w.heap.size]? = some (.cells ds 140 (0, 0))) (by kernel_rfl) ?_
      change wpAnyH _ _ _ _ _ _ _ _ wr.drew
      obtain ⟨wd, hwd⟩ : ∃ wd, wd = wr.drew := ⟨_, rfl⟩
      rw [← hwd] at HS MD HBR HQ ⊢
      clear hwd hd1
      refine takeV 0 (.agg ds) rfl (fun w' hw' => exec_load (ty := 140) (x := .tmp 3) (ad := ⟨w.heap.size, 0, none⟩) rfl (by kernel_rfl) (LZ.out w' hw')) HS ?_
      refine takeV 1 (.pointer (some ⟨w.heap.size, 36, none⟩)) rfl (fun _ _ => by go_simp) HS ?_
      refine takeV 2 (.slice va j vc) rfl (fun w' hw' => by have c36 := C36.out w' hw'; go_simp) HS ?_
      refine anyH_one (i := 3) (by kernel_rfl) ?_
      refine any_call (f := 170) (args := #[.slice va j vc]) rfl rfl (by go_simp) ?_
      refine MD.out.mono ?_
      rintro e w7 ⟨rfl, hd7⟩
      have b7 : Below wd.heap.size wd w7 := Dr.below hd7
      have HS7 : (fun wx : World => wx.heap[w.heap.size]? = some (.cells ds 140 (0, 0))) w7 := (b7.block _ (lt_of_block HS)).trans HS
      obtain ⟨st7, rs7, bb7⟩ := STX.out w7 ((b7.block _ (lt_of_block HQ.out)).trans HQ.out) (HBR.out.trans (b7.mono HBR.out.size))
      have HS8 : (fun wx : World => wx.heap[w.heap.size]? = some (.cells ds 140 (0, 0))) (w7.setRow (w.heap.size + 1) ds) := (setRow_other w7 (w.heap.size + 1) w.heap.size ds (by omega)).trans HS7
      have RES := Lib.hid rs7; have BB := Lib.hid bb7
      refine ⟨_, rfl, HS7, ?_⟩
      refine anyH_stepS (i := 4) (by kernel_rfl) rfl rfl (exec_store (t := 140) (ad := ⟨w.heap.size + 1, 0, none⟩) (u := .agg ds) rfl (by kernel_rfl) (by kernel_rfl) st7) HS8 ?_
      refine anyH_step (i := 5) (v := .int .i64 (M : Int)) (by kernel_rfl) rfl rfl (exec_assignV rfl (by kernel_rfl)) HS8 ?_
      refine wpAnyH_done (by kernel_rfl) ?_ _
      clear HS HS7 HS8 st7 rs7 bb7 b7 hd7 MD HBR HQ LZ C36 STX
      go_simp
      refine ‹∀ (a : Act) (w_1 : World), _ → _› _ _ ?_
      go_wp2_with fail
      exact bodyPost_ret (RES.out _ rfl) rfl (POST.out _ BB.out)
/-- The name of a sort of words. -/
def sortB (a : Nat) : ByteArray := if a = 0 then ⟨#[116, 97, 114, 103, 101, 116]⟩ else if a = 1 then ⟨#[103, 114, 111, 117, 112]⟩ else if a = 2 then ⟨#[118, 101, 114, 115, 105, 111, 110]⟩ else if a = 3 then ⟨#[109, 111, 100, 101]⟩ else if a = 4 then ⟨#[97, 117, 116, 104, 111, 114, 115]⟩ else if a = 5 then ⟨#[110, 117, 109, 98, 101, 114]⟩ else ⟨#[112, 117, 98, 108, 105, 99]⟩
theorem rword_any (w : World) (cs : Array Value) (k a : Nat) (m : Bool) (x : ByteArray) (ha : a ≤ 6) (hs : x.size ≤ 100000) (h : RC cs k m true) :
    Calls Tryz.prog 133 #[.agg cs, .string (sortB a), .string x] w (RwPost k a m (bs x) w) := by
  rcases (by omega : a = 0 ∨ a = 1 ∨ a = 2 ∨ a = 3 ∨ a = 4 ∨ a = 5 ∨ a = 6) with rfl | rfl | rfl | rfl | rfl | rfl | rfl
  · exact rword_target w cs k m x hs h
  · exact rword_group w cs k m x (by omega) h
  · exact rword_version w cs k m x hs h
  · exact rword_mode w cs k m x hs h
  · exact rword_authors w cs k m x hs h
  · exact rword_number w cs k m x hs h
  · exact rword_public w cs k m x hs h
theorem sort4 {a : Nat} (h : a ≤ 6) (h4 : a ≠ 4) : ((sortB a).toList == [97, 117, 116, 104, 111, 114, 115]) = false := by
  rcases (by omega : a = 0 ∨ a = 1 ∨ a = 2 ∨ a = 3 ∨ a = 5 ∨ a = 6) with rfl | rfl | rfl | rfl | rfl | rfl <;> kernel_rfl
theorem kindN_inv {x : List Nat} {k : Nat} (h : kindN x = k) (hk : k ≠ 0) : bs (kindS k) = x := by
  unfold kindN at h
  split at h
  · subst h; rename_i e; rw [e]; decide
  split at h
  · subst h; rename_i e; rw [e]; decide
  split at h
  · subst h; rename_i e; rw [e]; decide
  split at h
  · subst h; rename_i e; rw [e]; decide
  split at h
  · subst h; rename_i e; rw [e]; decide
  · exact absurd h.symm hk
theorem kindN_kindS {k : Nat} (h1 : 1 ≤ k) (h5 : k ≤ 5) : kindN (bs (kindS k)) = k := by
  rcases (by omega : k = 1 ∨ k = 2 ∨ k = 3 ∨ k = 4 ∨ k = 5) with rfl | rfl | rfl | rfl | rfl <;> decide
theorem kindN_le (x : List Nat) : kindN x ≤ 5 := by
  unfold kindN
  split
  · omega
  split
  · omega
  split
  · omega
  split
  · omega
  split <;> omega
theorem kindS_eqb {k : Nat} {x : ByteArray} (h1 : 1 ≤ k) (h5 : k ≤ 5) : ((kindS k).toList == x.toList) = decide (kindN (bs x) = k) := by
  by_cases e : kindN (bs x) = k
  · rw [decide_eq_true e, str_eqb (kindN_inv e (by omega))]; exact beq_self_eq_true _
  · rw [decide_eq_false e, beq_eq_false_iff_ne, ByteArray.toList_eq, ByteArray.toList_eq]
    intro h
    have h2 : kindS k = x := ByteArray.ext (Array.toList_inj.1 h)
    exact e (by rw [← h2]; exact kindN_kindS h1 h5)
theorem rsorts_any (w : World) (k : Nat) (h1 : 1 ≤ k) (h5 : k ≤ 5) :
    Calls Tryz.prog 132 #[.int .i64 (k : Int)] w fun e w' => ∃ v, e = .returned v ∧ SRow w' v ((sortsN k).map sortB) ∧ Below w.heap.size w w' ∧ (∀ a, v.ownBlock = some a → w.heap.size ≤ a) := by
  have AT : ∀ (l : List ByteArray), SRow (w.alloc (.cells (l.map Value.string).toArray 9)) (.slice (some ⟨w.heap.size, 0, none⟩) l.length l.length) l := fun l =>
    ⟨_, _, rfl, Nat.le_refl _, fun _ => ⟨_, 0, rfl, by simp, fun j h => by
      rw [Nat.zero_add, cell_of_row _ w.heap.size j _ _ _ (heap_alloc_last w _)]
      simp [h]⟩⟩
  have OWN : ∀ (n : Nat) a, (Value.slice (some ⟨w.heap.size, 0, none⟩) n n).ownBlock = some a → w.heap.size ≤ a := fun n a h => by
    have : some w.heap.size = some a := h
    cases this; exact Nat.le_refl _
  have BB := fun (o : Obj) => (Below.refl w.heap.size w).alloc (Nat.le_refl _) o
  rcases (by omega : k = 1 ∨ k = 2 ∨ k = 3 ∨ k = 4 ∨ k = 5) with rfl | rfl | rfl | rfl | rfl
  · have A := Lib.hid (AT [sortB 0]); have O := Lib.hid (OWN 1); have B := Lib.hid BB
    clear AT OWN BB
    go_enter Tryz.func132, Tryz.ntmps132
    go_wp2_with fail
    go_ret
    exact ⟨_, rfl, A.out, B.out _, O.out⟩
  · have A := Lib.hid (AT [sortB 0, sortB 1]); have O := Lib.hid (OWN 2); have B := Lib.hid BB
    clear AT OWN BB
    go_enter Tryz.func132, Tryz.ntmps132
    go_wp2_with fail
    go_ret
    exact ⟨_, rfl, A.out, B.out _, O.out⟩
  · have A := Lib.hid (AT [sortB 1, sortB 2, sortB 3, sortB 4]); have O := Lib.hid (OWN 4); have B := Lib.hid BB
    clear AT OWN BB
    go_enter Tryz.func132, Tryz.ntmps132
    go_wp2_with fail
    go_ret
    exact ⟨_, rfl, A.out, B.out _, O.out⟩
  · have A := Lib.hid (AT [sortB 1, sortB 2]); have O := Lib.hid (OWN 2); have B := Lib.hid BB
    clear AT OWN BB
    go_enter Tryz.func132, Tryz.ntmps132
    go_wp2_with fail
    go_ret
    exact ⟨_, rfl, A.out, B.out _, O.out⟩
  · have A := Lib.hid (AT [sortB 5, sortB 6]); have O := Lib.hid (OWN 2); have B := Lib.hid BB
    clear AT OWN BB
    go_enter Tryz.func132, Tryz.ntmps132
    go_wp2_with fail
    go_ret
    exact ⟨_, rfl, A.out, B.out _, O.out⟩
theorem exec_alloc17 {o : Oper} {a : Act} (w : World) (ho : o.op = .alloc 140) : (execOp a.eval o).run Tryz.prog w = .ok (.value (.pointer (some ⟨w.heap.size, 0, none⟩))) (w.alloc (.cells z17 140)) := by
  unfold execOp
  rw [ho]
  rfl
theorem build_z17 (w : World) : (Instr.build 140 #[]).run Tryz.prog w = .ok (.agg z17) w := by kernel_rfl
end Go.Proofs.YtohmdledkhgdaaaGreatDoor
