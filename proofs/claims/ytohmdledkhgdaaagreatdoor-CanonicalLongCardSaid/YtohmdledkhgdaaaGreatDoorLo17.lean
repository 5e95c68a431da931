/- references.checkNext, Check. -/
import Derived.Test.YtohmdledkhgdaaaGreatDoorLo16
namespace Go.Proofs.YtohmdledkhgdaaaGreatDoor
open Go.RowKit
set_option linter.unusedVariables false
set_option maxRecDepth 100000
section
variable {P : Program} {ops : Array Oper} {rest : List Oper} {o : Oper} {a : Act} {w w' : World} {Q : Exit → Act → World → Prop} {v : Value}
theorem exec_lookup {t : TypeId} {m x : Operand} {ok : Bool} {mv kv : Value} (ho : o.op = .lookup t m x ok) (hm : a.eval m = mv) (hx : a.eval x = kv) (h : (Instr.lookup t mv kv ok).run P w = .ok v w') : (execOp a.eval o).run P w = .ok (.value v) w' := by
  unfold execOp
  simp only [ho, hm, hx, Sem.run_bind, Sem.run_pure, Result.andThen_ok, h]
theorem exec_mapUpdate {t : TypeId} {m x y : Operand} {mv kv yv : Value} (ho : o.op = .mapUpdate t m x y) (hm : a.eval m = mv) (hx : a.eval x = kv) (hy : a.eval y = yv) (h : (Instr.mapUpdate t mv kv yv).run P w = .ok () w') : (execOp a.eval o).run P w = .ok .skip w' := by
  unfold execOp
  simp only [ho, hm, hx, hy, Sem.run_bind, Sem.run_pure, Result.andThen_ok, h]
theorem wpList_lookupM (t : TypeId) (hgd : o.guard = none) (m x : Operand) (ho : o.op = .lookup t m x false) (h : ∃ mv kv v, a.eval m = mv ∧ a.eval x = kv ∧ (Instr.lookup t mv kv false).run P w = .ok v w ∧ wpList P ops Q rest (a.put o.dst v) w) : wpList P ops Q (o :: rest) a w := by
  obtain ⟨mv, kv, v, h1, h2, h3, h4⟩ := h
  exact wpList_run hgd (exec_lookup ho h1 h2 h3) h4
theorem wpList_updateM (t : TypeId) (hgd : o.guard = none) (m x y : Operand) (ho : o.op = .mapUpdate t m x y) (h : ∃ mv kv yv w', a.eval m = mv ∧ a.eval x = kv ∧ a.eval y = yv ∧ (Instr.mapUpdate t mv kv yv).run P w = .ok () w' ∧ wpList P ops Q rest (a.put o.dst undef) w') : wpList P ops Q (o :: rest) a w := by
  obtain ⟨mv, kv, yv, w', h1, h2, h3, h4, h5⟩ := h
  exact wpList_run_skip hgd (exec_mapUpdate ho h1 h2 h3 h4) h5
end
/-- The error of one more identity. -/
def cnF (ids : List (List Nat)) (x : List Nat) : Nat := if x = zero32 then 1 else if x ∈ ids then 7 else 0
def CnPost (w : World) (b : Nat) (ids : List (List Nat)) (x : List Nat) (e : Ending) (w' : World) : Prop :=
  e = .returned (.int .i64 (cnF ids x : Nat)) ∧ (cnF ids x = 0 → MId w' b (ids ++ [x])) ∧ Fr1 b w w'
theorem Fr1.grown {b : Nat} {w w' : World} (h : w.grownBy w' (some b)) : Fr1 b w w' := ⟨h.os, h.tape, h.output, h.size, fun k hk hne => h.block k hk (fun e => hne (by cases e; rfl))⟩
set_option maxHeartbeats 1000000 in
theorem cnext_any (w : World) (b : Nat) (ids : List (List Nat)) (hm : MId w b ids) (hi : ∀ y ∈ ids, IdOk y) {x : List Nat} (hx : IdOk x) :
    Calls Tryz.prog 102 #[.agg (idA x), .map (some b)] w (CnPost w b ids x) := by
  obtain ⟨cs, hcs⟩ : ∃ cs, cs = idA x := ⟨_, rfl⟩
  obtain ⟨p, hp⟩ : ∃ p, p = w.heap.size := ⟨_, rfl⟩
  have B0 : Hid (Below w.heap.size w (w.alloc (.cells cs 26))) := Lib.hid ((Below.refl _ _).alloc (Nat.le_refl _) _)
  have LDW : Hid (∀ w', Below (w.alloc (.cells cs 26)).heap.size (w.alloc (.cells cs 26)) w' → (loadVar 26 ⟨w.heap.size, 0, none⟩).run Tryz.prog w' = .ok (.agg cs) w') := Lib.hid (fun w' h => by
    rw [hcs]; exact load_id _ w.heap.size 0 _ _ _ hx.len ((h.block w.heap.size (by simp)).trans (by rw [hcs]; exact heap_alloc_last w _)) (id_self x))
  have Z := Lib.hid (iszero_any (w.alloc (.cells cs 26)) hx)
  have LK : Hid (∀ w', Below (w.alloc (.cells cs 26)).heap.size (w.alloc (.cells cs 26)) w' → (Instr.lookup 148 (.map (some b)) (.agg cs) false).run Tryz.prog w' = .ok (.bool (decide (x ∈ ids))) w') := Lib.hid (fun w' h => by
    rw [hcs]; exact lookup_id w' ((hm.below B0.out).below h) hi hx)
  have UP : Hid (∀ w', Below (w.alloc (.cells cs 26)).heap.size (w.alloc (.cells cs 26)) w' → x ∉ ids → ∃ w'', (Instr.mapUpdate 148 (.map (some b)) (.agg cs) (.bool true)).run Tryz.prog w' = .ok () w'' ∧ MId w'' b (ids ++ [x]) ∧ w'.grownBy w'' (some b)) := Lib.hid (fun w' h hn => by
    rw [hcs]; exact update_id w' ((hm.below B0.out).below h) hi hx hn)
  have LD0 := LDW.out _ (Below.refl _ _)
  have HL0 := Lib.hid LD0
  have CF : Hid (cnF ids x = if x = zero32 then 1 else if x ∈ ids then 7 else 0) := Lib.hid rfl
  rw [← hcs] at Z ⊢
  clear hcs hp hm hi hx LD0
  go_enter Tryz.func102, Tryz.ntmps102
  go_upto_region 1 with fail
  refine wp_region_list ?_
  simp only []
  refine wpList_load 26 rfl _ rfl ⟨_, _, rfl, HL0.out, ?_⟩
  go_wp2_with fail
  refine Z.out.mono ?_
  rintro e w1 ⟨rfl, hb1⟩
  have LD1 := Lib.hid (LDW.out w1 hb1)
  have LK1 := Lib.hid (LK.out w1 hb1)
  have UP1 := Lib.hid (UP.out w1 hb1)
  have B1 := Lib.hid (B0.out.trans (hb1.mono B0.out.size))
  clear hb1 Z LDW LK UP HL0
  by_cases hz : x = zero32
  · have C1 : Hid (cnF ids x = 1) := Lib.hid (by rw [CF.out, if_pos hz])
    rw [decide_eq_true hz]
    clear hz
    go_wp2_with fail
    go_ret
    exact ⟨by rw [C1.out]; rfl, (fun h => by rw [C1.out] at h; cases h), Fr1.of_below B1.out⟩
  · rw [decide_eq_false hz]
    by_cases hm : x ∈ ids
    · have C1 : Hid (cnF ids x = 7) := Lib.hid (by rw [CF.out, if_neg hz, if_pos hm])
      rw [decide_eq_true hm] at LK1
      clear hz hm
      go_wp2_with (first
        | ((with_reducible refine wpList_load 26 rfl _ rfl ?_); refine ⟨_, _, rfl, LD1.out, ?_⟩)
        | ((with_reducible refine wpList_lookupM 148 rfl _ _ rfl ?_); refine ⟨_, _, _, rfl, rfl, LK1.out, ?_⟩))
      go_ret
      exact ⟨by rw [C1.out]; rfl, (fun h => by rw [C1.out] at h; cases h), Fr1.of_below B1.out⟩
    · have C1 : Hid (cnF ids x = 0) := Lib.hid (by rw [CF.out, if_neg hz, if_neg hm])
      obtain ⟨w2, hu, hmid, hgr⟩ := UP1.out hm
      have HU := Lib.hid hu; have HM := Lib.hid hmid; have HG := Lib.hid hgr
      rw [decide_eq_false hm] at LK1
      clear hz hm hu hmid hgr UP1
      go_wp2_with (first
        | ((with_reducible refine wpList_load 26 rfl _ rfl ?_); refine ⟨_, _, rfl, LD1.out, ?_⟩)
        | ((with_reducible refine wpList_lookupM 148 rfl _ _ rfl ?_); refine ⟨_, _, _, rfl, rfl, LK1.out, ?_⟩)
        | ((with_reducible refine wpList_updateM 148 rfl _ _ _ rfl ?_); refine ⟨_, _, _, _, rfl, rfl, rfl, HU.out, ?_⟩))
      go_ret
      exact ⟨by rw [C1.out]; rfl, (fun _ => HM.out), (Fr1.of_below B1.out).trans (Fr1.grown HG.out)⟩
end Go.Proofs.YtohmdledkhgdaaaGreatDoor
/- references.Check. -/
namespace Go.Proofs.YtohmdledkhgdaaaGreatDoor
open Go.RowKit
set_option linter.unusedVariables false
set_option maxRecDepth 100000
def zF (x : List Nat) : Nat := if x = zero32 then 1 else 0
theorem refsF_eq (l : List (List Nat)) : refsF l = listF zF l := rfl
theorem cnF_list {L : List (List Nat)} {j : Nat} (h : j < L.length) : listG zF 7 (L.take j) (L.drop j) = if cnF (L.take j) L[j] ≠ 0 then cnF (L.take j) L[j] else listG zF 7 (L.take (j + 1)) (L.drop (j + 1)) := by
  rw [listG_step zF 7 L j h]
  unfold cnF zF
  by_cases h1 : L[j] = zero32
  · simp [h1]
  · by_cases h2 : L[j] ∈ L.take j <;> simp [h1, h2]
set_option maxHeartbeats 2000000 in
theorem rcheck_any (w : World) (v : Value) (ids : List (List Nat)) (hr : IRow w v ids) (hl : ids.length ≤ 1000000) (hi : ∀ y ∈ ids, IdOk y) :
    Calls Tryz.prog 60 #[v] w fun e w' => e = .returned (.int .i64 (refsF ids : Nat)) ∧ Below w.heap.size w w' := by
  rw [refsF_eq]
  obtain ⟨n, hn⟩ : ∃ n, n = ids.length := ⟨_, rfl⟩
  obtain ⟨a, cap, rfl, hcap, hcells⟩ := hr
  rw [← hn] at hcap hl ⊢
  have HN := Lib.hid hn
  have HC := Lib.hid hcells; have HI := Lib.hid hi
  by_cases h20 : 20 < n
  · have F : Hid (listF zF ids = 9) := Lib.hid (by unfold listF; rw [if_pos (by rw [← hn]; exact h20)])
    clear hcells hn hi
    go_enter Tryz.func60, Tryz.ntmps60
    go_wp2_with fail
    go_ret
    exact ⟨by rw [F.out]; rfl, Below.refl _ _⟩
  · have F : Hid (listF zF ids = listG zF 7 (ids.take 0) (ids.drop 0)) := Lib.hid (by unfold listF; rw [if_neg (by rw [← hn]; exact h20)]; rfl)
    have hmm := @run_makeMap Tryz.prog
    clear hcells hn hi
    go_enter Tryz.func60, Tryz.ntmps60
    go_wp2_with fail
    clear hmm
    go_loopg [5, 6, 13] n (fun k s5 s6 i wr => ∃ j : Nat, j ≤ n ∧ k = n - j ∧ i = .int .i64 (j : Int) ∧ Hid (listF zF ids = listG zF 7 (ids.take j) (ids.drop j)) ∧ Hid (MId wr w.heap.size (ids.take j)) ∧ Hid (Below w.heap.size w wr))
    case atStart => exact ⟨0, by omega, rfl, rfl, F, Lib.hid (by simpa using MId.made w), Lib.hid ((Below.refl _ _).alloc (Nat.le_refl _) _)⟩
    case round =>
      obtain ⟨j, hj, rfl, rfl, ha, hm, hb⟩ := hrel
      by_cases h : j < n
      · have hjl : j < ids.length := by rw [← HN.out]; exact h
        obtain ⟨b, off, rfl, hbl, hcl⟩ := HC.out (by intro e; rw [e] at hjl; simp at hjl)
        obtain ⟨x, hx⟩ : ∃ x, x = ids[j] := ⟨_, rfl⟩
        have hxo : IdOk x := by rw [hx]; exact HI.out _ (List.getElem_mem hjl)
        have LD : Hid ((loadVar 26 ⟨b, off + j * 32, none⟩).run Tryz.prog wr = .ok (.agg (idA x)) wr) := Lib.hid
          (run_loadVar_cells wr b (off + j * 32) 26 (idA x) _ Tryz.underlying26 rfl (by rw [idA_size, hxo.len]; exact size23) (fun k u hu => by
            rw [hb.out.cell (p := ⟨b, off + j * 32 + k, none⟩) hbl]; exact hcl j hjl k u (by rw [← hx]; exact hu)))
        have ST := Lib.hid (cnF_list (L := ids) hjl)
        rw [← hx] at ST
        have TS : Hid (ids.take (j + 1) = ids.take j ++ [x]) := Lib.hid (by rw [List.take_succ_eq_append_getElem hjl, ← hx])
        have hs32 : (idA x).size = 32 := by rw [idA_size, hxo.len]
        have STR : Hid (∀ zz : Array Value, zz.size = 32 → (storeVar 26 ⟨wr.heap.size, 0, none⟩ (.agg (idA x))).run Tryz.prog (wr.alloc (.cells zz 26)) = .ok () (wr.alloc (.cells (idA x) 26))) := Lib.hid (fun zz hz => run_storeVar_new wr 26 zz (idA x) (by rw [hs32]; exact size23) (by rw [hz, hs32]) (one_idA _))
        have LD2 : Hid ((loadVar 26 ⟨wr.heap.size, 0, none⟩).run Tryz.prog (wr.alloc (.cells (idA x) 26)) = .ok (.agg (idA x)) (wr.alloc (.cells (idA x) 26))) := Lib.hid (load_id _ wr.heap.size 0 _ _ _ hxo.len (heap_alloc_last wr _) (id_self x))
        have BA : Hid (Below wr.heap.size wr (wr.alloc (.cells (idA x) 26))) := Lib.hid ((Below.refl _ _).alloc (Nat.le_refl _) _)
        have CN := Lib.hid (cnext_any (wr.alloc (.cells (idA x) 26)) w.heap.size (ids.take j) (hm.out.below BA.out) (fun y hy => HI.out y (List.mem_of_mem_take hy)) hxo)
        have B1 : Hid (Below w.heap.size w (wr.alloc (.cells (idA x) 26))) := Lib.hid (hb.out.trans (BA.out.mono hb.out.size))
        obtain ⟨cs, hcs⟩ : ∃ cs, cs = idA x := ⟨_, rfl⟩
        rw [← hcs] at LD STR LD2 CN B1
        obtain ⟨m, hmm⟩ : ∃ m, m = cnF (ids.take j) x := ⟨_, rfl⟩
        unfold CnPost at CN
        rw [← hmm] at CN ST
        clear hx hcl hcs hs32 hxo BA hm hmm
        go_upto_region 7 with (first
          | ((with_reducible refine wpList_load 26 rfl _ rfl ?_); refine ⟨_, _, rfl, LD.out, ?_⟩)
          | ((with_reducible refine wpList_store 26 rfl _ _ rfl ?_); refine ⟨_, _, _, rfl, rfl, STR.out _ rfl, ?_⟩))
        refine wp_region_list ?_
        simp only []
        refine wpList_load 26 rfl _ rfl ⟨_, _, rfl, LD2.out, ?_⟩
        go_wp2_with fail
        refine CN.out.mono ?_
        rintro e w1 ⟨rfl, h1, f1⟩
        have BB : Hid (Below w.heap.size w w1) := Lib.hid (B1.out.trans (f1.below B1.out.size (Nat.le_refl _)))
        by_cases m0 : m = 0
        · have q0 : ((m : Int) != 0) = false := int_nneq (by omega)
          have MN : Hid (MId w1 w.heap.size (ids.take (j + 1))) := Lib.hid (by rw [TS.out]; exact h1 m0)
          have ST2 : Hid (listF zF ids = listG zF 7 (ids.take (j + 1)) (ids.drop (j + 1))) := Lib.hid (by rw [ha.out, ST.out, if_neg (by omega)])
          clear m0 h1 f1 CN
          go_wp2_with fail
          go_roundg (n - (j + 1))
          case measure => omega
          case rel => exact ⟨j + 1, by omega, rfl, by go_num, ST2, MN, BB⟩
        · have q0 : ((m : Int) != 0) = true := int_neq (by omega)
          have ST2 : Hid (listF zF ids = m) := Lib.hid (by rw [ha.out, ST.out, if_pos m0])
          clear m0 h1 f1 CN
          go_wp2_with fail
          go_ret
          exact ⟨by rw [ST2.out]; rfl, BB.out⟩
      · obtain rfl : j = n := by omega
        have ST2 : Hid (listF zF ids = 0) := Lib.hid (by rw [ha.out, List.drop_of_length_le (by rw [HN.out]; exact Nat.le_refl _)]; rfl)
        go_wp2_with fail
        go_ret
        exact ⟨by rw [ST2.out]; rfl, hb.out⟩
theorem infoS : (Tryz.prog.info? 9).map (fun i => (i.zero, i.size, i.bytes)) = some (some (.string ⟨#[]⟩), 1, 16) := by kernel_rfl
theorem ownS_row {w : World} {base : Nat} {v : Value} {gs : List ByteArray} (h : w.ownsRow base 9 1 v gs.length (gs.map Value.string)) : SRow w v gs := by
  rcases h.2 with ⟨rfl, h0⟩ | ⟨g, cap, cur, rfl, hb, hg, hc, _, hs, ht⟩
  · exact ⟨none, 0, by rw [h0], by rw [h0]; exact Nat.le_refl _, fun hne => absurd (List.length_eq_zero_iff.1 h0) hne⟩
  · refine ⟨some ⟨g, 0, none⟩, cap, rfl, hc, fun _ => ⟨g, 0, rfl, lt_of_block hg, fun j hj => ?_⟩⟩
    rw [Nat.zero_add, cell_of_row w g j _ _ _ hg]
    have e1 : (cur.toList.take (gs.length * 1))[j]? = some (.string gs[j]) := by rw [ht]; simp [hj]
    rw [List.getElem?_take, if_pos (by omega)] at e1
    simpa using e1
theorem midF_len {x : List Nat} (h : IdOk x) : (midF x).length = 71 := by
  simp [midF, hexF_len, h.len, sHash]
theorem midF_lt {x : List Nat} (h : IdOk x) : ∀ c ∈ midF x, c < 256 := by
  intro c hc
  simp only [midF, List.cons_append, List.mem_cons, List.mem_append] at hc
  rcases hc with rfl | hc | hc
  · omega
  · exact hexF_lt h.lt c hc
  · simp [sHash] at hc; omega
theorem owns_below {W w2 : World} {base e size n : Nat} {v : Value} {xs : List Value} (h : W.ownsRow base e size v n xs) (hb : Below W.heap.size W w2) : w2.ownsRow base e size v n xs := by
  rcases h.2 with ⟨rfl, h0⟩ | ⟨g, cap, cur, rfl, hg, hgb, r⟩
  · exact ⟨h.1, .inl ⟨rfl, h0⟩⟩
  · exact ⟨h.1, .inr ⟨g, cap, cur, rfl, hg, (hb.block g (lt_of_block hgb)).trans hgb, r⟩⟩
def mids (ids : List (List Nat)) : List ByteArray := ids.map fun x => strN (midF x)
theorem mids_bs {ids : List (List Nat)} (h : ∀ x ∈ ids, IdOk x) : (mids ids).map bs = ids.map midF := by
  unfold mids
  rw [List.map_map]
  exact List.map_congr_left fun x hx => bs_strN _ (midF_lt (h x hx))
set_option maxHeartbeats 2000000 in
theorem rprint_any (w : World) (v : Value) (ids : List (List Nat)) (hr : IRow w v ids) (hl : ids.length ≤ 1000000) (hi : ∀ y ∈ ids, IdOk y) :
    Calls Tryz.prog 53 #[v] w (FmtPost (refsF ids) (joinF [32] (ids.map midF)) w) := by
  obtain ⟨i0, hi0, hz0, hz1, hz2⟩ := info_parts infoS
  obtain ⟨n, hn⟩ : ∃ n, n = ids.length := ⟨_, rfl⟩
  have C := Lib.hid (rcheck_any w v ids hr hl hi)
  obtain ⟨a, cap, rfl, hcap, hcells⟩ := hr
  rw [← hn] at hcap hl C ⊢
  have HN := Lib.hid hn
  have HC := Lib.hid hcells; have HI := Lib.hid hi
  obtain ⟨m, hm⟩ : ∃ m, m = refsF ids := ⟨_, rfl⟩
  rw [← hm] at C ⊢
  have HM := Lib.hid hm
  clear hcells hn hi hm
  go_enter Tryz.func53, Tryz.ntmps53
  go_wp2_with fail
  refine C.out.mono ?_
  rintro e w1 ⟨rfl, hb1⟩
  have B1 := Lib.hid hb1
  clear hb1 C
  by_cases m0 : m = 0
  · have q0 : ((m : Int) != 0) = false := int_nneq (by omega)
    have N20 : n ≤ 20 := by rw [HN.out]; exact (listF_zero (f := zF) (l := ids) (by rw [← refsF_eq, ← HM.out]; exact m0)).1
    have M0 := Lib.hid m0
    clear m0
    go_wp2_with fail
    go_loopg [5, 7, 15] n (fun k v s7 i wr => ∃ j : Nat, j ≤ n ∧ k = n - j ∧ i = .int .i64 (j : Int) ∧ Hid (wr.ownsRow w1.heap.size 9 1 v j ((mids (ids.take j)).map Value.string)) ∧ Hid (Below w1.heap.size w1 wr))
    case atStart => exact ⟨0, by omega, rfl, rfl, Lib.hid (World.ownsRow_nil _ _ _ _), Lib.hid (Below.refl _ _)⟩
    case round =>
      obtain ⟨j, hj, rfl, rfl, ho, hb⟩ := hrel
      by_cases h : j < n
      · have hjl : j < ids.length := by rw [← HN.out]; exact h
        obtain ⟨b, off, rfl, hbl, hcl⟩ := HC.out (by intro e; rw [e] at hjl; simp at hjl)
        obtain ⟨x, hx⟩ : ∃ x, x = ids[j] := ⟨_, rfl⟩
        have hxo : IdOk x := by rw [hx]; exact HI.out _ (List.getElem_mem hjl)
        have hbw : Below w.heap.size w wr := B1.out.trans (hb.out.mono B1.out.size)
        have LD : Hid ((loadVar 26 ⟨b, off + j * 32, none⟩).run Tryz.prog wr = .ok (.agg (idA x)) wr) := Lib.hid
          (run_loadVar_cells wr b (off + j * 32) 26 (idA x) _ Tryz.underlying26 rfl (by rw [idA_size, hxo.len]; exact size23) (fun k u hu => by
            rw [hbw.cell (p := ⟨b, off + j * 32 + k, none⟩) hbl]; exact hcl j hjl k u (by rw [← hx]; exact hu)))
        have TS : Hid ((mids (ids.take (j + 1))).map Value.string = (mids (ids.take j)).map Value.string ++ [.string (strN (midF x))]) := Lib.hid (by unfold mids; rw [List.take_succ_eq_append_getElem hjl, ← hx]; simp)
        have hs32 : (idA x).size = 32 := by rw [idA_size, hxo.len]
        have STR : Hid (∀ zz : Array Value, zz.size = 32 → (storeVar 26 ⟨wr.heap.size, 0, none⟩ (.agg (idA x))).run Tryz.prog (wr.alloc (.cells zz 26)) = .ok () (wr.alloc (.cells (idA x) 26))) := Lib.hid (fun zz hz => run_storeVar_new wr 26 zz (idA x) (by rw [hs32]; exact size23) (by rw [hz, hs32]) (one_idA _))
        have LD2 : Hid ((loadVar 26 ⟨wr.heap.size, 0, none⟩).run Tryz.prog (wr.alloc (.cells (idA x) 26)) = .ok (.agg (idA x)) (wr.alloc (.cells (idA x) 26))) := Lib.hid (load_id _ wr.heap.size 0 _ _ _ hxo.len (heap_alloc_last wr _) (id_self x))
        have BA : Hid (Below w1.heap.size w1 (wr.alloc (.cells (idA x) 26))) := Lib.hid (hb.out.alloc hb.out.size _)
        have OA : Hid ((wr.alloc (.cells (idA x) 26)).ownsRow w1.heap.size 9 1 u5 j ((mids (ids.take j)).map Value.string)) := Lib.hid (ho.out.alloc _)
        have PR := Lib.hid (mprint_any (wr.alloc (.cells (idA x) 26)) hxo)
        obtain ⟨cs, hcs⟩ : ∃ cs, cs = idA x := ⟨_, rfl⟩
        rw [← hcs] at LD STR LD2 PR BA OA
        obtain ⟨t, ht⟩ : ∃ t, t = strN (midF x) := ⟨_, rfl⟩
        rw [← ht] at PR TS
        clear hx hcl hcs hs32 hxo ho hb ht hbw
        go_upto_region 8 with (first
          | ((with_reducible refine wpList_load 26 rfl _ rfl ?_); refine ⟨_, _, rfl, LD.out, ?_⟩)
          | ((with_reducible refine wpList_store 26 rfl _ _ rfl ?_); refine ⟨_, _, _, rfl, rfl, STR.out _ rfl, ?_⟩))
        go_wp2_with ((with_reducible refine wpList_load 26 rfl _ rfl ?_); refine ⟨_, _, rfl, LD2.out, ?_⟩)
        refine PR.out.mono ?_
        rintro e w2 ⟨rfl, hb2⟩
        have B2 := Lib.hid (BA.out.trans (hb2.mono BA.out.size))
        have O2 := Lib.hid (owns_below OA.out hb2)
        have hz2' : w1.heap.size ≤ w2.heap.size := B2.out.size
        clear hb2 PR OA BA LD2 LD STR
        go_wp2_with (at_builtin; refine wpList_append_own _ rfl _ _ 23 rfl w1.heap.size 9 i0 (.string ⟨#[]⟩) 1 16 Tryz.underlying23 hi0 hz0 hz1 hz2 rfl (by decide) _ _ _ rfl (O2.out.alloc _) ⟨w2.heap.size, 0, none⟩ 1 1 [.string t] rfl rfl (World.news_of_block (cs := #[.string t]) (t := 9) (fr := (0, 0)) (heap_alloc_new w2 _)) (by simp [Value.oneCell']) (by unfold maxLen; omega) (by omega) (by simp; omega) ?_; intro v' w3 hown' hgrow _)
        have O3 : Hid (w3.ownsRow w1.heap.size 9 1 v' (j + 1) ((mids (ids.take (j + 1))).map Value.string)) := Lib.hid (by rw [TS.out]; exact hown')
        have B3 : Hid (Below w1.heap.size w1 w3) := Lib.hid (Below.grown (B2.out.alloc B2.out.size _) hgrow (by simp; omega) (fun k hk => (O2.out.lt k hk).1))
        clear hown' hgrow
        go_wp2_with fail
        go_roundg (n - (j + 1))
        case measure => omega
        case rel => exact ⟨j + 1, by omega, rfl, by go_num, O3, B3⟩
      · obtain rfl : j = n := by omega
        have hall : ids.take j = ids := List.take_of_length_le (by rw [HN.out]; exact Nat.le_refl _)
        rw [hall] at ho
        have hml : (mids ids).length = j := by unfold mids; rw [List.length_map, HN.out]
        have SR : SRow wr u5 (mids ids) := ownS_row (base := w1.heap.size) (by rw [hml]; exact ho.out)
        have hjl := joinF_len 71 32 (ids.map midF) (fun x hx => by obtain ⟨y, hy, rfl⟩ := List.mem_map.1 hx; rw [midF_len (HI.out y hy)]; exact Nat.le_refl _)
        rw [List.length_map, ← HN.out] at hjl
        have J := Lib.hid (join_any wr u5 (mids ids) 32 SR (by omega) (by rw [mids_bs HI.out]; show (joinF [32] (ids.map midF)).length ≤ _; omega))
        rw [mids_bs HI.out] at J
        have BW := Lib.hid (B1.out.trans (hb.out.mono B1.out.size))
        clear hall ho hml SR hjl hb
        go_wp2_with fail
        refine J.out.mono ?_
        rintro e w2 ⟨t, rfl, ht, hb2⟩
        have B2 := Lib.hid (BW.out.trans (hb2.mono BW.out.size))
        have HT := Lib.hid ht
        clear hb2 ht J
        go_wp2_with fail
        go_ret2
        exact ⟨t, by rw [M0.out]; rfl, (fun _ => HT.out), (fun h => absurd M0.out h), B2.out⟩
  · have q0 : ((m : Int) != 0) = true := int_neq (by omega)
    have M0 := Lib.hid m0
    clear m0
    go_wp2_with fail
    go_ret2
    exact ⟨⟨#[]⟩, rfl, (fun h => absurd h M0.out), (fun _ => rfl), B1.out⟩
end Go.Proofs.YtohmdledkhgdaaaGreatDoor
