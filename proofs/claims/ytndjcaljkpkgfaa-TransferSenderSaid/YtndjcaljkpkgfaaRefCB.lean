/- The walk of ref.Commands. -/
import Derived.Test.YtndjcaljkpkgfaaRefC
namespace Go.Proofs.Ytndjcaljkpkgfaa
open Go.RowKit Go.Maps
set_option linter.unusedVariables false

/-- What holds at the head of a round. -/
def CmR (w : World) (id : List Nat) (t : ByteArray) (c f : Nat) (k : Nat) (fr out : Value) (wr : World) : Prop :=
  ∃ i : Nat, (∀ j, j < i → gs t c f j < t.size) ∧ fr = .int .i64 (gs t c f i : Int) ∧ k = t.size - gs t c f i ∧
    wr.ownsRow (w.heap.size + 1) 31 35 out i (flat (dL id t c f i)) ∧ wr.heap[w.heap.size]? = some (.cells (idA id) 23 (0, 0)) ∧ Below w.heap.size w wr

set_option maxHeartbeats 400000 in
theorem cmds_any (w : World) {id : List Nat} (hid : IdOk id) (t : ByteArray) (c f : Nat) (ht : t.size ≤ 65536) (c0 : 1 ≤ c) (c1 : c ≤ 4096) (hf : f ≤ t.size) :
    Calls Try.prog 23 #[.agg (idA id), .string t, .int .i64 (c : Int), .int .i64 (f : Int)] w fun e w' => ∃ k v, e = .returned v ∧ gs t c f k = t.size ∧ (∀ j, j < k → gs t c f j < t.size) ∧
      w'.ownsRow (w.heap.size + 1) 31 35 v (k + 1) (flat (dL id t c f k ++ [eC id])) ∧ Below w.heap.size w w' := by
  have B0 := Lib.hid ((Below.refl w.heap.size w).alloc (Nat.le_refl _) (.cells (idA id) 23))
  have I0 : Hid ((w.alloc (.cells (idA id) 23)).heap[w.heap.size]? = some (.cells (idA id) 23 (0, 0))) := Lib.hid (heap_alloc_new w _)
  go_enter Try.func23, Try.ntmps23
  go_wp2_with fail
  go_loopg [3, 9] (t.size - f) (fun k fr out wr => CmR w id t c f k fr out wr)
  case atStart => exact ⟨0, fun j hj => absurd hj (by omega), rfl, rfl, World.ownsRow_nil _ _ _ _, I0.out, B0.out⟩
  case round =>
    obtain ⟨i, hlt, rfl, rfl, hown, hI, hbel⟩ := hrel
    obtain ⟨g, hg⟩ : ∃ g, g = gs t c f i := ⟨_, rfl⟩
    rw [← hg]
    have HG := Lib.hid hg; have LT := Lib.hid hlt; have OW := Lib.hid hown; have I1 := Lib.hid hI; have BE := Lib.hid hbel
    have gle : g ≤ t.size := by rw [hg]; exact gs_le hf i
    have gi : f + i ≤ g := by rw [hg]; exact gs_ge c0 i hlt
    have sr := hbel.size
    clear hg hlt hown hI hbel I0 B0
    by_cases hgt : g < t.size
    · have hq : min (g + c) t.size = gs t c f (i + 1) := by rw [HG.out]; rfl
      obtain ⟨n, hn⟩ : ∃ n, n = min c (t.size - g) := ⟨_, rfl⟩
      have hgn : g + n = min (g + c) t.size := by omega
      have HGN := Lib.hid (hgn.trans hq)
      have hgn2 : g + n ≤ t.size := by omega
      have hn1 : 1 ≤ n := by omega
      have hmn : (n : Int) = min (c : Int) ((t.size : Int) - (g : Int)) := by omega
      clear hq hgn
      obtain ⟨q, hq⟩ : ∃ q, q = g + n := ⟨_, rfl⟩
      have EW : Hid (IntKind.i64.wrap ((g : Int) + (n : Int)) = (q : Int)) := Lib.hid ((IntWalk.i64_in _ (by omega)).trans (by omega))
      have i1 : (g : Int) ≤ (q : Int) := by omega
      have i2 : (q : Int) ≤ (t.size : Int) := by omega
      have HQ := Lib.hid hq
      have DC : Hid (dL id t c f (i + 1) = dL id t c f i ++ [⟨7, (g : Int), id, t.extract g q⟩]) := Lib.hid (by
        rw [dL_succ]; unfold dcm; rw [← HGN.out, ← HG.out, hq])
      clear hq
      by_cases hcase : c ≤ t.size - g
      case' pos =>
        have e1 : (c : Int) ≤ (t.size : Int) - (g : Int) := by omega
        obtain rfl : n = c := by omega
        clear hn hmn
        go_wp2_with fail
      case' neg =>
        have e1 : (t.size : Int) - (g : Int) < (c : Int) := by omega
        clear hmn
        go_wp2_with fail
        have e2 : (t.size : Int) - (g : Int) = (n : Int) := by omega
        rw [e2]
        clear e2 e1 hn
      all_goals
        refine wp_region_any (by kernel_rfl) ?_
        change wpAny _ _ _ _ _ _ _ wr.drew
        refine wpAny_take (i := 0) (v := u9) rfl (by kernel_rfl) (by kernel_rfl) (by kernel_rfl) (fun _ _ _ h => h) (Or.inl ⟨by rfl, fun w' => by go_simp⟩) ?_
        refine wpAny_take (i := 2) (v := .int .i64 (g : Int)) rfl (by kernel_rfl) (by kernel_rfl) (by kernel_rfl) (fun _ _ _ h => h) (Or.inl ⟨by rfl, fun w' => by go_simp⟩) ?_
        refine wpAny_take (i := 3) (v := .string t) rfl (by kernel_rfl) (by kernel_rfl) (by kernel_rfl) (fun _ _ _ h => h) (Or.inl ⟨by rfl, fun w' => by go_simp⟩) ?_
        refine wpAny_take (i := 4) (v := .int .i64 (g : Int)) rfl (by kernel_rfl) (by kernel_rfl) (by kernel_rfl) (fun _ _ _ h => h) (Or.inl ⟨by rfl, fun w' => by go_simp⟩) ?_
        refine wpAny_take (i := 5) (v := .int .i64 (g : Int)) rfl (by kernel_rfl) (by kernel_rfl) (by kernel_rfl) (fun _ _ _ h => h) (Or.inl ⟨by rfl, fun w' => by go_simp⟩) ?_
        refine wpAny_take (i := 6) (v := .int .i64 (n : Int)) rfl (by kernel_rfl) (by kernel_rfl) (by kernel_rfl) (fun _ _ _ h => h) (Or.inl ⟨by rfl, fun w' => by go_simp⟩) ?_
        refine wpAny_take (i := 7) (v := .int .i64 (q : Int)) rfl (by kernel_rfl) (by kernel_rfl) (by kernel_rfl) (fun _ _ _ h => h) (Or.inl ⟨by rfl, fun w' => by have ew := EW.out; go_simp⟩) ?_
        refine wpAny_take (i := 8) (v := .string (t.extract g q)) rfl (by kernel_rfl) (by kernel_rfl) (by kernel_rfl) (fun _ _ _ h => h) (Or.inl ⟨by rfl, fun w' => by go_simp⟩) ?_
        refine any_step (i := 1) (by kernel_rfl) rfl (by kernel_rfl) (exec_load (x := .tmp 4) (ad := ⟨w.heap.size, 0, none⟩) rfl (by kernel_rfl) (load_id _ w.heap.size 0 _ _ _ hid.len I1.out (id_self id))) ?_
        refine any_step (i := 9) (by kernel_rfl) rfl (by kernel_rfl) (exec_build4 (vx := .int .i64 7) (vy := .agg (idA id)) (vz := .int .i64 (g : Int)) (vu := .string (t.extract g q)) rfl (by kernel_rfl) (by kernel_rfl) (by kernel_rfl) (by kernel_rfl) (build_rcm _ hid.len 7 g (t.extract g q))) ?_
        have OW2 : Hid (wr.drew.ownsRow (w.heap.size + 1) 31 35 u9 i (flat (dL id t _ f i))) := OW
        have I2 : Hid (wr.drew.heap[w.heap.size]? = some (.cells (idA id) 23 (0, 0))) := I1
        have B2 : Hid (Below w.heap.size w wr.drew) := Lib.hid BE.out.drew
        have sr2 : w.heap.size + 1 ≤ wr.drew.heap.size := lt_of_block I2.out
        generalize wr.drew = w2 at *
        clear OW I1 BE
        refine any_stepW (i := 10) (by kernel_rfl) rfl (by kernel_rfl) (exec_lay (vx := .agg (Cm.cells ⟨7, (g : Int), id, t.extract g q⟩)) rfl (by kernel_rfl) (lay_one w2 hid.len)) ?_
        obtain ⟨v3, w3, r3, o3, k3, b3⟩ := append_cm (c := ⟨7, (g : Int), id, t.extract g q⟩) 24 OW2.out hid.len (by omega) sr2
        have O3 := Lib.hid o3
        have I3 : Hid (w3.heap[w.heap.size]? = some (.cells (idA id) 23 (0, 0))) := Lib.hid ((k3 _ (lt_of_block I2.out) (own_ne OW2.out I2.out (by decide))).trans I2.out)
        have B3 : Hid (Below w.heap.size w w3) := Lib.hid (B2.out.trans (b3.mono (by omega)))
        refine any_stepW (i := 11) (by kernel_rfl) rfl (by kernel_rfl) (exec_append (vs := u9) (vx := .slice (some ⟨w2.heap.size, 0, none⟩) 1 1) rfl (by kernel_rfl) (by kernel_rfl) r3) ?_
        clear r3 o3 k3 b3 OW2 I2 B2
        refine wpAny_ready (rs := [12]) (by kernel_rfl) (by simp) (AllReady.cons rfl (fun K hK => ?_) AllReady.nil)
        go_simp
        refine hK _ _ ?_
        clear hK K
        refine wpAny_done (by kernel_rfl) ?_ _
        go_wp2_with fail
        go_roundg (t.size - q)
        case measure => have := HQ.out; have := HG.out; omega
        case rel =>
          have hq1 : gs t _ f (i + 1) = q := HGN.out.symm.trans HQ.out.symm
          refine ⟨i + 1, fun j hj => ?_, ?_, ?_, ?_, I3.out, B3.out⟩
          · by_cases hji : j = i
            · subst hji; rw [← HG.out]; exact hgt
            · exact LT.out j (by omega)
          · rw [hq1]; have := HQ.out; congr 1; omega
          · rw [hq1]
          · rw [DC.out]
            exact O3.out
    · have hge : g = t.size := by omega
      have hgI : (g : Int) = (t.size : Int) := by omega
      have sr2 : w.heap.size + 1 ≤ wr.heap.size := lt_of_block I1.out
      obtain ⟨v3, w3, r3, o3, k3, b3⟩ := append_cm (c := eC id) 24 OW.out hid.len (by omega) sr2
      have R3 := Lib.hid r3
      have LY := Lib.hid (lay_one (c := eC id) wr hid.len)
      have O3 := Lib.hid o3
      have B3 : Hid (Below w.heap.size w w3) := Lib.hid (BE.out.trans (b3.mono (by omega)))
      have HGE := Lib.hid hge
      clear r3 o3 k3 b3 hge
      go_wp2_with (first
        | ((with_reducible refine wpList_load 23 rfl _ rfl ?_); refine ⟨_, _, rfl, load_id _ w.heap.size 0 _ _ _ hid.len I1.out (id_self id), ?_⟩)
        | ((with_reducible refine wpList_build2 31 rfl _ _ rfl ?_); refine ⟨_, _, _, rfl, rfl, build_rcm2 _ hid.len 8, ?_⟩)
        | ((with_reducible refine wpList_lay 24 rfl _ rfl ?_); refine ⟨_, _, _, rfl, LY.out, ?_⟩)
        | ((with_reducible refine wpList_app 24 rfl _ _ rfl ?_); refine ⟨_, _, _, _, rfl, rfl, R3.out, ?_⟩))
      go_ret
      exact ⟨i, v3, rfl, HG.out.symm.trans HGE.out, LT.out, O3.out, B3.out⟩

end Go.Proofs.Ytndjcaljkpkgfaa
