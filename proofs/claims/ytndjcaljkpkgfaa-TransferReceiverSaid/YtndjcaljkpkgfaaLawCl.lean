/- Walk of the statement TransferClone. -/
import Derived.Test.YtndjcaljkpkgfaaLawKit
namespace Go.Proofs.Ytndjcaljkpkgfaa
open Go.RowKit Go.Maps
set_option linter.unusedVariables false

set_option maxRecDepth 100000 in
set_option maxHeartbeats 1000000 in
theorem law_clone_long (w : World) (id : List Nat) (n : Int) (a a' : Option Addr) (m m' cap cap' : Nat) (h0 : -9223372036854775808 ≤ n) (h1 : n ≤ 9223372036854775807) (hm : m ≤ maxLen) (hm' : m' ≤ maxLen) (hl : 30 < m ∨ 30 < m' ∨ n < 0 ∨ 65536 < n) :
    Calls Try.prog 4 #[.agg (idA id), .int .i64 n, .slice a m cap, .slice a' m' cap'] w fun e w' => e = .returned (.bool true) ∧ Below w.heap.size w w' := by
  unfold maxLen at hm hm'
  have b0 : Below w.heap.size w (w.alloc (.cells (idA id) 23)) := (Below.refl _ _).alloc (Nat.le_refl _) _
  have K1 := Lib.hid (known_any (w.alloc (.cells (idA id) 23)))
  have B0 := Lib.hid b0
  clear b0
  have hc : 30 < m ∨ (¬ 30 < m ∧ 30 < m') ∨ (¬ 30 < m ∧ ¬ 30 < m' ∧ n < 0) ∨ (¬ 30 < m ∧ ¬ 30 < m' ∧ ¬ n < 0 ∧ 65536 < n) := by omega
  clear hl
  rcases hc with q | ⟨q1, q2⟩ | ⟨q1, q2, q3⟩ | ⟨q1, q2, q3, q4⟩
  all_goals
    go_enter Try.func4, Try.ntmps4
    go_wp2_with fail
    refine K1.out.mono ?_
    rintro e w1 ⟨rfl, hb1⟩
    have B1 : Hid (Below w.heap.size w w1) := Lib.hid (B0.out.trans (hb1.mono B0.out.size))
    clear hb1
    go_wp2_with fail
    refine (known_any w1).mono ?_
    rintro e w2 ⟨rfl, hb2⟩
    have B2 : Hid (Below w.heap.size w w2) := Lib.hid (B1.out.trans (hb2.mono B1.out.size))
    clear hb2
    go_wp2_with fail
    go_ret
    exact ⟨rfl, B2.out⟩

/-- What holds at the head of a round of the first loop: g: the block of the reference's receiver. -/
def ClR1 (w : World) (b g : Nat) (id : List Nat) (n m k : Nat) (i : Value) (wr : World) : Prop :=
  ∃ (j : Nat) (xs : List Nat) (d : Bool) (v : Value), j ≤ m ∧ k = m - j ∧ i = .int .i64 (j : Int) ∧ Rc wr w.heap.size b id n xs d v ∧ wr.heap[g]? = some (.cells (rC id n (strN xs) d) 41 (0, 0)) ∧ wr.heap[w.heap.size]? = some (.cells (idA id) 23 (0, 0)) ∧
    xs.length ≤ n ∧ (∀ x ∈ xs, x < 256) ∧ Below w.heap.size w wr

/-- What holds at the head of a round of the second loop: the first receiver rests, the clone goes on. -/
def ClR2 (w : World) (b g : Nat) (id : List Nat) (n : Nat) (xs : List Nat) (d : Bool) (v : Value) (cb h m k : Nat) (i : Value) (wr : World) : Prop :=
  ∃ (j : Nat) (ys : List Nat) (e : Bool) (vc : Value), j ≤ m ∧ k = m - j ∧ i = .int .i64 (j : Int) ∧ Rc wr w.heap.size b id n xs d v ∧ Rc wr w.heap.size cb id n ys e vc ∧ Apart cb b vc v ∧ wr.heap[g]? = some (.cells (rC id n (strN xs) d) 41 (0, 0)) ∧ wr.heap[h]? = some (.cells (rC id n (strN ys) e) 41 (0, 0)) ∧
    wr.heap[w.heap.size]? = some (.cells (idA id) 23 (0, 0)) ∧ ys.length ≤ n ∧ (∀ x ∈ ys, x < 256) ∧ Below w.heap.size w wr

set_option maxRecDepth 100000 in
set_option maxHeartbeats 8000000 in
theorem law_clone (w : World) {id : List Nat} (hid : IdOk id) (n : Nat) (hn : n ≤ 65536) (a : Option Addr) (cap : Nat) (L : List Cm) (hm30 : L.length ≤ 30) (hr : RdC w a L) (a' : Option Addr) (cap' : Nat) (M : List Cm) (hm30' : M.length ≤ 30) (hr' : RdC w a' M) :
    Calls Try.prog 4 #[.agg (idA id), .int .i64 n, .slice a L.length cap, .slice a' M.length cap'] w fun e w' => e = .returned (.bool true) ∧ Below w.heap.size w w' := by
  obtain ⟨m, hnn⟩ : ∃ m, m = L.length := ⟨_, rfl⟩
  obtain ⟨m', hnn'⟩ : ∃ m', m' = M.length := ⟨_, rfl⟩
  rw [← hnn] at hm30
  rw [← hnn'] at hm30'
  rw [← hnn, ← hnn']
  have b0 : Below w.heap.size w (w.alloc (.cells (idA id) 23)) := (Below.refl _ _).alloc (Nat.le_refl _) _
  have K1 := Lib.hid (known_any (w.alloc (.cells (idA id) 23)))
  have B0 := Lib.hid b0
  have I0 : Hid ((w.alloc (.cells (idA id) 23)).heap[w.heap.size]? = some (.cells (idA id) 23 (0, 0))) := Lib.hid (heap_alloc_new w _)
  have RS := Lib.hid hr; have HN := Lib.hid hnn; have RS' := Lib.hid hr'; have HN' := Lib.hid hnn'
  clear b0 hr hnn hr' hnn'
  go_enter Try.func4, Try.ntmps4
  go_wp2_with fail
  refine K1.out.mono ?_
  rintro e w1 ⟨rfl, hb1⟩
  have B1 : Hid (Below w.heap.size w w1) := Lib.hid (B0.out.trans (hb1.mono B0.out.size))
  have I1 : Hid (w1.heap[w.heap.size]? = some (.cells (idA id) 23 (0, 0))) := Lib.hid ((hb1.block _ (lt_of_block I0.out)).trans I0.out)
  clear hb1 K1 I0 B0
  go_wp2_with ((with_reducible refine wpList_load 23 rfl _ rfl ?_); refine ⟨_, _, rfl, load_id _ w.heap.size 0 _ _ _ hid.len I1.out (id_self id), ?_⟩)
  refine (newrcv_any w1 hid (n : Int) (by omega) (by omega)).mono ?_
  rintro e w2 ⟨rfl, hw2⟩
  have B2 : Hid (Below w.heap.size w w2) := Lib.hid (by
    have := B1.out.size
    rw [hw2]; exact (B1.out.alloc this _).alloc (by simp; omega) _)
  have R2 : Hid (Rc w2 w.heap.size (w1.heap.size + 1) id n [] false (.slice none 0 0)) := Lib.hid (by rw [hw2]; exact rc_new2 w1 _ hid.len _ _)
  have I2 : Hid (w2.heap[w.heap.size]? = some (.cells (idA id) 23 (0, 0))) := Lib.hid (by rw [hw2]; exact alloc_block (alloc_block I1.out))
  obtain ⟨b, hb⟩ : ∃ b, b = w1.heap.size + 1 := ⟨_, rfl⟩
  have hlb : w.heap.size ≤ b := by have := B1.out.size; omega
  have hlb1 : w.heap.size ≠ b := by have := B1.out.size; omega
  rw [← hb] at R2
  rw [← hb]
  clear hw2 hb I1 B1
  have ST := Lib.hid (store_at (P := Try.prog) w2 _ rfl 41 zc41 (rC id n ⟨#[]⟩ false) (size41' hid.len) (by rw [r_size hid.len]; rfl) (one_r _ _ _ _))
  have R3 := Lib.hid (R2.out.below (w' := w2.alloc (.cells (rC id n ⟨#[]⟩ false) 41)) ((Below.refl _ _).alloc (Nat.le_refl _) _))
  have I3 : Hid ((w2.alloc (.cells (rC id n ⟨#[]⟩ false) 41)).heap[w.heap.size]? = some (.cells (idA id) 23 (0, 0))) := Lib.hid (alloc_block I2.out)
  have G3 : Hid ((w2.alloc (.cells (rC id n ⟨#[]⟩ false) 41)).heap[w2.heap.size]? = some (.cells (rC id n ⟨#[]⟩ false) 41 (0, 0))) := Lib.hid (heap_alloc_new w2 _)
  have B3 : Hid (Below w.heap.size w (w2.alloc (.cells (rC id n ⟨#[]⟩ false) 41))) := Lib.hid (B2.out.alloc B2.out.size _)
  go_wp2_with (first
    | ((with_reducible refine wpList_load 23 rfl _ rfl ?_); refine ⟨_, _, rfl, load_id _ w.heap.size 0 _ _ _ hid.len I2.out (id_self id), ?_⟩)
    | ((with_reducible refine wpList_build2 41 rfl _ _ rfl ?_); refine ⟨_, _, _, rfl, rfl, build_r _ hid.len n, ?_⟩)
    | ((with_reducible refine wpList_store 41 rfl _ _ rfl ?_); refine ⟨_, _, _, rfl, rfl, ST.out, ?_⟩))
  generalize hw3 : w2.alloc (.cells (rC id n ⟨#[]⟩ false) 41) = w3 at *
  obtain ⟨g, hg⟩ : ∃ g, g = w2.heap.size := ⟨_, rfl⟩
  have hgb : g ≠ b := by have := R2.out.lt; omega
  have hlg : w.heap.size < g := by have := lt_of_block I2.out; omega
  rw [← hg] at G3
  rw [← hg]
  clear hw3 hg ST R2 I2 B2
  go_loopg [12] m (fun k i wr => ClR1 w b g id n m k i wr)
  case atStart => exact ⟨0, [], false, _, by omega, by omega, rfl, R3.out, G3.out, I3.out, by simp, by simp, B3.out⟩
  case round =>
    obtain ⟨j, xs, d, v, hj, rfl, rfl, hR, hG, hI, hle, h256, hbel⟩ := hrel
    clear R3 G3 I3 B3
    have HR := Lib.hid hR; have HG := Lib.hid hG; have HI := Lib.hid hI; have HLE := Lib.hid hle; have H256 := Lib.hid h256; have BE := Lib.hid hbel
    have sr := hbel.size
    clear hR hG hI hle h256 hbel
    by_cases hlt : j < m
    · have hjl : j < L.length := by rw [← HN.out]; exact hlt
      obtain ⟨b0, off, rfl, hb0, hcell⟩ := RS.out.at_ (by omega)
      have hok := RS.out.each L[j] (List.getElem_mem hjl)
      have hcj : ∀ k u, L[j].cells[k]? = some u → wr.cell? ⟨b0, off + j * 35 + k, none⟩ = some u := fun k u hu => (BE.out.cell (by exact hb0)).trans (hcell j hjl k u hu)
      clear hcell
      generalize L[j] = c at *
      obtain ⟨vb, f, mm, t⟩ := c
      have hmm := hok.id
      simp only at hmm
      have c34 : wr.cell? ⟨b0, off + j * 35 + 34, none⟩ = some (.string t) := hcj 34 _ (rcm_at hmm.len vb f t).2.2
      have ht47 := hok.t
      simp only at ht47
      have HCJ := Lib.hid hcj
      clear hcj hok
      by_cases h300 : 300 < t.size
      · go_wp2_with fail
        go_ret
        exact ⟨rfl, BE.out⟩
      go_wp2_with fail
      refine wp_region_any (by kernel_rfl) ?_
      change wpAny _ _ _ _ _ _ _ wr.drew
      have R4 : Hid (Rc wr.drew w.heap.size b id n xs d v) := Lib.hid (HR.out.drewN 1)
      have G4 : Hid (wr.drew.heap[g]? = some (.cells (rC id n (strN xs) d) 41 (0, 0))) := HG
      have I4 : Hid (wr.drew.heap[w.heap.size]? = some (.cells (idA id) 23 (0, 0))) := HI
      have B4 : Hid (Below w.heap.size w wr.drew) := Lib.hid BE.out.drew
      have HC4 : Hid (∀ k u, (rcmC vb f mm t)[k]? = some u → wr.drew.cell? ⟨b0, off + j * 35 + k, none⟩ = some u) := HCJ
      generalize wr.drew = w4 at *
      have LD4 := Lib.hid (load_rcm w4 b0 (off + j * 35) hmm.len HC4.out)
      clear HR HG HI BE HCJ c34
      refine any_take (i := 1) (v := .slice (some ⟨b0, off, none⟩) m cap) rfl (by kernel_rfl) (by kernel_rfl) (by kernel_rfl) (by kernel_rfl) (fun _ _ _ h => h) (fun w => exec_moveV rfl rfl) ?_
      refine any_take (i := 2) (v := .int .i64 (j : Int)) rfl (by kernel_rfl) (by kernel_rfl) (by kernel_rfl) (by kernel_rfl) (fun _ _ _ h => h) (fun w => exec_moveV rfl rfl) ?_
      refine any_take (i := 3) (v := .pointer (some ⟨b0, off + j * 35, none⟩)) rfl (by kernel_rfl) (by kernel_rfl) (by kernel_rfl) (by kernel_rfl) (fun _ _ _ h => h) (fun w => by go_simp) ?_
      refine any_step2 (i := 0) (j := 4) (by kernel_rfl) rfl (by kernel_rfl) (exec_load rfl rfl (load_r _ _ _ _ hid.len G4.out)) rfl (by kernel_rfl) (exec_load rfl rfl LD4.out) (any_step (i := 4) (by kernel_rfl) rfl (by kernel_rfl) (exec_load rfl rfl LD4.out) ?_) (any_step (i := 0) (by kernel_rfl) rfl (by kernel_rfl) (exec_load rfl rfl (load_r _ _ _ _ hid.len G4.out)) ?_)
      all_goals (refine wpAny_ready (rs := [5]) (by kernel_rfl) (by simp) ?_; refine AllReady.cons rfl (fun K hK => ?_) AllReady.nil; go_simp)
      all_goals (refine (rhear_any w4 hid n hn xs d vb f hmm t HLE.out (by omega)).mono ?_; rintro e w5 ⟨rfl, hb5⟩; have HB5 := Lib.hid hb5; clear hb5; refine hK _ _ ?_; clear hK K)
      all_goals (obtain ⟨ys, dd, code, hh⟩ : ∃ ys dd code, hearF id n xs d vb f mm t = (ys, dd, code) := ⟨_, _, _, rfl⟩; have HH := Lib.hid hh; rw [hh]; clear hh; simp only [])
      all_goals (refine any_take (i := 6) (v := .tuple #[.agg (rC id n (strN ys) dd), .int .i64 code]) rfl (by kernel_rfl) (by kernel_rfl) (by kernel_rfl) (by kernel_rfl) (fun _ _ _ h => h) (fun w => exec_moveV rfl rfl) ?_)
      all_goals (refine any_take (i := 7) (v := .agg (rC id n (strN ys) dd)) rfl (by kernel_rfl) (by kernel_rfl) (by kernel_rfl) (by kernel_rfl) (fun _ _ _ h => h) (fun w => by go_simp) ?_)
      all_goals (refine any_take (i := 8) (v := .int .i64 code) rfl (by kernel_rfl) (by kernel_rfl) (by kernel_rfl) (by kernel_rfl) (fun _ _ _ h => h) (fun w => by go_simp) ?_)
      all_goals (refine any_skip (i := 9) (by kernel_rfl) rfl (by kernel_rfl) (exec_store rfl rfl rfl (run_storeVar_row _ _ _ _ _ _ ((HB5.out.block _ (lt_of_block G4.out)).trans G4.out) (size41' hid.len) (by rw [r_size hid.len, r_size hid.len]) (one_r _ _ _ _))) ?_)
      all_goals (refine wpAny_done (by kernel_rfl) ?_ _)
      all_goals
        have s4 := B4.out.size
        have G5 := (HB5.out.block _ (lt_of_block G4.out)).trans G4.out
        have B5 := B4.out.trans (HB5.out.mono s4)
        have R6 := Lib.hid ((R4.out.below HB5.out).setRow G5 (by decide) hgb (rC id n (strN ys) dd))
        have G6 := Lib.hid (setRow_heap w5 g _ (rC id n (strN ys) dd) _ _ G5)
        have I6 := Lib.hid ((setRow_other w5 g w.heap.size (rC id n (strN ys) dd) (by omega)).trans ((HB5.out.block _ (lt_of_block I4.out)).trans I4.out))
        have B6 := Lib.hid (below_setRow (g := g) B5 (by omega) (rC id n (strN ys) dd))
        have HC6 : Hid (∀ k u, (rcmC vb f mm t)[k]? = some u → (w5.setRow g (rC id n (strN ys) dd)).cell? ⟨b0, off + j * 35 + k, none⟩ = some u) := Lib.hid fun k u hu => by
          have h1 := World.block_lt_of_cell? w4 _ (HC4.out 0 _ (rcm_at hmm.len vb f t).1)
          have h2 : (w5.setRow g (rC id n (strN ys) dd)).heap[b0]? = w4.heap[b0]? := (setRow_other w5 g b0 _ (by omega)).trans (HB5.out.block _ h1)
          exact (World.cell?_of_block (a := ⟨b0, off + j * 35 + k, none⟩) h2).trans (HC4.out k u hu)
        clear G5 B5 HB5 R4 G4 I4 B4 HC4 LD4
        generalize w5.setRow g (rC id n (strN ys) dd) = w6 at *
        have LD6 := Lib.hid (load_rcm w6 b0 (off + j * 35) hmm.len HC6.out)
        go_wp2_with ((with_reducible refine wpList_load 31 rfl _ rfl ?_); refine ⟨_, _, rfl, LD6.out, ?_⟩)
        refine (own_any w6 vb f hmm.len t).mono ?_
        rintro e w7 ⟨rfl, hb7⟩
        have HB7 := Lib.hid hb7
        clear hb7
        go_wp2_with fail
        have s6 := B6.out.size
        refine (hear_any w7 (R6.out.below HB7.out) hid hn HLE.out (Nat.le_trans s6 HB7.out.size) vb f hmm t (by unfold maxLen; omega)).mono ?_
        rintro e w8 ⟨rfl, v8, hr8, hv8, hf8⟩
        have hys : ys.length ≤ n := by have := hearF_le (l := id) (d := d) (vb := vb) (f := f) (m := mm) (t := t) HLE.out; rw [HH.out] at this; exact this
        have hyl : ∀ x ∈ ys, x < 256 := by have := hearF_lt (l := id) (n := n) (d := d) (vb := vb) (f := f) (m := mm) (t := t) H256.out; rw [HH.out] at this; exact this
        rw [HH.out] at hr8
        rw [HH.out]
        simp only at hr8
        have R7 := R6.out.below HB7.out
        have R8 := Lib.hid hr8
        have G8 := Lib.hid (hf8.keep R7 ((HB7.out.block _ (lt_of_block G6.out)).trans G6.out) (by decide) hgb)
        have I8 := Lib.hid (hf8.keep R7 ((HB7.out.block _ (lt_of_block I6.out)).trans I6.out) (by decide) hlb1)
        have B8 := Lib.hid (hf8.law R7 (B6.out.trans (HB7.out.mono s6)) hlb)
        have HYS := Lib.hid hys; have HYL := Lib.hid hyl
        clear R7 hr8 hv8 hf8 HB7 R6 G6 I6 B6 HC6 LD6 hys hyl HH
        go_wp2_with fail
        go_roundg (m - (j + 1))
        case measure => omega
        case rel => exact ⟨j + 1, ys, dd, v8, by omega, rfl, by go_num, R8.out, G8.out, I8.out, HYS.out, HYL.out, B8.out⟩
    · have hjn : j = m := by omega
      subst hjn
      have C5 := Lib.hid (clone_any wr HR.out hid hn HLE.out H256.out sr)
      go_wp2_with fail
      refine C5.out.mono ?_
      rintro e w5 ⟨rfl, vc, hr5, hc5, ho5, hf5⟩
      obtain ⟨cb, hcb⟩ : ∃ cb, cb = wr.heap.size := ⟨_, rfl⟩
      have hcbb : cb ≠ b := by have := HR.out.lt; omega
      have hcbg : cb ≠ g := by have := lt_of_block HG.out; omega
      have hlcb : w.heap.size ≤ cb := by omega
      have hlcb1 : w.heap.size ≠ cb := by have := lt_of_block HI.out; omega
      have AP : Hid (Apart cb b vc v) := Lib.hid ⟨hcbb, fun k h1 h2 => by have := ho5 k h1; have := HR.out.own_lt k h2; omega⟩
      rw [← hcb] at hc5
      rw [← hcb]
      have G5 := hf5.keep HR.out HG.out (by decide) hgb
      have I5 := hf5.keep HR.out HI.out (by decide) hlb1
      have B5 := hf5.law HR.out BE.out hlb
      have R6 := Lib.hid (hr5.below (w' := w5.alloc (.cells (rC id n (strN xs) d) 41)) ((Below.refl _ _).alloc (Nat.le_refl _) _))
      have C6 := Lib.hid (hc5.below (w' := w5.alloc (.cells (rC id n (strN xs) d) 41)) ((Below.refl _ _).alloc (Nat.le_refl _) _))
      have LG := Lib.hid (load_r w5 g _ _ hid.len G5)
      have ST := Lib.hid (store_at (P := Try.prog) w5 _ rfl 41 zc41 (rC id n (strN xs) d) (size41' hid.len) (by rw [r_size hid.len]; rfl) (one_r _ _ _ _))
      have G6 : Hid ((w5.alloc (.cells (rC id n (strN xs) d) 41)).heap[g]? = some (.cells (rC id n (strN xs) d) 41 (0, 0))) := Lib.hid (alloc_block G5)
      have I6 : Hid ((w5.alloc (.cells (rC id n (strN xs) d) 41)).heap[w.heap.size]? = some (.cells (idA id) 23 (0, 0))) := Lib.hid (alloc_block I5)
      have H6 : Hid ((w5.alloc (.cells (rC id n (strN xs) d) 41)).heap[w5.heap.size]? = some (.cells (rC id n (strN xs) d) 41 (0, 0))) := Lib.hid (heap_alloc_new w5 _)
      have B6 : Hid (Below w.heap.size w (w5.alloc (.cells (rC id n (strN xs) d) 41))) := Lib.hid (B5.alloc B5.size _)
      have n1 : w5.heap.size ≠ b := by have := hr5.lt; omega
      have n2 : w5.heap.size ≠ cb := by have := hc5.lt; omega
      have n3 : w5.heap.size ≠ g := by have := lt_of_block G5; omega
      have n4 : w.heap.size < w5.heap.size := lt_of_block I5
      clear hr5 hc5 ho5 hf5 G5 I5 B5 HR HG HI BE C5 hcb sr
      go_wp2_with (first
        | ((with_reducible refine wpList_load 41 rfl _ rfl ?_); refine ⟨_, _, rfl, LG.out, ?_⟩)
        | ((with_reducible refine wpList_store 41 rfl _ _ rfl ?_); refine ⟨_, _, _, rfl, rfl, ST.out, ?_⟩))
      generalize w5.alloc (.cells (rC id n (strN xs) d) 41) = w6 at *
      generalize w5.heap.size = h at *
      clear LG ST
      have xl6 : xs.length ≤ 65536 := by have := HLE.out; omega
      have E7 := equal_f w6 C6.out R6.out AP.out hid H256.out H256.out xl6 xl6
      rw [eqF_refl] at E7
      refine E7.mono ?_
      rintro e w7 ⟨rfl, q7⟩
      have G7 := q7.keep C6.out R6.out G6.out (by decide) hcbg.symm hgb
      have I7 := q7.keep C6.out R6.out I6.out (by decide) hlcb1 hlb1
      have H7 := q7.keep C6.out R6.out H6.out (by decide) n2 n1
      have B7 := q7.law C6.out R6.out B6.out hlcb hlb
      have AP' : Apart b cb v vc := ⟨fun e => hcbb e.symm, fun k h1 h2 => AP.out.sep k h2 h1⟩
      have E8 := equal_f w7 q7.two q7.one AP' hid H256.out H256.out xl6 xl6
      rw [eqF_refl] at E8
      have HE8 := Lib.hid E8; have HG7 := Lib.hid G7; have HI7 := Lib.hid I7; have HH7 := Lib.hid H7; have HB7 := Lib.hid B7; have Q7 := Lib.hid q7
      clear E7 E8 G7 I7 H7 B7 q7 AP' G6 I6 H6 B6 C6 R6
      go_wp2_with fail
      refine HE8.out.mono ?_
      rintro e w8 ⟨rfl, q8⟩
      have G8 := Lib.hid (q8.keep Q7.out.two Q7.out.one HG7.out (by decide) hgb hcbg.symm)
      have I8 := Lib.hid (q8.keep Q7.out.two Q7.out.one HI7.out (by decide) hlb1 hlcb1)
      have H8 := Lib.hid (q8.keep Q7.out.two Q7.out.one HH7.out (by decide) n1 n2)
      have B8 := Lib.hid (q8.law Q7.out.two Q7.out.one HB7.out hlb hlcb)
      have Q8 := Lib.hid q8
      clear q8 HE8 HG7 HI7 HH7 HB7 Q7
      go_wp2_with fail
      go_loopg [15] m' (fun k i wr => ClR2 w b g id n xs d v cb h m' k i wr)
      case atStart => exact ⟨0, xs, d, vc, by omega, by omega, rfl, Q8.out.one, Q8.out.two, AP.out, G8.out, H8.out, I8.out, HLE.out, H256.out, B8.out⟩
      case round =>
        obtain ⟨jj, ys, ee, vd, hjj, rfl, rfl, hR, hC, hA, hG, hH, hI, hle, h256, hbel⟩ := hrel
        clear G8 I8 H8 B8 Q8 AP hm30 HN hj hlt RS
        have HR := Lib.hid hR; have HC := Lib.hid hC; have HA := Lib.hid hA; have HG := Lib.hid hG; have HH := Lib.hid hH; have HI := Lib.hid hI; have YLE := Lib.hid hle; have Y256 := Lib.hid h256; have BE := Lib.hid hbel
        have sr := hbel.size
        clear hR hC hA hG hH hI hle h256 hbel
        by_cases hlt : jj < m'
        · have hjl : jj < M.length := by rw [← HN'.out]; exact hlt
          obtain ⟨b0, off, rfl, hb0, hcell⟩ := RS'.out.at_ (by omega)
          have hok := RS'.out.each M[jj] (List.getElem_mem hjl)
          have hcj : ∀ k u, M[jj].cells[k]? = some u → wr.cell? ⟨b0, off + jj * 35 + k, none⟩ = some u := fun k u hu => (BE.out.cell (by exact hb0)).trans (hcell jj hjl k u hu)
          clear hcell
          generalize M[jj] = c at *
          obtain ⟨vb, f, mm, t⟩ := c
          have hmm := hok.id
          simp only at hmm
          have c34 : wr.cell? ⟨b0, off + jj * 35 + 34, none⟩ = some (.string t) := hcj 34 _ (rcm_at hmm.len vb f t).2.2
          have ht47 := hok.t
          simp only at ht47
          have HCJ := Lib.hid hcj
          clear hcj hok
          by_cases h300 : 300 < t.size
          · go_wp2_with fail
            go_ret
            exact ⟨rfl, BE.out⟩
          go_wp2_with fail
          refine wp_region_any (by kernel_rfl) ?_
          change wpAny _ _ _ _ _ _ _ wr.drew
          have R4 : Hid (Rc wr.drew w.heap.size b id n xs d v) := Lib.hid (HR.out.drewN 1)
          have D4 : Hid (Rc wr.drew w.heap.size cb id n ys ee vd) := Lib.hid (HC.out.drewN 1)
          have X4 : Hid (wr.drew.heap[g]? = some (.cells (rC id n (strN xs) d) 41 (0, 0))) := HG
          have G4 : Hid (wr.drew.heap[h]? = some (.cells (rC id n (strN ys) ee) 41 (0, 0))) := HH
          have I4 : Hid (wr.drew.heap[w.heap.size]? = some (.cells (idA id) 23 (0, 0))) := HI
          have B4 : Hid (Below w.heap.size w wr.drew) := Lib.hid BE.out.drew
          have HC4 : Hid (∀ k u, (rcmC vb f mm t)[k]? = some u → wr.drew.cell? ⟨b0, off + jj * 35 + k, none⟩ = some u) := HCJ
          generalize wr.drew = w4 at *
          have LD4 := Lib.hid (load_rcm w4 b0 (off + jj * 35) hmm.len HC4.out)
          clear HR HC HG HH HI BE HCJ c34
          refine any_take (i := 1) (v := .slice (some ⟨b0, off, none⟩) m' cap') rfl (by kernel_rfl) (by kernel_rfl) (by kernel_rfl) (by kernel_rfl) (fun _ _ _ h => h) (fun w => exec_moveV rfl rfl) ?_
          refine any_take (i := 2) (v := .int .i64 (jj : Int)) rfl (by kernel_rfl) (by kernel_rfl) (by kernel_rfl) (by kernel_rfl) (fun _ _ _ h => h) (fun w => exec_moveV rfl rfl) ?_
          refine any_take (i := 3) (v := .pointer (some ⟨b0, off + jj * 35, none⟩)) rfl (by kernel_rfl) (by kernel_rfl) (by kernel_rfl) (by kernel_rfl) (fun _ _ _ h => h) (fun w => by go_simp) ?_
          refine any_step2 (i := 0) (j := 4) (by kernel_rfl) rfl (by kernel_rfl) (exec_load rfl rfl (load_r _ _ _ _ hid.len G4.out)) rfl (by kernel_rfl) (exec_load rfl rfl LD4.out) (any_step (i := 4) (by kernel_rfl) rfl (by kernel_rfl) (exec_load rfl rfl LD4.out) ?_) (any_step (i := 0) (by kernel_rfl) rfl (by kernel_rfl) (exec_load rfl rfl (load_r _ _ _ _ hid.len G4.out)) ?_)
          all_goals (refine wpAny_ready (rs := [5]) (by kernel_rfl) (by simp) ?_; refine AllReady.cons rfl (fun K hK => ?_) AllReady.nil; go_simp)
          all_goals (refine (rhear_any w4 hid n hn ys ee vb f hmm t YLE.out (by omega)).mono ?_; rintro e w5 ⟨rfl, hb5⟩; have HB5 := Lib.hid hb5; clear hb5; refine hK _ _ ?_; clear hK K)
          all_goals (obtain ⟨zs, dd, code, hh⟩ : ∃ zs dd code, hearF id n ys ee vb f mm t = (zs, dd, code) := ⟨_, _, _, rfl⟩; have HH := Lib.hid hh; rw [hh]; clear hh; simp only [])
          all_goals (refine any_take (i := 6) (v := .tuple #[.agg (rC id n (strN zs) dd), .int .i64 code]) rfl (by kernel_rfl) (by kernel_rfl) (by kernel_rfl) (by kernel_rfl) (fun _ _ _ h => h) (fun w => exec_moveV rfl rfl) ?_)
          all_goals (refine any_take (i := 7) (v := .agg (rC id n (strN zs) dd)) rfl (by kernel_rfl) (by kernel_rfl) (by kernel_rfl) (by kernel_rfl) (fun _ _ _ h => h) (fun w => by go_simp) ?_)
          all_goals (refine any_take (i := 8) (v := .int .i64 code) rfl (by kernel_rfl) (by kernel_rfl) (by kernel_rfl) (by kernel_rfl) (fun _ _ _ h => h) (fun w => by go_simp) ?_)
          all_goals (refine any_skip (i := 9) (by kernel_rfl) rfl (by kernel_rfl) (exec_store rfl rfl rfl (run_storeVar_row _ _ _ _ _ _ ((HB5.out.block _ (lt_of_block G4.out)).trans G4.out) (size41' hid.len) (by rw [r_size hid.len, r_size hid.len]) (one_r _ _ _ _))) ?_)
          all_goals (refine wpAny_done (by kernel_rfl) ?_ _)
          all_goals
            have s4 := B4.out.size
            have G5 := (HB5.out.block _ (lt_of_block G4.out)).trans G4.out
            have B5 := B4.out.trans (HB5.out.mono s4)
            have R6 := Lib.hid ((R4.out.below HB5.out).setRow G5 (by decide) n1 (rC id n (strN zs) dd))
            have D6 := Lib.hid ((D4.out.below HB5.out).setRow G5 (by decide) n2 (rC id n (strN zs) dd))
            have X6 := Lib.hid ((setRow_other w5 h g (rC id n (strN zs) dd) (fun e => n3 e.symm)).trans ((HB5.out.block _ (lt_of_block X4.out)).trans X4.out))
            have G6 := Lib.hid (setRow_heap w5 h _ (rC id n (strN zs) dd) _ _ G5)
            have I6 := Lib.hid ((setRow_other w5 h w.heap.size (rC id n (strN zs) dd) (by omega)).trans ((HB5.out.block _ (lt_of_block I4.out)).trans I4.out))
            have B6 := Lib.hid (below_setRow (g := h) B5 (by omega) (rC id n (strN zs) dd))
            have HC6 : Hid (∀ k u, (rcmC vb f mm t)[k]? = some u → (w5.setRow h (rC id n (strN zs) dd)).cell? ⟨b0, off + jj * 35 + k, none⟩ = some u) := Lib.hid fun k u hu => by
              have h1 := World.block_lt_of_cell? w4 _ (HC4.out 0 _ (rcm_at hmm.len vb f t).1)
              have h2 : (w5.setRow h (rC id n (strN zs) dd)).heap[b0]? = w4.heap[b0]? := (setRow_other w5 h b0 _ (by omega)).trans (HB5.out.block _ h1)
              exact (World.cell?_of_block (a := ⟨b0, off + jj * 35 + k, none⟩) h2).trans (HC4.out k u hu)
            clear G5 B5 HB5 R4 D4 X4 G4 I4 B4 HC4 LD4
            generalize w5.setRow h (rC id n (strN zs) dd) = w6 at *
            have LD6 := Lib.hid (load_rcm w6 b0 (off + jj * 35) hmm.len HC6.out)
            go_wp2_with ((with_reducible refine wpList_load 31 rfl _ rfl ?_); refine ⟨_, _, rfl, LD6.out, ?_⟩)
            refine (own_any w6 vb f hmm.len t).mono ?_
            rintro e w7 ⟨rfl, hb7⟩
            have HB7 := Lib.hid hb7
            clear hb7
            go_wp2_with fail
            have s6 := B6.out.size
            refine (hear_any w7 (D6.out.below HB7.out) hid hn YLE.out (Nat.le_trans s6 HB7.out.size) vb f hmm t (by unfold maxLen; omega)).mono ?_
            rintro e w8 ⟨rfl, v8, hr8, hv8, hf8⟩
            have hys : zs.length ≤ n := by have := hearF_le (l := id) (d := ee) (vb := vb) (f := f) (m := mm) (t := t) YLE.out; rw [HH.out] at this; exact this
            have hyl : ∀ x ∈ zs, x < 256 := by have := hearF_lt (l := id) (n := n) (d := ee) (vb := vb) (f := f) (m := mm) (t := t) Y256.out; rw [HH.out] at this; exact this
            rw [HH.out] at hr8
            rw [HH.out]
            simp only at hr8
            have D7 := D6.out.below HB7.out
            have R7 := R6.out.below HB7.out
            have D8 := Lib.hid hr8
            have R8 := Lib.hid (R7.frame D7 hf8 (fun e => hcbb e.symm) (fun k h1 h2 => HA.out.sep k h2 h1))
            have A8 : Hid (Apart cb b v8 v) := Lib.hid ⟨hcbb, fun k h1 h2 => by
              rcases hv8 with e | ⟨q, hq, hle⟩
              · rw [e] at h1; exact HA.out.sep k h1 h2
              · rw [hq] at h1; have := R7.own_lt k h2; simp at h1; omega⟩
            have X8 := Lib.hid (hf8.keep D7 ((HB7.out.block _ (lt_of_block X6.out)).trans X6.out) (by decide) (fun e => hcbg e.symm))
            have G8 := Lib.hid (hf8.keep D7 ((HB7.out.block _ (lt_of_block G6.out)).trans G6.out) (by decide) n2)
            have I8 := Lib.hid (hf8.keep D7 ((HB7.out.block _ (lt_of_block I6.out)).trans I6.out) (by decide) hlcb1)
            have B8 := Lib.hid (hf8.law D7 (B6.out.trans (HB7.out.mono s6)) hlcb)
            have HYS := Lib.hid hys; have HYL := Lib.hid hyl
            clear R7 D7 hr8 hv8 hf8 HB7 R6 D6 X6 G6 I6 B6 HC6 LD6 hys hyl HH HA
            go_wp2_with fail
            go_roundg (m' - (jj + 1))
            case measure => omega
            case rel => exact ⟨jj + 1, zs, dd, v8, by omega, rfl, by go_num, R8.out, D8.out, A8.out, X8.out, G8.out, I8.out, HYS.out, HYL.out, B8.out⟩
        · have hjn : jj = m' := by omega
          subst hjn
          obtain ⟨q, hq⟩ : ∃ q : Nat, q = (n + 1) % 100 := ⟨_, rfl⟩
          have hq1 : ((n : Int) + 1) % 100 = (q : Int) := by omega
          have hq2 : q < 100 := by omega
          have yl6 : ys.length ≤ 65536 := by have := YLE.out; omega
          have g33 := (cellB HG.out 33).trans (r_at hid.len n (strN xs) d).2.1
          have g34 := (cellB HG.out 34).trans (r_at hid.len n (strN xs) d).2.2
          have h33 := (cellB HH.out 33).trans (r_at hid.len n (strN ys) ee).2.1
          have h34 := (cellB HH.out 34).trans (r_at hid.len n (strN ys) ee).2.2
          clear hq
          by_cases hxy : ys = xs
          · subst hxy
            obtain ⟨E, hE⟩ : ∃ E : Bool, (ee == d) = E := ⟨_, rfl⟩
            have EQ1 : Hid (eqF n n ee d ys ys = E) := Lib.hid (by rw [eqF_done]; exact hE)
            have EQ2 : Hid (eqF n n d ee ys ys = E) := Lib.hid (by rw [eqF_done, ← hE]; cases ee <;> cases d <;> rfl)
            go_wp2_with ((with_reducible refine wpList_load 23 rfl _ rfl ?_); refine ⟨_, _, rfl, load_id _ w.heap.size 0 _ _ _ hid.len HI.out (id_self id), ?_⟩)
            refine (newrcv_any wr hid (q : Int) (by omega) (by omega)).mono ?_
            rintro e w9 ⟨rfl, hw9⟩
            have bw : Below wr.heap.size wr w9 := by rw [hw9]; exact ((Below.refl _ _).alloc (Nat.le_refl _) _).alloc (by simp) _
            have O9 : Rc w9 w.heap.size (wr.heap.size + 1) id q [] false (.slice none 0 0) := by rw [hw9]; exact rc_new2 wr _ hid.len _ _
            have R9 := HR.out.below bw
            have D9 := HC.out.below bw
            have G9 := (bw.block _ (lt_of_block HG.out)).trans HG.out
            have H9 := (bw.block _ (lt_of_block HH.out)).trans HH.out
            have B9 := BE.out.trans (bw.mono sr)
            obtain ⟨ob, hob⟩ : ∃ ob, ob = wr.heap.size + 1 := ⟨_, rfl⟩
            have o1 : ob ≠ b := by have := HR.out.lt; omega
            have o2 : ob ≠ cb := by have := HC.out.lt; omega
            have o3 : w.heap.size ≤ ob := by omega
            rw [← hob] at O9
            rw [← hob]
            have HO9 := Lib.hid O9; have HR9 := Lib.hid R9; have HD9 := Lib.hid D9; have HG9 := Lib.hid G9; have HH9 := Lib.hid H9; have HB9 := Lib.hid B9
            clear hw9 bw O9 R9 D9 G9 H9 B9 hob HR HC HG HH HI BE
            go_wp2_with ((with_reducible refine wpList_load 41 rfl _ rfl ?_); refine ⟨_, _, rfl, load_r _ _ _ _ hid.len HG9.out, ?_⟩)
            refine (same_any w9 HR9.out hid.len hn HLE.out H256.out).mono ?_
            rintro e w10 ⟨rfl, r10, f10⟩
            have D10 := Lib.hid (HD9.out.frame HR9.out f10 hcbb HA.out.sep)
            have O10 := Lib.hid (HO9.out.still (fun cs T fz h1 h2 => f10.keep HR9.out h1 h2 o1))
            have H10 := Lib.hid (f10.keep HR9.out HH9.out (by decide) n1)
            have B10 := Lib.hid (f10.law HR9.out HB9.out hlb)
            have R10 := Lib.hid r10
            clear r10 f10 HO9 HR9 HD9 HG9 HH9 HB9
            go_wp2_with ((with_reducible refine wpList_loadG 41 _ rfl (by kernel_rfl) ?_); refine ⟨_, _, rfl, load_r _ _ _ _ hid.len H10.out, ?_⟩)
            refine (same_any w10 D10.out hid.len hn YLE.out Y256.out).mono ?_
            rintro e w11 ⟨rfl, d11, f11⟩
            have R11 := Lib.hid (R10.out.frame D10.out f11 (fun e => hcbb e.symm) (fun k h1 h2 => HA.out.sep k h2 h1))
            have O11 := Lib.hid (O10.out.still (fun cs T fz h1 h2 => f11.keep D10.out h1 h2 o2))
            have B11 := Lib.hid (f11.law D10.out B10.out hlcb)
            have D11 := Lib.hid d11
            clear d11 f11 O10 R10 D10 H10 B10
            have E12 := equal_f w11 D11.out R11.out HA.out hid Y256.out H256.out yl6 xl6
            rw [EQ1.out] at E12
            have HE12 := Lib.hid E12
            clear E12
            go_wp2_with fail
            refine HE12.out.mono ?_
            rintro e w12 ⟨rfl, q12⟩
            have O12 := Lib.hid (O11.out.still (fun cs T fz h1 h2 => q12.keep D11.out R11.out h1 h2 o2 o1))
            have B12 := Lib.hid (q12.law D11.out R11.out B11.out hlcb hlb)
            have AP' : Apart b cb v vd := ⟨fun e => hcbb e.symm, fun k h1 h2 => HA.out.sep k h2 h1⟩
            have E13 := equal_f w12 q12.two q12.one AP' hid H256.out Y256.out xl6 yl6
            rw [EQ2.out] at E13
            have HE13 := Lib.hid E13; have Q12 := Lib.hid q12
            clear E13 q12 AP' HE12 O11 B11 D11 R11
            go_wp2_with fail
            refine HE13.out.mono ?_
            rintro e w13 ⟨rfl, q13⟩
            have O13 := Lib.hid (O12.out.still (fun cs T fz h1 h2 => q13.keep Q12.out.two Q12.out.one h1 h2 o1 o2))
            have B13 := Lib.hid (q13.law Q12.out.two Q12.out.one B12.out hlb hlcb)
            have Q13 := Lib.hid q13
            clear q13 HE13 O12 B12 Q12
            by_cases hnq : n = q
            · exfalso; omega
            · have e1 : ((n : Int) == (q : Int)) = false := by simp; omega
              have E14 := equal_f w13 Q13.out.one O13.out ⟨o1.symm, fun k h1 h2 => by simp [Value.ownBlock] at h2⟩ hid H256.out (by simp) xl6 (by simp)
              rw [eqF_size hnq] at E14
              have HE14 := Lib.hid E14
              clear E14
              go_wp2_with fail
              refine HE14.out.mono ?_
              rintro e w14 ⟨rfl, q14⟩
              have B14 := Lib.hid (q14.law Q13.out.one O13.out B13.out hlb o3)
              clear q14 HE14
              go_wp2_with fail
              go_ret
              exact ⟨by simp, B14.out⟩
          · have hstr := str_beq Y256.out H256.out
            rw [show decide (ys = xs) = false by simp [hxy]] at hstr
            have EQ1 : Hid (eqF n n ee d ys xs = false) := Lib.hid (eqF_text hxy _ _ _ _)
            have EQ2 : Hid (eqF n n d ee xs ys = false) := Lib.hid (eqF_text (fun e => hxy e.symm) _ _ _ _)
            clear hxy
            go_wp2_with ((with_reducible refine wpList_load 23 rfl _ rfl ?_); refine ⟨_, _, rfl, load_id _ w.heap.size 0 _ _ _ hid.len HI.out (id_self id), ?_⟩)
            refine (newrcv_any wr hid (q : Int) (by omega) (by omega)).mono ?_
            rintro e w9 ⟨rfl, hw9⟩
            have bw : Below wr.heap.size wr w9 := by rw [hw9]; exact ((Below.refl _ _).alloc (Nat.le_refl _) _).alloc (by simp) _
            have O9 : Rc w9 w.heap.size (wr.heap.size + 1) id q [] false (.slice none 0 0) := by rw [hw9]; exact rc_new2 wr _ hid.len _ _
            have R9 := HR.out.below bw
            have D9 := HC.out.below bw
            have G9 := (bw.block _ (lt_of_block HG.out)).trans HG.out
            have H9 := (bw.block _ (lt_of_block HH.out)).trans HH.out
            have B9 := BE.out.trans (bw.mono sr)
            obtain ⟨ob, hob⟩ : ∃ ob, ob = wr.heap.size + 1 := ⟨_, rfl⟩
            have o1 : ob ≠ b := by have := HR.out.lt; omega
            have o2 : ob ≠ cb := by have := HC.out.lt; omega
            have o3 : w.heap.size ≤ ob := by omega
            rw [← hob] at O9
            rw [← hob]
            have HO9 := Lib.hid O9; have HR9 := Lib.hid R9; have HD9 := Lib.hid D9; have HG9 := Lib.hid G9; have HH9 := Lib.hid H9; have HB9 := Lib.hid B9
            clear hw9 bw O9 R9 D9 G9 H9 B9 hob HR HC HG HH HI BE
            go_wp2_with ((with_reducible refine wpList_load 41 rfl _ rfl ?_); refine ⟨_, _, rfl, load_r _ _ _ _ hid.len HG9.out, ?_⟩)
            refine (same_any w9 HR9.out hid.len hn HLE.out H256.out).mono ?_
            rintro e w10 ⟨rfl, r10, f10⟩
            have D10 := Lib.hid (HD9.out.frame HR9.out f10 hcbb HA.out.sep)
            have O10 := Lib.hid (HO9.out.still (fun cs T fz h1 h2 => f10.keep HR9.out h1 h2 o1))
            have H10 := Lib.hid (f10.keep HR9.out HH9.out (by decide) n1)
            have B10 := Lib.hid (f10.law HR9.out HB9.out hlb)
            have R10 := Lib.hid r10
            clear r10 f10 HO9 HR9 HD9 HG9 HH9 HB9
            go_wp2_with ((with_reducible refine wpList_loadG 41 _ rfl (by kernel_rfl) ?_); refine ⟨_, _, rfl, load_r _ _ _ _ hid.len H10.out, ?_⟩)
            refine (same_any w10 D10.out hid.len hn YLE.out Y256.out).mono ?_
            rintro e w11 ⟨rfl, d11, f11⟩
            have R11 := Lib.hid (R10.out.frame D10.out f11 (fun e => hcbb e.symm) (fun k h1 h2 => HA.out.sep k h2 h1))
            have O11 := Lib.hid (O10.out.still (fun cs T fz h1 h2 => f11.keep D10.out h1 h2 o2))
            have B11 := Lib.hid (f11.law D10.out B10.out hlcb)
            have D11 := Lib.hid d11
            clear d11 f11 O10 R10 D10 H10 B10
            have E12 := equal_f w11 D11.out R11.out HA.out hid Y256.out H256.out yl6 xl6
            rw [EQ1.out] at E12
            have HE12 := Lib.hid E12
            clear E12
            go_wp2_with fail
            refine HE12.out.mono ?_
            rintro e w12 ⟨rfl, q12⟩
            have O12 := Lib.hid (O11.out.still (fun cs T fz h1 h2 => q12.keep D11.out R11.out h1 h2 o2 o1))
            have B12 := Lib.hid (q12.law D11.out R11.out B11.out hlcb hlb)
            have AP' : Apart b cb v vd := ⟨fun e => hcbb e.symm, fun k h1 h2 => HA.out.sep k h2 h1⟩
            have E13 := equal_f w12 q12.two q12.one AP' hid H256.out Y256.out xl6 yl6
            rw [EQ2.out] at E13
            have HE13 := Lib.hid E13; have Q12 := Lib.hid q12
            clear E13 q12 AP' HE12 O11 B11 D11 R11
            go_wp2_with fail
            refine HE13.out.mono ?_
            rintro e w13 ⟨rfl, q13⟩
            have O13 := Lib.hid (O12.out.still (fun cs T fz h1 h2 => q13.keep Q12.out.two Q12.out.one h1 h2 o1 o2))
            have B13 := Lib.hid (q13.law Q12.out.two Q12.out.one B12.out hlb hlcb)
            have Q13 := Lib.hid q13
            clear q13 HE13 O12 B12 Q12
            by_cases hnq : n = q
            · exfalso; omega
            · have e1 : ((n : Int) == (q : Int)) = false := by simp; omega
              have E14 := equal_f w13 Q13.out.one O13.out ⟨o1.symm, fun k h1 h2 => by simp [Value.ownBlock] at h2⟩ hid H256.out (by simp) xl6 (by simp)
              rw [eqF_size hnq] at E14
              have HE14 := Lib.hid E14
              clear E14
              go_wp2_with fail
              refine HE14.out.mono ?_
              rintro e w14 ⟨rfl, q14⟩
              have B14 := Lib.hid (q14.law Q13.out.one O13.out B13.out hlb o3)
              clear q14 HE14
              go_wp2_with fail
              go_ret
              exact ⟨by simp, B14.out⟩

theorem law_clone_all (w : World) {id : List Nat} (hid : IdOk id) (n : Int) (hn : (Lit.int .i64 n).wf = true) (a : Option Addr) (cap : Nat) (L : List Cm) (hm : L.length ≤ maxLen) (hr : RdC w a L) (a' : Option Addr) (cap' : Nat) (M : List Cm) (hm' : M.length ≤ maxLen) (hr' : RdC w a' M) :
    Calls Try.prog 4 #[.agg (idA id), .int .i64 n, .slice a L.length cap, .slice a' M.length cap'] w fun e w' => e = .returned (.bool true) ∧ Below w.heap.size w w' := by
  have hb : -9223372036854775808 ≤ n ∧ n ≤ 9223372036854775807 := by
    simpa [Lit.wf, IntKind.min, IntKind.max, IntKind.signed, IntKind.bits] using hn
  by_cases hl : 30 < L.length ∨ 30 < M.length ∨ n < 0 ∨ 65536 < n
  · exact law_clone_long w id n a a' L.length M.length cap cap' hb.1 hb.2 hm hm' hl
  · obtain ⟨k, rfl⟩ : ∃ k : Nat, n = (k : Int) := ⟨n.toNat, by omega⟩
    exact law_clone w hid k (by omega) a cap L (by omega) hr a' cap' M (by omega) hr'

end Go.Proofs.Ytndjcaljkpkgfaa
