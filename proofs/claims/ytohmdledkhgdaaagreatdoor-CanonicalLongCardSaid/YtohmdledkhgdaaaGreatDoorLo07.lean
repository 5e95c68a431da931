/- sha256: digest. -/
import Derived.Test.YtohmdledkhgdaaaGreatDoorLo06
import Derived.Shelf.Strings.Builder1
import Derived.Shelf.Strings.Builder2
import Derived.Shelf.Strings.OnBuilder
import Derived.Shelf.Small.Strs
import Derived.Shelf.Small.Wraps
import Derived.Shelf.Strings.BuilderF
import Derived.Shelf.Utf8.RuneCount
import Derived.Shelf.Strconv.Itoa0
import Derived.Shelf.Strconv.Itoa1
import Derived.Shelf.LaysM
import Derived.Shelf.Strconv.Itoa2
import Derived.Shelf.Strconv.Itoa3
import Derived.Shelf.Strings.Search1
import Derived.Shelf.Strings.Search2
import Derived.Shelf.Strings.Search3
import Derived.Shelf.Strings.Cut
import Derived.Shelf.Strings.Count
import Derived.Shelf.Strings.Shaped
import Derived.Shelf.Strings.Prefix
import Derived.Shelf.Strings.Split
import Derived.Shelf.Strings.SplitShaped
import Derived.Shelf.Unicode.Decode
import Derived.Shelf.Strings.RuneCount
import Derived.Shelf.Strings.Explode
import Derived.Shelf.Bits.Mul64
import Derived.Shelf.Strings.Repeat
import Derived.Shelf.Unicode.DecodeSlow
import Derived.Shelf.Unicode.DecodeAny
import Derived.Shelf.Slices.Turned
import Derived.Shelf.Slices.Equal
import Derived.Shelf.Slices.Clone
import Derived.Shelf.Slices.Empties2
import Derived.Shelf.SlicesE.Clone
namespace Go.Proofs.YtohmdledkhgdaaaGreatDoor
open Go.RowKit Go.Maps
set_option linter.unusedVariables false
set_option maxRecDepth 100000
def wL (v : W8) : List Nat := [v.a, v.b, v.c, v.d, v.e, v.f, v.g, v.i]
theorem wC_wA (v : W8) : wC v = wA (wL v) := rfl
theorem dgW_len (x : Nat) : (dgW x).length = 4 := by simp [dgW]
theorem flat4 (f : Nat → List Nat) (hf : ∀ x, (f x).length = 4) : ∀ (l : List Nat) (i k : Nat), i < l.length → k < 4 → (l.flatMap f)[4 * i + k]? = (f (l.getD i 0))[k]?
  | [], i, k, h, _ => by simp at h
  | x :: l, 0, k, _, hk => by
    rw [List.flatMap_cons, List.getElem?_append_left (by rw [hf]; omega)]
    simp
  | x :: l, i + 1, k, h, hk => by
    rw [List.flatMap_cons, List.getElem?_append_right (by rw [hf]; omega), hf, show 4 * (i + 1) + k - 4 = 4 * i + k by omega, flat4 f hf l i k (by simpa using h) hk]
    simp
theorem dgF_len (v : W8) : (dgF v).length = 32 := by simp [dgF, dgW]
theorem dgF_at (v : W8) (i k : Nat) (hi : i < 8) (hk : k < 4) : (dgF v)[4 * i + k]? = some ((wL v).getD i 0 / 2 ^ (24 - 8 * k) % 256) := by
  have := flat4 dgW dgW_len (wL v) i k hi hk
  show ((wL v).flatMap dgW)[4 * i + k]? = _
  rw [this]
  simp [dgW, hk]
theorem dgF_lt (v : W8) : ∀ x ∈ dgF v, x < 256 := by
  intro x hx
  obtain ⟨y, _, hy⟩ := List.mem_flatMap.1 hx
  obtain ⟨k, _, rfl⟩ := List.mem_map.1 hy
  omega
/-- A list of which the first n are laid. -/
def lay (L : List Nat) (n m : Nat) : List Nat := L.take n ++ List.replicate (m - n) 0
theorem lay_len {L : List Nat} {n m : Nat} (h : n ≤ m) (hL : L.length = m) : (lay L n m).length = m := by simp [lay, hL]; omega
theorem lay_set {L : List Nat} {n m x : Nat} (h : n < m) (hL : L.length = m) (hx : L[n]? = some x) : (lay L n m).set n x = lay L (n + 1) m := by
  have hl : (L.take n).length = n := by simp [hL]; omega
  have hn : n < L.length := by omega
  have e : L[n] = x := by rw [List.getElem?_eq_getElem hn] at hx; exact Option.some.inj hx
  unfold lay
  rw [List.set_append_right _ _ (by omega), hl, Nat.sub_self, show m - n = (m - (n + 1)) + 1 by omega, List.replicate_succ, List.set_cons_zero, List.take_succ_eq_append_getElem hn, e, List.append_assoc]
  rfl
theorem lay_all {L : List Nat} {m : Nat} (hL : L.length = m) : lay L m m = L := by simp [lay, ← hL]
theorem idA_setU (l : List Nat) (q x : Nat) : (idA l).setIfInBounds q (.int .u8 ((x : Nat) : Int)) = idA (l.set q x) := by simp [idA, List.map_set]; rfl
theorem idA_one (l : List Nat) : (idA l).all (·.oneCell') = true := by
  rw [Array.all_eq_true']
  intro x hx
  unfold idA at hx
  rw [List.mem_toArray, List.mem_map] at hx
  obtain ⟨y, _, rfl⟩ := hx
  rfl
/-- A block of bytes. -/
def IB (w : World) (b : Nat) (T : TypeId) (l : List Nat) : Prop := w.heap[b]? = some (.cells (idA l) T (0, 0))
theorem IB.lt {w : World} {b : Nat} {T : TypeId} {l : List Nat} (h : IB w b T l) : b < w.heap.size := lt_of_block h
theorem IB.below {w w' : World} {b : Nat} {T : TypeId} {l : List Nat} (h : IB w b T l) (hb : Below w.heap.size w w') : IB w' b T l := (hb.block b h.lt).trans h
theorem IB.cell {w : World} {b : Nat} {T : TypeId} {l : List Nat} (h : IB w b T l) {q : Nat} (hq : q < l.length) : w.cell? ⟨b, q, none⟩ = some (.int .u8 ((l.getD q 0 : Nat) : Int)) := by
  rw [cell_of_row w b q _ _ _ h]
  simp [idA, List.getD, hq]
  rfl
theorem IB.set {w : World} {b : Nat} {T : TypeId} {l : List Nat} (h : IB w b T l) (q x : Nat) : IB (w.setCell ⟨b, q, none⟩ (.int .u8 ((x : Nat) : Int))) b T (l.set q x) := by
  have := setB h q (.int .u8 ((x : Nat) : Int))
  rw [idA_setU] at this
  exact this
theorem IB.setC {w : World} {b k : Nat} {T : TypeId} {l : List Nat} (h : IB w k T l) (j : Nat) (u : Value) (hne : k ≠ b) : IB (w.setCell ⟨b, j, none⟩ u) k T l := (otherB w b j k u hne).trans h
theorem size_dg : (Tryz.prog.info? 60).map (·.size) = some 32 := by kernel_rfl
theorem idx_w8 (v : W8) (j : Nat) (hj : j < 8) (c : Nat) (hc : c = (wL v).getD j 0) (w : World) : (Instr.index 169 (.agg (wC v)) (.int .i64 (j : Int))).run Tryz.prog w = .ok (.int .u32 (c : Int)) w := by
  have hi : (0 : Int) ≤ (j : Int) ∧ (j : Int) < 8 := by omega
  have hjl : j < (wL v).length := by simpa [wL] using hj
  have e : (wC v)[j]? = some (.int .u32 ((c : Nat) : Int)) := by
    rw [hc, wC_wA]; unfold wA
    simp [List.getD, hjl]
  simp [Instr.index, run_underlying Tryz.underlying169, asIntOf, hi, go_sem]
  rw [if_pos hj, e]
  rfl
theorem VB.cells {w : World} {b : Nat} {v : W8} (h : VB w b v) (j : Nat) (u : Value) (hu : (wC v)[j]? = some u) : w.cell? ⟨b, j, none⟩ = some u := by rw [cell_of_row w b j _ _ _ h]; exact hu
set_option maxHeartbeats 4000000 in
theorem digest_any (w : World) {v : W8} (hv : v.Ok) :
    Calls Tryz.prog 124 #[.agg (wC v)] w fun e w' => e = .returned (.agg (idA (dgF v))) ∧ Below w.heap.size w w' := by
  obtain ⟨hs, hhs⟩ : ∃ hs, hs = wC v := ⟨_, rfl⟩
  obtain ⟨zs, hzs⟩ : ∃ zs, zs = idA (List.replicate 32 0) := ⟨_, rfl⟩
  have Z0 : Hid (zs = #[.int .u8 0, .int .u8 0, .int .u8 0, .int .u8 0, .int .u8 0, .int .u8 0, .int .u8 0, .int .u8 0, .int .u8 0, .int .u8 0, .int .u8 0, .int .u8 0, .int .u8 0, .int .u8 0, .int .u8 0, .int .u8 0, .int .u8 0, .int .u8 0, .int .u8 0, .int .u8 0, .int .u8 0, .int .u8 0, .int .u8 0, .int .u8 0, .int .u8 0, .int .u8 0, .int .u8 0, .int .u8 0, .int .u8 0, .int .u8 0, .int .u8 0, .int .u8 0]) := Lib.hid (by rw [hzs]; rfl)
  obtain ⟨w0, hw0⟩ : ∃ w0, w0 = ((w.alloc (.cells hs 176)).alloc (.cells zs 60)).alloc (.cells zs 60) := ⟨_, rfl⟩
  have b0 : VB w0 w.heap.size v := by unfold VB; rw [hw0, ← hhs]; exact alloc_block (alloc_block (heap_alloc_last w _))
  have b1 : IB w0 (w.heap.size + 1) 60 (List.replicate 32 0) := by
    unfold IB; rw [hw0, ← hzs]; have := heap_alloc_last (w.alloc (.cells hs 176)) (.cells zs 60); rw [World.size_alloc] at this; exact alloc_block this
  have b2 : IB w0 (w.heap.size + 2) 60 (lay (dgF v) 0 32) := by
    unfold IB; show _ = some (Obj.cells (idA (List.replicate 32 0)) _ _); rw [hw0, ← hzs]; have := heap_alloc_last ((w.alloc (.cells hs 176)).alloc (.cells zs 60)) (.cells zs 60); rw [World.size_alloc, World.size_alloc] at this; exact this
  have BW : Hid (Below w.heap.size w w0) := Lib.hid (by rw [hw0]; exact (((Below.refl _ _).alloc (Nat.le_refl _) _).alloc (by simp) _).alloc (by simp; omega) _)
  have W0 := Lib.hid hw0
  have c0 : w0.cell? ⟨w.heap.size, 0, none⟩ = some (.int .u32 (v.a : Int)) := b0.cells 0 _ rfl
  have c1 : w0.cell? ⟨w.heap.size, 1, none⟩ = some (.int .u32 (v.b : Int)) := b0.cells 1 _ rfl
  have c2 : w0.cell? ⟨w.heap.size, 2, none⟩ = some (.int .u32 (v.c : Int)) := b0.cells 2 _ rfl
  have c3 : w0.cell? ⟨w.heap.size, 3, none⟩ = some (.int .u32 (v.d : Int)) := b0.cells 3 _ rfl
  have c4 : w0.cell? ⟨w.heap.size, 4, none⟩ = some (.int .u32 (v.e : Int)) := b0.cells 4 _ rfl
  have c5 : w0.cell? ⟨w.heap.size, 5, none⟩ = some (.int .u32 (v.f : Int)) := b0.cells 5 _ rfl
  have c6 : w0.cell? ⟨w.heap.size, 6, none⟩ = some (.int .u32 (v.g : Int)) := b0.cells 6 _ rfl
  have c7 : w0.cell? ⟨w.heap.size, 7, none⟩ = some (.int .u32 (v.i : Int)) := b0.cells 7 _ rfl
  have B1 := Lib.hid b1; have B2 := Lib.hid b2
  have HHS := Lib.hid hhs
  have EX : Hid (∀ j, j < 8 → ∀ c, c = (wL v).getD j 0 → ∀ w, (Instr.index 169 (.agg hs) (.int .i64 (j : Int))).run Tryz.prog w = .ok (.int .u32 ((c : Nat) : Int)) w) := Lib.hid (fun j hj c hc w => by rw [hhs]; exact idx_w8 v j hj c hc w)
  have HV := Lib.hid hv
  rw [← hhs]
  clear hw0 b0 b1 b2 hzs hhs hv
  go_enter Tryz.func124, Tryz.ntmps124
  go_upto_region 2 with fail
  have W0' := W0.out
  rw [Z0.out] at W0'
  rw [← W0', show w.heap.size + 1 + 1 = w.heap.size + 2 from rfl]
  clear W0' W0
  go_wp2_with fail
  have HHS' := HHS.out
  unfold wC at HHS'
  rw [← HHS']
  clear HHS' c0 c1 c2 c3 c4 c5 c6 c7
  go_loopg [4, 5, 6, 24, 28] 8 (fun k v4 v5 v6 i v28 wr => ∃ j : Nat, j ≤ 8 ∧ k = 8 - j ∧ i = .int .i64 (j : Int) ∧ IB wr (w.heap.size + 1) 60 (List.replicate 32 0) ∧ IB wr (w.heap.size + 2) 60 (lay (dgF v) (4 * j) 32) ∧ Below w.heap.size w wr)
  case atStart => exact ⟨0, by omega, rfl, rfl, B1.out, B2.out, BW.out⟩
  case round =>
    clear B1 B2 BW
    obtain ⟨j, hj, rfl, rfl, h1, h2, hbw⟩ := hrel
    have HB := Lib.hid hbw
    have G1 := Lib.hid h1; have G2 := Lib.hid h2
    clear h1 h2 hbw
    by_cases hlt : j < 8
    · obtain ⟨x, hx⟩ : ∃ x, x = (wL v).getD j 0 := ⟨_, rfl⟩
      have ix := EX.out j hlt x hx
      have DA : Hid (∀ k, k < 4 → (dgF v)[4 * j + k]? = some (x / 2 ^ (24 - 8 * k) % 256)) := Lib.hid (fun k hk => by rw [hx]; exact dgF_at v j k hlt hk)
      clear hx
      go_wp2_with fail
      go_loopg [6, 28] 4 (fun k v6 i wi => ∃ m : Nat, m ≤ 4 ∧ k = 4 - m ∧ i = .int .i64 (m : Int) ∧ IB wi (w.heap.size + 1) 60 (List.replicate 32 0) ∧ IB wi (w.heap.size + 2) 60 (lay (dgF v) (4 * j + m) 32) ∧ Below w.heap.size w wi)
      case atStart => exact ⟨0, by omega, rfl, rfl, G1.out, G2.out, HB.out⟩
      case round =>
        clear G1 G2 HB
        rename_i wr0 _ _ _ _ _ _ _ _
        obtain ⟨m, hm, rfl, rfl, h1, h2, hbw⟩ := hrel
        have HB := Lib.hid hbw
        have G1 := Lib.hid h1; have G2 := Lib.hid h2
        clear h1 h2 hbw ix
        by_cases hm4 : m < 4
        · obtain ⟨q, hq⟩ : ∃ q, q = 4 * j + m := ⟨_, rfl⟩
          have hq2 : q < 32 := by omega
          obtain ⟨r, hr⟩ : ∃ r, r = 24 - 8 * m := ⟨_, rfl⟩
          have hr2 : r ≤ 24 := by omega
          have e1 : (4 : Int) * (j : Int) + (m : Int) = (q : Int) := by omega
          have e2 : (24 : Int) - 8 * (m : Int) = (r : Int) := by omega
          have q0 : (0 : Int) ≤ (q : Int) := by omega
          have q1 : (q : Int) < 32 := by omega
          have cq : wr.cell? ⟨w.heap.size + 2, q, none⟩ = some (.int .u8 (((lay (dgF v) (4 * j + m) 32).getD q 0 : Nat) : Int)) := G2.out.cell (by rw [lay_len (by omega) (dgF_len v)]; exact hq2)
          have fq : wr.frozen? ⟨w.heap.size + 2, q, none⟩ = false := freeB G2.out q
          obtain ⟨y, hy⟩ : ∃ y, y = x / 2 ^ r % 256 := ⟨_, rfl⟩
          have YI : Hid (((y : Nat) : Int) = (x : Int) / 2 ^ r % 256) := Lib.hid (by rw [hy, Int.natCast_emod, Int.natCast_ediv, Int.natCast_pow]; rfl)
          have DY : Hid ((lay (dgF v) (4 * j + m) 32).set q y = lay (dgF v) (4 * j + (m + 1)) 32) := Lib.hid (by
            rw [hq]; exact lay_set (by omega) (dgF_len v) (by rw [DA.out m hm4, hy, hr]))
          clear hq hr hy
          go_wp2_with fail
          rw [← YI.out]
          go_roundg (4 - (m + 1))
          case measure => omega
          case rel => exact ⟨m + 1, by omega, rfl, by go_num, G1.out.setC _ _ (by omega), by rw [← DY.out]; exact G2.out.set q y, HB.out.setCell (Nat.le_add_right _ 2) _⟩
        · obtain rfl : m = 4 := by omega
          go_wp2_with fail
          go_roundg (8 - (j + 1))
          case measure => omega
          case rel => exact ⟨j + 1, by omega, rfl, by go_num, G1.out, G2.out, HB.out⟩
    · obtain rfl : j = 8 := by omega
      have L2 := Lib.hid (run_loadVar_row (P := Tryz.prog) wr (w.heap.size + 2) _ 60 _ _ _ G2.out Tryz.underlying60 rfl (by rw [idA_size, lay_len (by omega) (dgF_len v)]; exact size_dg))
      have e1 : lay (dgF v) (4 * 8) 32 = dgF v := lay_all (dgF_len v)
      rw [e1] at L2
      have ST := Lib.hid (run_storeVar_row (P := Tryz.prog) wr (w.heap.size + 1) _ 60 (idA (List.replicate 32 0)) (idA (dgF v)) G1.out (by rw [idA_size, dgF_len]; exact size_dg) (by rw [idA_size, idA_size, dgF_len]; simp) (idA_one _))
      have W2 := Lib.hid (setRow_heap wr (w.heap.size + 1) _ (idA (dgF v)) _ _ G1.out)
      have SZ : Hid ((Tryz.prog.info? 60).map (·.size) = some (idA (dgF v)).size) := Lib.hid (by rw [idA_size, dgF_len]; exact size_dg)
      have BE := Lib.hid (below_setRow HB.out (Nat.le_succ _) (idA (dgF v)))
      obtain ⟨rs, hrs⟩ : ∃ rs, rs = idA (dgF v) := ⟨_, rfl⟩
      rw [← hrs] at L2 ST W2 SZ BE
      have HRS := Lib.hid hrs
      clear hrs e1 hlt HB EX G1 G2
      go_wp2_with (first
        | ((with_reducible refine wpList_load 60 rfl _ rfl ?_); refine ⟨_, _, rfl, L2.out, ?_⟩)
        | ((with_reducible refine wpList_store 60 rfl _ _ rfl ?_); refine ⟨_, _, _, rfl, rfl, ST.out, ?_⟩))
      exact bodyPost_ret (results_cell_row Tryz.results124 _ _ (w.heap.size + 1) _ _ _ _ rfl W2.out Tryz.underlying60 rfl SZ.out) rfl ⟨by rw [HRS.out], BE.out⟩
end Go.Proofs.YtohmdledkhgdaaaGreatDoor
/- sha256: a hash under way in a block. -/
namespace Go.Proofs.YtohmdledkhgdaaaGreatDoor
open Go.RowKit Go.Maps
set_option linter.unusedVariables false
set_option maxRecDepth 100000
structure Hs.Ok (h : Hs) : Prop where
  st : h.st.Ok
  blk : B64 h.blk
def hC (h : Hs) : Array Value := ((wC h.st).toList ++ (h.blk.map U ++ [Value.int .i64 (h.len : Int)])).toArray
theorem hC_size {h : Hs} (hb : h.blk.length = 64) : (hC h).size = 73 := by simp [hC, hb, wC]
theorem hC_one (h : Hs) : (hC h).all (·.oneCell') = true := by
  rw [Array.all_eq_true']
  intro x hx
  unfold hC at hx
  rw [List.mem_toArray, List.mem_append, List.mem_append] at hx
  rcases hx with hx | hx | hx
  · have := (Array.all_eq_true'.1 (wC_one h.st)) x (by simpa using hx); exact this
  · obtain ⟨y, _, rfl⟩ := List.mem_map.1 hx; rfl
  · rw [List.mem_singleton] at hx; rw [hx]; rfl
theorem run_storeVar_at {P : Program} (w : World) (g o : Nat) (ty t : TypeId) (X Y Z vs : List Value) (hg : w.heap[g]? = some (.cells (X ++ (Y ++ Z)).toArray t (0, 0))) (hX : X.length = o) (hY : Y.length = vs.length)
    (hi : (P.info? ty).map (·.size) = some vs.length) (h1 : ∀ v ∈ vs, v.oneCell' = true) : (storeVar ty ⟨g, o, none⟩ (.agg vs.toArray)).run P w = .ok () (w.setRow g (X ++ (vs ++ Z)).toArray) := by
  have hst := run_storeCells_at P g o t vs 0 _ w hg (by simp; omega) h1
  have e : (X ++ (Y ++ Z)).toArray.toList.take (o + 0) ++ vs ++ (X ++ (Y ++ Z)).toArray.toList.drop (o + 0 + vs.length) = X ++ (vs ++ Z) := by
    subst hX
    rw [← hY]
    simp
  rw [e] at hst
  cases hq : P.info? ty with
  | none => simp [hq] at hi
  | some i =>
    have hs : vs.length = i.size := by simp [hq] at hi; omega
    simp [storeVar, sizeOf, typeInfo, hq, Value.cells, hs, hst]
/-- A hash in a block. -/
def HK (w : World) (b : Nat) (h : Hs) : Prop := w.heap[b]? = some (.cells (hC h) 179 (0, 0))
theorem HK.lt {w : World} {b : Nat} {h : Hs} (hk : HK w b h) : b < w.heap.size := lt_of_block hk
theorem HK.below {w w' : World} {b : Nat} {h : Hs} (hk : HK w b h) (hb : Below w.heap.size w w') : HK w' b h := (hb.block b hk.lt).trans hk
theorem size_hash : (Tryz.prog.info? 179).map (·.size) = some 73 := by kernel_rfl
section
variable {w : World} {b : Nat} {h : Hs} (hk : HK w b h)
include hk
theorem HK.len (hb : h.blk.length = 64) : w.cell? ⟨b, 72, none⟩ = some (.int .i64 (h.len : Int)) := by
  rw [cell_of_row w b 72 _ _ _ hk]; simp [hC, wC, hb]
theorem HK.st : (loadVar 176 ⟨b, 0, none⟩).run Tryz.prog w = .ok (.agg (wC h.st)) w := by
  have := run_loadVar_mid (P := Tryz.prog) w b 0 176 (wC h.st).toList _ (fun j v hv => by
    rw [cell_of_row w b (0 + j) _ _ _ hk, Nat.zero_add]
    unfold hC
    rw [List.getElem?_toArray, List.getElem?_append_left (List.getElem?_eq_some_iff.1 hv).1]
    exact hv) Tryz.underlying176 rfl (by rw [Array.length_toList, wC_size]; exact size_words)
  rwa [Array.toArray_toList] at this
theorem HK.blk (hb : h.blk.length = 64) : (loadVar 177 ⟨b, 8, none⟩).run Tryz.prog w = .ok (.agg (idA h.blk)) w :=
  run_loadVar_mid (P := Tryz.prog) w b 8 177 (h.blk.map U) _ (fun j v hv => by
    rw [cell_of_row w b (8 + j) _ _ _ hk]
    unfold hC
    rw [List.getElem?_toArray, List.getElem?_append_right (by simp [wC]), show 8 + j - (wC h.st).toList.length = j by simp [wC], List.getElem?_append_left (List.getElem?_eq_some_iff.1 hv).1]
    exact hv) Tryz.underlying177 rfl (by rw [List.length_map, hb]; exact size_b64)
theorem HK.all (hb : h.blk.length = 64) : (loadVar 179 ⟨b, 0, none⟩).run Tryz.prog w = .ok (.agg (hC h)) w :=
  run_loadVar_row w b _ 179 _ _ _ hk Tryz.underlying179 rfl (by rw [hC_size hb]; exact size_hash)
theorem HK.setSt (v : W8) : (storeVar 176 ⟨b, 0, none⟩ (.agg (wC v))).run Tryz.prog w = .ok () (w.setRow b (hC ⟨v, h.blk, h.len⟩)) ∧ HK (w.setRow b (hC ⟨v, h.blk, h.len⟩)) b ⟨v, h.blk, h.len⟩ := by
  have := run_storeVar_at (P := Tryz.prog) w b 0 176 _ [] (wC h.st).toList (h.blk.map U ++ [Value.int .i64 (h.len : Int)]) (wC v).toList hk rfl rfl (by rw [Array.length_toList, wC_size]; exact size_words) (fun x hx => (Array.all_eq_true'.1 (wC_one v)) x (by simpa using hx))
  rw [Array.toArray_toList] at this
  exact ⟨this, setRow_heap w b _ _ _ _ hk⟩
theorem HK.setLen (hb : h.blk.length = 64) (n : Nat) : HK (w.setCell ⟨b, 72, none⟩ (.int .i64 (n : Int))) b ⟨h.st, h.blk, n⟩ := by
  have := setB hk 72 (.int .i64 (n : Int))
  have e : (hC h).setIfInBounds 72 (.int .i64 (n : Int)) = hC ⟨h.st, h.blk, n⟩ := by
    unfold hC
    rw [List.setIfInBounds_toArray]
    rw [List.set_append_right _ _ (by simp [wC]), List.set_append_right _ _ (by simp [wC, hb])]
    simp [wC, hb]
  rw [e] at this
  exact this
end
theorem copy_cells {h : Hs} (hb : h.blk.length = 64) {p : Nat} {cs : List Nat} (hp : p + cs.length ≤ 64) :
    ((hC h).toList.take (8 + p) ++ (cs.map U ++ (hC h).toList.drop (8 + p + (cs.map U).length))).toArray = hC ⟨h.st, h.blk.take p ++ cs ++ h.blk.drop (p + cs.length), h.len⟩ := by
  have l8 : (wC h.st).toList.length = 8 := rfl
  unfold hC
  simp only [List.length_map]
  rw [List.take_append, List.drop_append, List.take_of_length_le (by omega), show (wC h.st).toList.drop (8 + p + cs.length) = [] from List.drop_of_length_le (by omega), l8, show 8 + p - 8 = p by omega, show 8 + p + cs.length - 8 = p + cs.length by omega,
    List.take_append_of_le_length (by simp [hb]; omega), List.drop_append_of_le_length (by simp [hb]; omega)]
  simp
theorem wrN_fuel : ∀ (k k' : Nat) (h : Hs) (l : List Nat), l.length ≤ k → l.length ≤ k' → wrN k h l = wrN k' h l
  | 0, 0, _, _, _, _ => rfl
  | 0, k' + 1, h, l, hk, _ => by
    obtain rfl : l = [] := List.eq_nil_of_length_eq_zero (by omega)
    simp [wrN]
  | k + 1, 0, h, l, _, hk => by
    obtain rfl : l = [] := List.eq_nil_of_length_eq_zero (by omega)
    simp [wrN]
  | k + 1, k' + 1, h, l, hk, hk' => by
    unfold wrN
    by_cases e : l = []
    · rw [if_pos e, if_pos e]
    · rw [if_neg e, if_neg e]
      have h0 : 0 < l.length := List.length_pos_iff.2 e
      exact wrN_fuel k k' _ _ (by rw [List.length_drop]; omega) (by rw [List.length_drop]; omega)
theorem wrN_step (h : Hs) (l : List Nat) (h0 : 0 < l.length) : wrN l.length h l = wrN (l.drop (min (64 - h.len % 64) l.length)).length (wrStep h l) (l.drop (min (64 - h.len % 64) l.length)) := by
  obtain ⟨k, hk⟩ : ∃ k, l.length = k + 1 := ⟨l.length - 1, by omega⟩
  have e : l ≠ [] := fun e => by rw [e] at h0; simp at h0
  conv => lhs; rw [hk]; unfold wrN; rw [if_neg e]
  exact wrN_fuel _ _ _ _ (by rw [List.length_drop]; omega) (Nat.le_refl _)
theorem wrStep_ok {h : Hs} (ho : h.Ok) {l : List Nat} (hl : ∀ x ∈ l, x < 256) : (wrStep h l).Ok ∧ B64 (h.blk.take (h.len % 64) ++ l.take (min (64 - h.len % 64) l.length) ++ h.blk.drop (h.len % 64 + min (64 - h.len % 64) l.length)) := by
  have hb : B64 (h.blk.take (h.len % 64) ++ l.take (min (64 - h.len % 64) l.length) ++ h.blk.drop (h.len % 64 + min (64 - h.len % 64) l.length)) := by
    refine ⟨by simp [ho.blk.len]; omega, fun x hx => ?_⟩
    rw [List.mem_append, List.mem_append] at hx
    rcases hx with (hx | hx) | hx
    · exact ho.blk.lt x (List.mem_of_mem_take hx)
    · exact hl x (List.mem_of_mem_take hx)
    · exact ho.blk.lt x (List.mem_of_mem_drop hx)
  refine ⟨⟨?_, hb⟩, hb⟩
  show W8.Ok (if _ then _ else _)
  split
  · exact plus_ok _ _
  · exact ho.st
theorem wrN_ok : ∀ (k : Nat) {h : Hs} {l : List Nat}, h.Ok → (∀ x ∈ l, x < 256) → (wrN k h l).Ok
  | 0, _, _, ho, _ => ho
  | k + 1, h, l, ho, hl => by
    unfold wrN
    split
    · exact ho
    · exact wrN_ok k (wrStep_ok ho hl).1 (fun x hx => hl x (List.mem_of_mem_drop hx))
theorem wrF_ok {h : Hs} (ho : h.Ok) {l : List Nat} (hl : ∀ x ∈ l, x < 256) : (wrF h l).Ok := wrN_ok _ ⟨by show W8.Ok (if _ then _ else _); split; exact sh0_ok; exact ho.st, ho.blk⟩ hl
theorem hs0_ok : hs0.Ok := ⟨⟨by decide, by decide, by decide, by decide, by decide, by decide, by decide, by decide⟩, ⟨by simp [hs0], fun x hx => by unfold hs0 at hx; simp at hx; omega⟩⟩
theorem wrN_len : ∀ (k : Nat) (h : Hs) (l : List Nat), l.length ≤ k → (wrN k h l).len = h.len + l.length
  | 0, h, l, hk => by
    obtain rfl : l = [] := List.eq_nil_of_length_eq_zero (by omega)
    rfl
  | k + 1, h, l, hk => by
    unfold wrN
    by_cases e : l = []
    · rw [if_pos e, e]; rfl
    · have h0 : 0 < l.length := List.length_pos_iff.2 e
      rw [if_neg e, wrN_len k _ _ (by rw [List.length_drop]; omega), List.length_drop]
      show h.len + min (64 - h.len % 64) l.length + _ = _
      omega
end Go.Proofs.YtohmdledkhgdaaaGreatDoor
/- utf8.Printable. -/
namespace Go.Proofs.YtohmdledkhgdaaaGreatDoor
open Go.RowKit Go.Shelf
attribute [local go_sem] Oper.semAt_some
set_option linter.unusedVariables false
set_option maxRecDepth 100000
theorem rns_in (F : Fence) (n : Nat) (h37 : F.fn 142) (hro : F.round = none) (s : ByteArray) (w : World) :
    CallsIn F n Tryz.prog 142 #[.string s] w fun e w' => e = .returned (.func (.func 180) #[] #[.pointer (some ⟨w.heap.size, 0, none⟩)]) ∧ w' = w.alloc (.cells #[.string s] 9) := by
  refine callsIn_of_wp Tryz.func142 rfl h37 ?_ hro
  simp only [Tryz.ntmps142, List.size_toArray, List.length_cons, List.length_nil, Nat.reduceAdd, Nat.reduceSub, Array.replicate_succ, Array.replicate_zero, List.push_toArray, List.append_toArray, List.nil_append, List.cons_append]
  gi_wp2
  go_ret
  exact ⟨rfl, rfl⟩
theorem rns_stops (n : Nat) (hn : 1 ≤ n) (Bs : Nat) (s : ByteArray) (hs : s.size ≤ maxLen) (w : World) (hB : Bs < w.heap.size) (hc : w.cell? ⟨Bs, 0, none⟩ = some (.string s)) :
    SeqStopsK Fence.wide n Tryz.prog 180 #[.pointer (some ⟨Bs, 0, none⟩)] rnV (KeepB Bs) (fun ys => ys = rns (bs s)) (fun pre => ∃ q, pre ++ q = rns (bs s)) (s.size + 1) w := fun l J Jx W hW hJ _ hY h0 =>
  rns1_in n hn l Bs W.heap.size s hs J Jx hJ hY W ((hW.cell (p := ⟨Bs, 0, none⟩) hB).trans hc) h0
/-- A block of cells lies as it lay wherever no cells turn. -/
theorem keeps_below {W w2 : World} (hb : Below W.heap.size W w2) (B : Nat) : KeepsFrom B W w2 := ⟨hb.size, fun k o _ hk _ => (hb.block k (lt_of_block hk)).trans hk⟩
theorem boxed_below {W w2 : World} {B : Nat} {t : TypeId} {v : Value} (h : Boxed W B t v) (hb : Below W.heap.size W w2) : Boxed w2 B t v := (hb.block B h.lt).trans h
theorem ownFrom_hid (B : Nat) {β : Type} (p : β → Prop) : OwnFrom B (fun s (_ : World) => Hid (p s)) := fun _ _ _ _ hs _ _ => hs
theorem boxed_self {W : World} {B : Nat} {t : TypeId} {v : Value} (h : Boxed W B t v) : Boxed (W.setCell ⟨B, 0, none⟩ v) B t v := setB h 0 v
/-- What holds between two rounds of Printable. -/
def PrI (w : World) (p : Nat) (s : ByteArray) (pre : List (Nat × Nat)) (W : World) : Prop :=
  Boxed W p 4 (.bool false) ∧ (Boxed W (p + 1) 9 (.string s) ∧ (Hid (pre.all (fun x => gd false x.2) = true) ∧ Below p w W))
def PrX (w : World) (p : Nat) (s : ByteArray) (c : Code) (pre : List (Nat × Nat)) (W : World) : Prop :=
  Boxed W p 4 (.bool false) ∧ (Hid (c = .ret ∧ pre.all (fun x => gd false x.2) = false) ∧ Below p w W)
theorem PrI.own (w : World) (p : Nat) (s : ByteArray) (hp : p ≤ w.heap.size) (B : Nat) (hB : p ≤ B) : OwnFrom B (PrI w p s) :=
  OwnFrom.and (Own.from (boxed_own p 4 (fun _ => .bool false)) _) (OwnFrom.and (Own.from (boxed_own (p + 1) 9 (fun _ => .string s)) _) (OwnFrom.and (ownFrom_hid B _) (ownFrom_below hp hB)))
theorem PrX.own (w : World) (p : Nat) (s : ByteArray) (c : Code) (hp : p ≤ w.heap.size) (B : Nat) (hB : p ≤ B) : OwnFrom B (PrX w p s c) :=
  OwnFrom.and (Own.from (boxed_own p 4 (fun _ => .bool false)) _) (OwnFrom.and (ownFrom_hid B _) (ownFrom_below hp hB))
set_option maxHeartbeats 4000000 in
theorem uprint_any (s : ByteArray) (w : World) (hs : s.size ≤ maxLen) :
    Calls Tryz.prog 100 #[.string s] w fun e w' => e = .returned (.bool (good false (bs s))) ∧ Below w.heap.size w w' := by
  have V := Lib.hid (uvalid_any s (w.alloc (.cells #[.bool false] 4)) hs)
  obtain ⟨vb, hvb⟩ : ∃ vb, vb = vld (bs s) := ⟨_, rfl⟩
  rw [← hvb] at V
  have G : Hid (good false (bs s) = (vb && (rns (bs s)).all fun x => gd false x.2)) := Lib.hid (by rw [hvb]; rfl)
  have HS := Lib.hid hs
  clear hvb hs
  cases vb
  · go_enter Tryz.func100, Tryz.ntmps100
    go_wp2_with (go_at_call 141; refine V.out.mono ?_; rintro e w1 ⟨rfl, hd⟩; obtain ⟨q, rfl⟩ := hd)
    have hb := ((Boxed.new w 4 (.bool false)).cell)
    refine bodyPost_ret (v := .bool false) (by simp [results, Tryz.f100, go_sem]) rfl ⟨by rw [G.out]; rfl, ?_⟩
    exact (((Below.refl _ w).alloc (Nat.le_refl _) _).trans ((Dr.below ⟨q, rfl⟩).mono (by simp))).setCell (p := ⟨w.heap.size, 0, none⟩) (Nat.le_refl _) _
  · refine (callsIn_wide (n := 5)).1 ?_
    refine callsIn_of_wp_marks Tryz.func100 rfl trivial ?_ rfl
    simp only [Tryz.ntmps100, List.size_toArray, List.length_cons, List.length_nil, Nat.reduceAdd, Nat.reduceSub, Array.replicate_succ, Array.replicate_zero, List.push_toArray, List.append_toArray, List.nil_append, List.cons_append]
    gi_wp2_with (refine ⟨trivial, ?_⟩; gi_at_call 141; refine (callsIn_wide.2 V.out).mono ?_; rintro e w1 ⟨rfl, hd⟩; obtain ⟨q, rfl⟩ := hd)
    refine ⟨trivial, ?_⟩
    gi_at_call 142
    refine (rns_in Fence.wide _ trivial rfl _ _).mono ?_
    rintro e w' ⟨rfl, rfl⟩
    gi_wp2
    obtain ⟨p, hp⟩ : ∃ p, p = w.heap.size := ⟨_, rfl⟩
    obtain ⟨W0, hW0⟩ : ∃ W0, (((w.alloc (.cells #[.bool false] 4)).drewN q).alloc (.cells #[.string s] 9)) = W0 := ⟨_, rfl⟩
    have z0 : W0.heap.size = p + 2 := by rw [← hW0, hp]; simp
    have i0' : PrI w p s [] W0 := by
      rw [← hW0, hp]
      refine ⟨?_, ?_, Lib.hid rfl, ?_⟩
      · exact boxed_below (boxed_below (Boxed.new w 4 (.bool false)) (Dr.below ⟨q, rfl⟩)) ((Below.refl _ _).alloc (Nat.le_refl _) _)
      · have := Boxed.new ((w.alloc (.cells #[.bool false] 4)).drewN q) 9 (.string s)
        simpa using this
      · exact (((Below.refl _ w).alloc (Nat.le_refl _) _).trans ((Dr.below ⟨q, rfl⟩).mono (by simp))).alloc (by simp) _
    rw [hW0, ← hp]
    have hc0 : W0.cell? ⟨p + 1, 0, none⟩ = some (.string s) := i0'.2.1.cell
    have HP := Lib.hid hp
    clear hW0 hp V
    refine wpIn_rangeFunc_ownF (F := Fence.wide) (n := 5) rfl (by omega) (gf := 180) (lb := #[.pointer (some ⟨p + 1, 0, none⟩)]) rfl trivial (enters_of Tryz.func180 (by kernel_rfl) rfl)
      (rns_stops 4 (by omega) (p + 1) s HS.out W0 (by omega) hc0) (fun h k => Eq.trans k h) ?keep (Below.refl _ _) (fun _ => rfl)
      (PrI w p s) (PrX w p s) (PrI.own w p s (by rw [HP.out]; exact Nat.le_refl _) _ (by omega)) (fun c => PrX.own w p s c (by rw [HP.out]; exact Nat.le_refl _) _ (by omega)) i0'
      (fun x => { tmps := #[.string s, undef, .pointer (some ⟨p, 0, none⟩), undef, .int .i32 (x.2 : Int), .string s, .bool true, .bool false, .string s, .func (.func 180) #[] #[.pointer (some ⟨p + 1, 0, none⟩)], .int .i64 (x.1 : Int), .int .i32 (x.2 : Int), undef, undef], defers := [] })
      ?assign ?body ?done ?stop
    case keep =>
      intro W l o o' hl _ _ _
      show (W.putObj l o').heap[p + 1]? = W.heap[p + 1]?
      exact (grownBy_putObj' W l o').block _ (by have := lt_of_block ‹_›; omega) (fun e => by cases e; omega)
    case assign =>
      rintro l x W K hK
      unfold rnV
      gi_wp2
      exact hK
    case body =>
      rintro l pre x W hI hlt
      have hb := hI.1.cell
      have hf := hI.1.frozen
      have HI := Lib.hid hI
      have UC := Lib.hid (fun w => uctl_any w x.2)
      have z : ∃ b, b = ctlC x.2 := ⟨_, rfl⟩
      obtain ⟨b, hbx⟩ := z
      rw [← hbx] at UC
      have HB := Lib.hid hbx
      clear hbx hI
      cases b
      · gi_wp2_with (refine ⟨trivial, ?_⟩; gi_at_call 143; refine (CallsIn.inRound l (callsIn_wide.2 (UC.out _))).mono ?_; rintro e w1 ⟨rfl, rfl⟩)
        refine ⟨KeepsOthers.refl _, rfl, HI.out.1, HI.out.2.1, Lib.hid ?_, HI.out.2.2.2⟩
        rw [List.all_append, HI.out.2.2.1.out]
        simp [gd, ← HB.out]
      · gi_wp2_with (refine ⟨trivial, ?_⟩; gi_at_call 143; refine (CallsIn.inRound l (callsIn_wide.2 (UC.out _))).mono ?_; rintro e w1 ⟨rfl, rfl⟩)
        refine ⟨KeepsOthers.setCell _ _ _, ⟨boxed_self HI.out.1, Lib.hid ⟨rfl, ?_⟩, HI.out.2.2.2.setCell (p := ⟨p, 0, none⟩) (Nat.le_refl _) _⟩⟩
        rw [List.all_append, Bool.and_eq_false_iff]
        exact .inr (by simp [gd, ← HB.out])
    case done =>
      rintro D ys W hD rfl hI hK
      have hb := hI.1.cell
      have hf := hI.1.frozen
      have HI := Lib.hid hI
      clear hI
      gi_wp2
      have hK' := (KeepsOthers.setCell W ⟨p, 0, none⟩ (.bool true)).same D _ hK rfl
      refine ⟨by simp, .inl ⟨_, _, rfl, run_takeDeferred hK', ?_⟩⟩
      have hc5 := cell_kept (World.cell?_setCell_same' W ⟨p, 0, none⟩ (.bool true) (by rw [hb]; rfl)) (grownBy_putObj' _ D (.deferred none)) (fun r e => by cases e; exact ⟨_, hK', rfl⟩)
      refine ⟨.bool true, ?_, by rw [G.out, HI.out.2.2.1.out]; rfl, ((HI.out.2.2.2.mono (Nat.le_of_eq HP.out.symm)).setCell (p := ⟨p, 0, none⟩) (Nat.le_of_eq HP.out.symm) _).trans (belowK_b (w := w) (Nat.le_refl _) _ D _ _ (by have := HP.out; omega) hK' rfl rfl)⟩
      simp [results, Tryz.f100, go_sem, hc5]
    case stop =>
      rintro D c pre W hD ⟨q, hq⟩ hI hK
      obtain ⟨h1, h2, h3⟩ := hI
      obtain ⟨rfl, h4⟩ := h2.out
      have h5 := h1.cell
      have GF : good false (bs s) = false := by rw [G.out, ← hq, List.all_append, h4]; rfl
      gi_wp2
      refine ⟨by simp, .inl ⟨_, _, rfl, run_takeDeferred hK, ?_⟩⟩
      have hc5 := cell_kept h5 (grownBy_putObj' _ D (.deferred none)) (fun r e => by cases e; exact ⟨_, hK, rfl⟩)
      refine ⟨.bool false, ?_, rfl, (h3.mono (Nat.le_of_eq HP.out.symm)).trans (belowK_b (w := w) (Nat.le_refl _) _ D _ _ (by have := HP.out; omega) hK rfl rfl)⟩
      simp [results, Tryz.f100, go_sem, hc5]
end Go.Proofs.YtohmdledkhgdaaaGreatDoor
/- The library's contracts on texts at this seat (laid by the shelf's tools): IndexByte, HasPrefix, HasSuffix, Contains, Cut, CutPrefix. -/
namespace Go.Proofs.YtohmdledkhgdaaaGreatDoor
open Go.Shelf Go.RowKit
set_option linter.unusedVariables false
def lb_lays137_ren : Go.Shelf.Ren := ⟨fun | 137 => 151 | 217 => 195 | 266 => 228 | n => n, fun | 9 => 9 | 5 => 5 | 3 => 3 | n => n, fun | n => n⟩
theorem lb_lays137 : Go.Proofs.Lays.n137 Tryz.prog lb_lays137_ren := {
  mixed := by kernel_rfl
  f137 := Tryz.func151.trans (congrArg some (by kernel_rfl))
  f217 := Tryz.func195.trans (congrArg some (by kernel_rfl))
  f266 := Tryz.func228.trans (congrArg some (by kernel_rfl))
  t3 := Tryz.underlying3
  a3 := Tryz.isAgg3
  z3 := Tryz.sizeOf3
  v3 := Tryz.zeroValue3
  t5 := Tryz.underlying5
  a5 := Tryz.isAgg5
  z5 := Tryz.sizeOf5
  v5 := Tryz.zeroValue5
  t9 := Tryz.underlying9
  a9 := Tryz.isAgg9
  z9 := Tryz.sizeOf9
  v9 := Tryz.zeroValue9 }
theorem lb_strings_IndexByte (s : ByteArray) (c : Int) (w : World) :
    Calls Tryz.prog 151 #[.string s, .int .u8 c] w fun e w' => e = .returned (.int .i64 (Lib.indexByte s.data.toList c.toNat.toUInt8)) ∧ w' = w := Any.strings_IndexByte lb_lays137 s c w
def lb_lays144_ren : Go.Shelf.Ren := ⟨fun | 144 => 144 | 143 => 182 | 219 => 150 | 217 => 195 | 225 => 196 | 224 => 197 | 267 => 198 | 266 => 228 | 314 => 229 | n => n, fun | 9 => 9 | 4 => 4 | 3 => 3 | 5 => 5 | 46 => 75 | 146 => 128 | 51 => 127 | n => n, fun | 1 => 2 | n => n⟩
theorem lb_lays144 : Go.Proofs.Lays.n144 Tryz.prog lb_lays144_ren := {
  mixed := by kernel_rfl
  f143 := Tryz.func182.trans (congrArg some (by kernel_rfl))
  f144 := Tryz.func144.trans (congrArg some (by kernel_rfl))
  f217 := Tryz.func195.trans (congrArg some (by kernel_rfl))
  f219 := Tryz.func150.trans (congrArg some (by kernel_rfl))
  f224 := Tryz.func197.trans (congrArg some (by kernel_rfl))
  f225 := Tryz.func196.trans (congrArg some (by kernel_rfl))
  f266 := Tryz.func228.trans (congrArg some (by kernel_rfl))
  f267 := Tryz.func198.trans (congrArg some (by kernel_rfl))
  f314 := Tryz.func229.trans (congrArg some (by kernel_rfl))
  t3 := Tryz.underlying3
  a3 := Tryz.isAgg3
  z3 := Tryz.sizeOf3
  v3 := Tryz.zeroValue3
  t4 := Tryz.underlying4
  a4 := Tryz.isAgg4
  z4 := Tryz.sizeOf4
  v4 := Tryz.zeroValue4
  t5 := Tryz.underlying5
  a5 := Tryz.isAgg5
  z5 := Tryz.sizeOf5
  v5 := Tryz.zeroValue5
  t9 := Tryz.underlying9
  a9 := Tryz.isAgg9
  z9 := Tryz.sizeOf9
  v9 := Tryz.zeroValue9
  t46 := Tryz.underlying75
  a46 := Tryz.isAgg75
  z46 := Tryz.sizeOf75
  v46 := Tryz.zeroValue75
  t51 := Tryz.underlying127
  a51 := Tryz.isAgg127
  z51 := Tryz.sizeOf127
  v51 := Tryz.zeroValue127
  t146 := Tryz.underlying128
  a146 := Tryz.isAgg128
  z146 := Tryz.sizeOf128
  v146 := Tryz.zeroValue128
  g1 := by kernel_rfl }
theorem lb_strings_Contains (s sub : ByteArray) (m : Int) (w : World) (hs : s.size < 4294967281) (hm : w.cell? ⟨2, 0, none⟩ = some (.int .i64 m)) :
    Calls Tryz.prog 144 #[.string s, .string sub] w fun e w' => e = .returned (.bool (Lib.contains s.data.toList sub.data.toList)) ∧ w' = w := Any.strings_Contains lb_lays144 s sub m w hs hm
def lb_lays145_ren : Go.Shelf.Ren := ⟨fun | 145 => 67 | 220 => 109 | 219 => 150 | 217 => 195 | 225 => 196 | 224 => 197 | 267 => 198 | 266 => 228 | 314 => 229 | n => n, fun | 9 => 9 | 4 => 4 | 59 => 31 | 3 => 3 | 5 => 5 | 46 => 75 | 146 => 128 | 51 => 127 | n => n, fun | 1 => 2 | n => n⟩
theorem lb_lays145 : Go.Proofs.Lays.n145 Tryz.prog lb_lays145_ren := {
  mixed := by kernel_rfl
  f145 := Tryz.func67.trans (congrArg some (by kernel_rfl))
  f217 := Tryz.func195.trans (congrArg some (by kernel_rfl))
  f219 := Tryz.func150.trans (congrArg some (by kernel_rfl))
  f220 := Tryz.func109.trans (congrArg some (by kernel_rfl))
  f224 := Tryz.func197.trans (congrArg some (by kernel_rfl))
  f225 := Tryz.func196.trans (congrArg some (by kernel_rfl))
  f266 := Tryz.func228.trans (congrArg some (by kernel_rfl))
  f267 := Tryz.func198.trans (congrArg some (by kernel_rfl))
  f314 := Tryz.func229.trans (congrArg some (by kernel_rfl))
  t3 := Tryz.underlying3
  a3 := Tryz.isAgg3
  z3 := Tryz.sizeOf3
  v3 := Tryz.zeroValue3
  t4 := Tryz.underlying4
  a4 := Tryz.isAgg4
  z4 := Tryz.sizeOf4
  v4 := Tryz.zeroValue4
  t5 := Tryz.underlying5
  a5 := Tryz.isAgg5
  z5 := Tryz.sizeOf5
  v5 := Tryz.zeroValue5
  t9 := Tryz.underlying9
  a9 := Tryz.isAgg9
  z9 := Tryz.sizeOf9
  v9 := Tryz.zeroValue9
  t46 := Tryz.underlying75
  a46 := Tryz.isAgg75
  z46 := Tryz.sizeOf75
  v46 := Tryz.zeroValue75
  t51 := Tryz.underlying127
  a51 := Tryz.isAgg127
  z51 := Tryz.sizeOf127
  v51 := Tryz.zeroValue127
  t59 := Tryz.underlying31
  a59 := Tryz.isAgg31
  z59 := Tryz.sizeOf31
  v59 := Tryz.zeroValue31
  t146 := Tryz.underlying128
  a146 := Tryz.isAgg128
  z146 := Tryz.sizeOf128
  v146 := Tryz.zeroValue128
  g1 := by kernel_rfl }
theorem lb_strings_Cut (s sep : ByteArray) (m : Int) (w : World) (hs : s.size < 4294967281) (hm : w.cell? ⟨2, 0, none⟩ = some (.int .i64 m)) :
    Calls Tryz.prog 67 #[.string s, .string sep] w fun e w' => e = .returned (.tuple #[.string ⟨(Lib.cut s.data.toList sep.data.toList).1.toArray⟩, .string ⟨(Lib.cut s.data.toList sep.data.toList).2.1.toArray⟩, .bool (Lib.cut s.data.toList sep.data.toList).2.2]) ∧ ∃ n, w' = w.drewN n := Any.strings_Cut lb_lays145 s sep m w hs hm
def lb_lays99_ren : Go.Shelf.Ren := ⟨fun | 99 => 26 | 206 => 71 | n => n, fun | 9 => 9 | 4 => 4 | 3 => 3 | n => n, fun | n => n⟩
theorem lb_lays99 : Go.Proofs.Lays.n99 Tryz.prog lb_lays99_ren := {
  mixed := by kernel_rfl
  f99 := Tryz.func26.trans (congrArg some (by kernel_rfl))
  f206 := Tryz.func71.trans (congrArg some (by kernel_rfl))
  t3 := Tryz.underlying3
  a3 := Tryz.isAgg3
  z3 := Tryz.sizeOf3
  v3 := Tryz.zeroValue3
  t4 := Tryz.underlying4
  a4 := Tryz.isAgg4
  z4 := Tryz.sizeOf4
  v4 := Tryz.zeroValue4
  t9 := Tryz.underlying9
  a9 := Tryz.isAgg9
  z9 := Tryz.sizeOf9
  v9 := Tryz.zeroValue9 }
theorem lb_strings_HasPrefix (s p : ByteArray) (w : World) :
    Calls Tryz.prog 26 #[.string s, .string p] w fun e w' => e = .returned (.bool (Lib.hasPrefix s.data.toList p.data.toList)) ∧ w' = w := Any.strings_HasPrefix lb_lays99 s p w
def lb_lays100_ren : Go.Shelf.Ren := ⟨fun | 100 => 21 | 207 => 66 | n => n, fun | 9 => 9 | 4 => 4 | 3 => 3 | n => n, fun | n => n⟩
theorem lb_lays100 : Go.Proofs.Lays.n100 Tryz.prog lb_lays100_ren := {
  mixed := by kernel_rfl
  f100 := Tryz.func21.trans (congrArg some (by kernel_rfl))
  f207 := Tryz.func66.trans (congrArg some (by kernel_rfl))
  t3 := Tryz.underlying3
  a3 := Tryz.isAgg3
  z3 := Tryz.sizeOf3
  v3 := Tryz.zeroValue3
  t4 := Tryz.underlying4
  a4 := Tryz.isAgg4
  z4 := Tryz.sizeOf4
  v4 := Tryz.zeroValue4
  t9 := Tryz.underlying9
  a9 := Tryz.isAgg9
  z9 := Tryz.sizeOf9
  v9 := Tryz.zeroValue9 }
theorem lb_strings_HasSuffix (s p : ByteArray) (w : World) (hs : s.size ≤ 9223372036854775807) :
    Calls Tryz.prog 21 #[.string s, .string p] w fun e w' => e = .returned (.bool (Lib.hasSuffix s.data.toList p.data.toList)) ∧ w' = w := Any.strings_HasSuffix lb_lays100 s p w hs
end Go.Proofs.YtohmdledkhgdaaaGreatDoor
