/- (*strings.Builder).String. -/
import Derived.Test.YtolhjijnbobphaaGreatDoorBld
namespace Go.Proofs.YtolhjijnbobphaaGreatDoor
open Go.RowKit
set_option linter.unusedVariables false
set_option maxRecDepth 100000

theorem cells8 : Tryz.prog.cellsOf 5 = 1 := by kernel_rfl

theorem freeze_block {w : World} {g n : Nat} {cur : Array Value} {e : TypeId} {fz : Nat × Nat} (hg : w.heap[g]? = some (.cells cur e fz)) (hn : n ≠ 0) (hfz : fz.2 ≤ n) :
    ∃ fz', (w.freeze ⟨g, 0, none⟩ n).heap[g]? = some (.cells cur e fz') ∧ fz'.2 ≤ n := by
  obtain ⟨lo, hi⟩ := fz
  simp only at hfz
  unfold World.freeze
  rw [if_neg hn]
  simp only [Array.getElem?_modify, hg, if_true, Option.map_some]
  refine ⟨_, rfl, ?_⟩
  split
  · simp
  · simp only [Nat.zero_add]; omega
theorem freeze_other {w : World} {g n k : Nat} (h : k ≠ g) : (w.freeze ⟨g, 0, none⟩ n).heap[k]? = w.heap[k]? := by
  unfold World.freeze
  split
  · rfl
  · simp only [Array.getElem?_modify]
    rw [if_neg (by omega)]
theorem freeze_size (w : World) (g n : Nat) : (w.freeze ⟨g, 0, none⟩ n).heap.size = w.heap.size := by
  unfold World.freeze
  split
  · rfl
  · simp

/-- What String leaves: the bytes are frozen, nothing else has turned. -/
theorem bd_frozen {w : World} {B b o T g n cap : Nat} {cs : Array Value} {xs : List Nat} (h : Bd w B b o T cs (.slice (some ⟨g, 0, none⟩) n cap) xs) (hT : T ≠ 5) (hn : n = xs.length) (h0 : n ≠ 0) :
    Bd (w.freeze ⟨g, 0, none⟩ n) B b o T cs (.slice (some ⟨g, 0, none⟩) n cap) xs ∧ FrB b (.slice (some ⟨g, 0, none⟩) n cap) w (w.freeze ⟨g, 0, none⟩ n) := by
  have hne := ownF_ne h.row h.heap hT
  have hgb : b ≠ g := fun e => hne (by simp [Value.ownBlock, e])
  refine ⟨⟨(freeze_other hgb).trans h.heap, h.addr, h.buf, h.row.1, ?_⟩, ?_⟩
  · rcases h.row.2 with ⟨hv, _⟩ | ⟨g', cap', cur, fz, hv, hb, hg, hfz, r⟩
    · simp at hv
    · have hv' := hv
      simp only [Value.slice.injEq, Option.some.injEq, Addr.mk.injEq] at hv'
      obtain ⟨⟨rfl, _⟩, _, rfl⟩ := hv'
      obtain ⟨fz', h1, h2⟩ := freeze_block hg h0 (by rw [hn]; simpa using hfz)
      exact .inr ⟨g, cap, cur, fz', hv, hb, h1, by rw [← hn]; simpa using h2, r⟩
  · refine ⟨?_, ?_, ?_, by rw [freeze_size]; exact Nat.le_refl _, fun k _ _ h2 => freeze_other (fun e => h2 (by simp [Value.ownBlock, e]))⟩ <;> (unfold World.freeze; split <;> rfl)

theorem FrB.refl (b : Nat) (v : Value) (w : World) : FrB b v w w := ⟨rfl, rfl, rfl, Nat.le_refl _, fun _ _ _ _ => rfl⟩
theorem Bd.drewN {w : World} {B b o T : Nat} {cs : Array Value} {v : Value} {xs : List Nat} (h : Bd w B b o T cs v xs) (n : Nat) : Bd (w.drewN n) B b o T cs v xs := ⟨h.1, h.2, h.3, h.4⟩
theorem Bd.drew {w : World} {B b o T : Nat} {cs : Array Value} {v : Value} {xs : List Nat} (h : Bd w B b o T cs v xs) : Bd w.drew B b o T cs v xs := ⟨h.1, h.2, h.3, h.4⟩
theorem FrB.drew {b : Nat} {v : Value} {w w' : World} (h : FrB b v w w') : FrB b v w w'.drew := ⟨h.1, h.2, h.3, h.4, h.5⟩

theorem ownF_alloc {w : World} {base e size n : Nat} {v : Value} {xs : List Value} (h : w.ownsRowF base e size v n xs) (o : Obj) : (w.alloc o).ownsRowF base e size v n xs :=
  h.kept (World.grownBy_alloc w o none) (by cases hv : v.ownBlock <;> simp)
theorem Bd.alloc {w : World} {B b o T : Nat} {cs : Array Value} {v : Value} {xs : List Nat} (h : Bd w B b o T cs v xs) (x : Obj) : Bd (w.alloc x) B b o T cs v xs := ⟨alloc_block h.1, h.2, h.3, ownF_alloc h.4 x⟩
theorem FrB.alloc {b : Nat} {v : Value} {w w' : World} (h : FrB b v w w') (x : Obj) : FrB b v w (w'.alloc x) := ⟨h.1, h.2, h.3, by have := h.4; simp; omega, fun k hk h1 h2 => (Below.heap_alloc w' x k (Nat.lt_of_lt_of_le hk h.4)).trans (h.5 k hk h1 h2)⟩

def StrPost (w : World) (B b o : Nat) (T : TypeId) (cs : Array Value) (v : Value) (xs : List Nat) (e : Ending) (w' : World) : Prop :=
  e = .returned (.string (strN xs)) ∧ Bd w' B b o T cs v xs ∧ FrB b v w w'

set_option maxHeartbeats 400000 in
theorem bstring_any (w : World) (B b o : Nat) (T : TypeId) (cs : Array Value) (v : Value) (xs : List Nat) (h : Bd w B b o T cs v xs) (hT : T ≠ 5) (hx : ∀ x ∈ xs, x < 256) (hlen : xs.length ≤ 140737488355328) :
    Calls Tryz.prog 19 #[.pointer (some ⟨b, o, none⟩)] w (StrPost w B b o T cs v xs) := by
  have hc1 := cellB h.heap (o + 1)
  rw [h.buf] at hc1
  rcases h.row.2 with ⟨rfl, h0⟩ | ⟨g, cap, cur, fz, rfl, hbg, hg, hfz, hnc, hcm, hcs, htake⟩
  · obtain rfl : xs = [] := List.eq_nil_of_length_eq_zero h0
    have H := Lib.hid h
    have s1 := fun (w : World) => Lib.run_unsafeSliceData_nil (P := Tryz.prog) w #[50] 83 0 0
    have s2 := fun (w : World) => Lib.run_unsafeString_none (P := Tryz.prog) w 83 3 9 none
    clear h
    go_enter Tryz.func19, Tryz.ntmps19
    go_wp2_with fail
    go_region
    all_goals go_wp2_with fail
    all_goals go_ret
    all_goals exact ⟨rfl, H.out.drew, (FrB.refl _ _ _).drew⟩
  · obtain ⟨n, hn⟩ : ∃ n, n = xs.length := ⟨_, rfl⟩
    rw [← hn] at hc1 h ⊢
    by_cases h0 : n = 0
    · obtain rfl : xs = [] := List.eq_nil_of_length_eq_zero (by omega)
      subst h0
      have H := Lib.hid h
      have s2 := fun (w : World) (p : Option Addr) => Lib.run_unsafeString_none (P := Tryz.prog) w 83 3 9 p
      by_cases hc0 : cap = 0
      · subst hc0
        have s1 := Lib.run_unsafeSliceData_zero (P := Tryz.prog) w.drew #[50] 83 5 Tryz.underlying83 ⟨g, 0, none⟩ 0 _ (shapeB (w := w.drew) hg)
        have h1' := cellB (w := w.alloc (.view ⟨g, 0, none⟩ 5)) (alloc_block h.heap) (o + 1)
        rw [h.buf] at h1'
        clear h hg hcs htake hfz hnc hcm hn
        go_enter Tryz.func19, Tryz.ntmps19
        go_wp2_with fail
        go_region
        all_goals go_wp2_with fail
        all_goals go_ret
        all_goals exact ⟨rfl, (H.out.alloc _).drew, ((FrB.refl _ _ _).alloc _).drew⟩
      · have s1 := fun (w : World) => Lib.run_unsafeSliceData_row (P := Tryz.prog) w #[50] 83 ⟨g, 0, none⟩ 0 cap hc0
        clear h hg hcs htake hfz hnc hcm hn
        go_enter Tryz.func19, Tryz.ntmps19
        go_wp2_with fail
        go_region
        all_goals go_wp2_with fail
        all_goals go_ret
        all_goals exact ⟨rfl, H.out.drew, (FrB.refl _ _ _).drew⟩
    · have H := Lib.hid (bd_frozen h.drew hT hn h0)
      have s1 := fun (w : World) => Lib.run_unsafeSliceData_row (P := Tryz.prog) w #[50] 83 ⟨g, 0, none⟩ n cap (by omega)
      have hl : (xs.map UInt8.ofNat).length = n := by rw [List.length_map, hn]
      have s2 : (Builtin.unsafeString_ #[83, 3] 9 #[.pointer (some ⟨g, 0, none⟩), .int .i64 (n : Int)]).run Tryz.prog w.drew = .ok (.string (strN xs)) (w.drew.freeze ⟨g, 0, none⟩ n) := by
        have hs := Lib.run_unsafeString_row (P := Tryz.prog) w.drew 83 3 9 5 Tryz.underlying83 cells8 g cur.size (shapeB hg) (xs.map UInt8.ofNat) (by intro e; rw [e] at hl; simp at hl; omega) (by rw [hl, hcs]; omega) (by rw [hl]; omega) ?_
        · rw [hl] at hs
          exact hs
        · intro j x hj
          have hjl : j < xs.length := by have := (List.getElem?_eq_some_iff.1 hj).1; simpa using this
          have hc := h.row.cells (g := g) rfl j (U xs[j]) (by rw [List.getElem?_map, List.getElem?_eq_getElem hjl]; rfl)
          rw [List.getElem?_map, List.getElem?_eq_getElem hjl] at hj
          simp only [Option.map_some, Option.some.injEq] at hj
          subst hj
          have hx1 := hx _ (List.getElem_mem hjl)
          have e2 : (UInt8.ofNat xs[j]).toNat = xs[j] := Nat.mod_eq_of_lt hx1
          rw [e2]
          exact hc
      have hn63 : n ≤ 9223372036854775807 := by omega
      clear h hl hcs htake hg hfz hnc hcm hn hx
      go_enter Tryz.func19, Tryz.ntmps19
      go_wp2_with fail
      go_region
      all_goals go_wp2_with fail
      all_goals go_ret
      all_goals exact ⟨rfl, H.out.1, ⟨H.out.2.1, H.out.2.2, H.out.2.3, H.out.2.4, H.out.2.5⟩⟩

end Go.Proofs.YtolhjijnbobphaaGreatDoor
