/- regroup, left, Size; encode. -/
import Derived.Test.YtbgggeobpiaamaaDoorRgE
import Derived.Test.YtbgggeobpiaamaaDoorEncA
namespace Go.Proofs.YtbgggeobpiaamaaDoor
open Go.RowKit
set_option linter.unusedVariables false

/-- regroup(from, to, pass). -/
theorem regroup_any (w : World) (a b pf Bt B : Nat) (hB : w.heap.size = B + 2) :
    Calls Tryd.prog 72 #[.int .i64 a, .int .i64 b, .func (.func pf) #[] #[.pointer (some ⟨Bt, 0, none⟩)]] w fun e w' =>
      e = .returned (.tuple #[.func (.func 94) #[] #[.pointer (some ⟨B + 5, 0, none⟩), .pointer (some ⟨B + 2, 0, none⟩), .pointer (some ⟨B + 6, 0, none⟩), .pointer (some ⟨B + 3, 0, none⟩), .pointer (some ⟨B + 4, 0, none⟩)],
        .func (.func 95) #[] #[.pointer (some ⟨B + 5, 0, none⟩), .pointer (some ⟨B + 6, 0, none⟩)]]) ∧
      w' = ((((w.alloc (.cells #[.int .i64 a] 3)).alloc (.cells #[.int .i64 b] 3)).alloc (.cells #[.func (.func pf) #[] #[.pointer (some ⟨Bt, 0, none⟩)]] 87)).alloc (.cells #[.int .i64 0] 3)).alloc (.cells #[.int .i64 0] 3) := by
  have HB := Lib.hid hB
  clear hB
  go_enter Tryd.func72, Tryd.ntmps72
  go_wp2_with fail
  go_ret2
  refine ⟨?_, rfl⟩
  simp [HB.out]

theorem left_any (w : World) (B fr tt pf b c : Nat) (xs : List Nat) (h : RG B fr tt pf b c xs w) :
    Calls Tryd.prog 95 #[.pointer (some ⟨B + 5, 0, none⟩), .pointer (some ⟨B + 6, 0, none⟩)] w fun e w' => e = .returned (.tuple #[.int .i64 b, .int .i64 c]) ∧ ∃ n, w' = w.drewN n := by
  have k5 := cell_of_one h.bBits
  have k6 := cell_of_one h.bCount
  clear h
  go_enter Tryd.func95, Tryd.ntmps95
  go_wp2_with fail
  go_quiet (fail)
  go_wp2_with fail
  go_ret2
  exact ⟨rfl, _, rfl⟩

def sizeF (n : Int) : Int := if n < 0 ∨ 131072 < n then 0 else (n + 2) / 3 * 4
theorem sizeF_out {n : Int} (h : n < 0 ∨ 131072 < n) : sizeF n = 0 := if_pos h
theorem sizeF_in {n : Int} (h : ¬ (n < 0 ∨ 131072 < n)) : sizeF n = (n + 2) / 3 * 4 := if_neg h
theorem size_any (w : World) (n : Int) (h0 : -9223372036854775808 ≤ n) (h1 : n ≤ 9223372036854775807) :
    Calls Tryd.prog 70 #[.int .i64 n] w fun e w' => e = .returned (.int .i64 (sizeF n)) ∧ w = w' := by
  by_cases ha : n < 0
  · go_enter Tryd.func70, Tryd.ntmps70
    go_wp2
    all_goals go_ret
    all_goals exact ⟨by rw [sizeF_out (.inl ha)]; rfl, rfl⟩
  · by_cases hb : 131072 < n
    · go_enter Tryd.func70, Tryd.ntmps70
      go_wp2
      all_goals go_ret
      all_goals exact ⟨by rw [sizeF_out (.inr hb)]; rfl, rfl⟩
    · go_enter Tryd.func70, Tryd.ntmps70
      go_wp2
      all_goals go_ret
      all_goals exact ⟨by rw [sizeF_in (by omega)]; rfl, rfl⟩

theorem own_shape {w : World} {base e size n : Nat} {v : Value} {xs : List Value} (h : w.ownsRow base e size v n xs) : ∃ a cap, v = .slice a n cap := by
  rcases h.2 with ⟨rfl, rfl⟩ | ⟨g, cap, cur, rfl, _⟩
  · exact ⟨none, 0, rfl⟩
  · exact ⟨some ⟨g, 0, none⟩, cap, rfl⟩
theorem strOfNums_nat (ys : List Nat) : strOfNums (ys.map fun n : Nat => (n : Int)) = strN ys := by
  unfold strOfNums strN
  simp [Function.comp_def]
/-- 'string(b)' of a slice whose elements are known. -/
theorem conv_cells {P : Program} (w : World) (src e dst : TypeId) (hs : P.underlying src = some (.slice e)) (he : P.underlying e = some (.int .u8)) (hd : P.underlying dst = some .string) (b off cap : Nat) (ys : List Nat)
    (hcell : ∀ i (h : i < ys.length), w.cell? ⟨b, off + i, none⟩ = some (U ys[i])) : (convert src dst (.slice (some ⟨b, off, none⟩) ys.length cap)).run P w = .ok (.string (strN ys)) w := by
  rw [← strOfNums_nat]
  refine run_convert_bytes_arg w src e hs he b off ys.length cap _ (by simp) ?_ dst hd
  intro i hi
  rw [hcell i hi]
  simp [U, List.getD, List.getElem?_eq_getElem hi]
theorem own_conv {P : Program} {w : World} {base e : Nat} {v : Value} {n : Nat} {ys : List Nat} (src dst : TypeId) (hs : P.underlying src = some (.slice e)) (he : P.underlying e = some (.int .u8)) (hd : P.underlying dst = some .string)
    (h : w.ownsRow base e 1 v n (ys.map U)) : (convert src dst v).run P w = .ok (.string (strN ys)) w := by
  have hl : ys.length = n := by simpa using h.1
  subst hl
  rcases h.2 with ⟨rfl, h0⟩ | ⟨g, cap, cur, rfl, _⟩
  · obtain rfl : ys = [] := List.eq_nil_of_length_eq_zero h0
    exact run_convert_bytes_nil w src e hs he 0 0 dst hd
  · refine conv_cells w src e dst hs he hd g 0 cap ys ?_
    intro i hi
    rw [Nat.zero_add, h.cellAt i (by omega), List.getElem?_map, List.getElem?_eq_getElem hi]
    rfl

/-- 'make([]T, l, n)': the world written out. -/
theorem wpList_make_lit {P : Program} (w : World) {ops : Array Oper} {rest : List Oper} {o : Oper} {a : Act} {Q : Exit → Act → World → Prop}
    (hg : o.guard = none) (l c : Operand) (t : TypeId) (hop : o.op = Op.makeSlice t l c)
    (e : TypeId) (i : TypeInfo) (z : Value) (size : Nat) (h1 : P.underlying t = some (.slice e)) (h2 : P.info? e = some i) (h3 : i.zero = some z) (h4 : i.size = size)
    (kl kc : IntKind) (L C : Int) (m n : Nat) (hl : a.eval l = .int kl L) (hc : a.eval c = .int kc C) (hL : L = (m : Int)) (hC : C = (n : Int)) (hmn : m ≤ n) (b2 : i.bytes * n ≤ 281474976710656) (b3 : n ≤ maxLen)
    (hK : ∀ cs, cs.size = n * size → wpList P ops Q rest (a.put o.dst (.slice (some ⟨w.heap.size, 0, none⟩) m n)) (w.alloc (.cells cs e))) :
    wpList P ops Q (o :: rest) a w := by
  refine wpList_plain hg fun K hK' => ?_
  have hr := run_make (P := P) w t e i z h1 h2 h3 kl kc m n (by omega) (by omega) (by have h : ((i.bytes * n : Nat) : Int) ≤ 281474976710656 := by omega
                                                                                      rwa [Int.natCast_mul] at h) (by unfold maxLen at b3; omega)
  subst hL
  subst hC
  simp only [Int.toNat_natCast] at hr
  unfold Oper.wp
  simp [execOp, hop, hl, hc, hr, Result.andThen]
  exact hK' _ _ (hK _ (by rw [← h4]; exact size_madeCells _ _))

/-- The table of letters lies in block 0. -/
structure Tab (w : World) : Prop where
  size : 3 < w.heap.size
  cell : ∀ g, g < 64 → w.cell? ⟨3, g, none⟩ = some (U (al g))
theorem Tab.below {B : Nat} {w w' : World} (h : Tab w) (hb : Below B w w') (hB : 3 < B) : Tab w' := ⟨Nat.lt_of_lt_of_le h.size hb.size, fun g hg => (hb.cell (by exact hB)).trans (h.cell g hg)⟩

theorem pass_enc (w0 : World) (B : Nat) (ht : Tab w0) (hB : 3 < B) (hs : B ≤ w0.heap.size) : PassOK w0 B 93 (2 ^ 6) al := by
  intro w v xs g hb hT hown hn hg
  exact enc1 w (B + 1) g B (al g) v xs hT hown (Nat.le_trans hs hb.size) (by omega) hn (by omega) ((ht.below hb hB).cell g (by omega))

theorem rg_start (w : World) (cs : Array Value) (n fr tt pf : Nat) (hn : n ≤ maxLen) (hcs : cs.size = n * 1) :
    RG w.heap.size fr tt pf 0 0 [] ((((((((w.alloc (.cells cs 5)).alloc (.cells #[.slice (some ⟨w.heap.size, 0, none⟩) 0 n] 43)).alloc (.cells #[.int .i64 fr] 3)).alloc (.cells #[.int .i64 tt] 3)).alloc (.cells #[.func (.func pf) #[] #[.pointer (some ⟨w.heap.size + 1, 0, none⟩)]] 87)).alloc (.cells #[.int .i64 0] 3)).alloc (.cells #[.int .i64 0] 3))) := by
  have sz : ∀ (u : World) (o : Obj), (u.alloc o).heap.size = u.heap.size + 1 := fun u o => by simp
  have a1 := World.ownsRow_made (base := w.heap.size) (e := 5) (size := 1) w cs n (Nat.le_refl _) hn hcs
  have new : ∀ (u : World) (o : Obj) (k : Nat), u.heap.size = k → (u.alloc o).heap[k]? = some o := fun u o k h => by rw [← h]; exact heap_alloc_new u o
  refine ⟨alloc_block (new _ _ _ (by simp)), ?_, new _ _ _ (by simp), ?_, ?_, .slice (some ⟨w.heap.size, 0, none⟩) 0 n, ?_, ((((((a1.alloc _).alloc _).alloc _).alloc _).alloc _).alloc _)⟩
  · exact alloc_block (alloc_block (alloc_block (alloc_block (new _ _ _ (by simp)))))
  · exact alloc_block (alloc_block (alloc_block (new _ _ _ (by simp))))
  · exact alloc_block (alloc_block (new _ _ _ (by simp)))
  · exact alloc_block (alloc_block (alloc_block (alloc_block (alloc_block (new _ _ _ (by simp))))))

theorem below_start (w : World) (o1 o2 o3 o4 o5 o6 o7 : Obj) : Below w.heap.size w (((((((w.alloc o1).alloc o2).alloc o3).alloc o4).alloc o5).alloc o6).alloc o7) := by
  refine Below.alloc (Below.alloc (Below.alloc (Below.alloc (Below.alloc (Below.alloc (Below.alloc (Below.refl _ _) ?_ _) ?_ _) ?_ _) ?_ _) ?_ _) ?_ _) ?_ _ <;> simp <;> omega

end Go.Proofs.YtbgggeobpiaamaaDoor
