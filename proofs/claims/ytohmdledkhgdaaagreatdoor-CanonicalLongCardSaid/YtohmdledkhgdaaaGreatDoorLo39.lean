/- bulletinref17.word: a command of the reference in a block; the words of the sorts group, version, number, mode. -/
import Derived.Test.YtohmdledkhgdaaaGreatDoorLo38
namespace Go.Proofs.YtohmdledkhgdaaaGreatDoor
open Go.RowKit
set_option linter.unusedVariables false
set_option maxRecDepth 100000
theorem size_c17 : (Tryz.prog.info? 140).map (·.size) = some 56 := by kernel_rfl
/-- The cells of a command of the reference: its kind, whether it is moderated; mo: it has no moderators. -/
structure RC (cs : Array Value) (k : Nat) (m mo : Bool) : Prop where
  cl : Cl 56 cs
  kind : cs[0]? = some (.int .i64 (k : Int))
  mod : cs[35]? = some (.bool m)
  mods : mo = true → cs[36]? = some (.slice none 0 0)
theorem RC.set {cs : Array Value} {k : Nat} {m mo : Bool} (h : RC cs k m mo) (j : Nat) {u : Value} (hu : u.oneCell' = true) (h0 : j ≠ 0) (h1 : j ≠ 35) (h2 : j ≠ 36) : RC (cs.setIfInBounds j u) k m mo :=
  ⟨cl_set h.cl j hu, by rw [Array.getElem?_setIfInBounds_ne h0]; exact h.kind, by rw [Array.getElem?_setIfInBounds_ne h1]; exact h.mod, fun e => by rw [Array.getElem?_setIfInBounds_ne h2]; exact h.mods e⟩
theorem RC.setM {cs : Array Value} {k : Nat} {m mo : Bool} (h : RC cs k m mo) (b : Bool) : RC (cs.setIfInBounds 35 (.bool b)) k b mo :=
  ⟨cl_set h.cl 35 rfl, by rw [Array.getElem?_setIfInBounds_ne (by omega)]; exact h.kind, by rw [Array.getElem?_setIfInBounds_self_of_lt (by rw [h.cl.1]; omega)], fun e => by rw [Array.getElem?_setIfInBounds_ne (by omega)]; exact h.mods e⟩
theorem RC.setL {cs : Array Value} {k : Nat} {m mo : Bool} (h : RC cs k m mo) {u : Value} (hu : u.oneCell' = true) : RC (cs.setIfInBounds 36 u) k m false :=
  ⟨cl_set h.cl 36 hu, by rw [Array.getElem?_setIfInBounds_ne (by omega)]; exact h.kind, by rw [Array.getElem?_setIfInBounds_ne (by omega)]; exact h.mod, fun e => by cases e⟩
theorem RC.weak {cs : Array Value} {k : Nat} {m mo : Bool} (h : RC cs k m mo) : RC cs k m false := ⟨h.cl, h.kind, h.mod, fun e => by cases e⟩
/-- A command in block p. -/
def RB (w : World) (p k : Nat) (m mo : Bool) : Prop := ∃ cs, w.heap[p]? = some (.cells cs 140 (0, 0)) ∧ RC cs k m mo
theorem RB.lt {w : World} {p k : Nat} {m mo : Bool} (h : RB w p k m mo) : p < w.heap.size := by obtain ⟨cs, h, _⟩ := h; exact lt_of_block h
theorem RB.on {w w' : World} {p k : Nat} {m mo : Bool} (h : RB w p k m mo) (hb : Below w.heap.size w w') : RB w' p k m mo := by
  obtain ⟨cs, h1, h2⟩ := h; exact ⟨cs, (hb.block p (lt_of_block h1)).trans h1, h2⟩
theorem RB.drew {w : World} {p k : Nat} {m mo : Bool} (h : RB w p k m mo) : RB w.drew p k m mo := h
theorem RB.cell {w : World} {p k : Nat} {m mo : Bool} (h : RB w p k m mo) {j : Nat} (hj : j < 56) : ∃ u, w.cell? ⟨p, j, none⟩ = some u ∧ w.frozen? ⟨p, j, none⟩ = false := by
  obtain ⟨cs, h1, h2⟩ := h
  exact ⟨cs[j]'(by rw [h2.cl.1]; omega), by rw [cell_of_row w p j _ _ _ h1]; simp [h2.cl.1, hj], by simp [World.frozen?, h1]⟩
theorem RB.kind {w : World} {p k : Nat} {m mo : Bool} (h : RB w p k m mo) : w.cell? ⟨p, 0, none⟩ = some (.int .i64 (k : Int)) := by
  obtain ⟨cs, h1, h2⟩ := h; rw [cell_of_row w p 0 _ _ _ h1]; exact h2.kind
theorem RB.modc {w : World} {p k : Nat} {m mo : Bool} (h : RB w p k m mo) : w.cell? ⟨p, 35, none⟩ = some (.bool m) := by
  obtain ⟨cs, h1, h2⟩ := h; rw [cell_of_row w p 35 _ _ _ h1]; exact h2.mod
theorem RB.modsc {w : World} {p k : Nat} {m : Bool} (h : RB w p k m true) : w.cell? ⟨p, 36, none⟩ = some (.slice none 0 0) := by
  obtain ⟨cs, h1, h2⟩ := h; rw [cell_of_row w p 36 _ _ _ h1]; exact h2.mods rfl
theorem RB.set {w : World} {p k : Nat} {m mo : Bool} (h : RB w p k m mo) (j : Nat) {u : Value} (hu : u.oneCell' = true) (h0 : j ≠ 0) (h1 : j ≠ 35) (h2 : j ≠ 36) (hj : j < 56) : RB (w.setCell ⟨p, j, none⟩ u) p k m mo ∧ (w.setCell ⟨p, j, none⟩ u).cell? ⟨p, j, none⟩ = some u := by
  obtain ⟨cs, h3, h4⟩ := h
  have hb := setB h3 j u
  exact ⟨⟨_, hb, h4.set j hu h0 h1 h2⟩, by rw [cell_of_row _ p j _ _ _ hb]; exact Array.getElem?_setIfInBounds_self_of_lt (by rw [h4.cl.1]; omega)⟩
theorem RB.setM {w : World} {p k : Nat} {m mo : Bool} (h : RB w p k m mo) (b : Bool) : RB (w.setCell ⟨p, 35, none⟩ (.bool b)) p k b mo ∧ (w.setCell ⟨p, 35, none⟩ (.bool b)).cell? ⟨p, 35, none⟩ = some (.bool b) := by
  obtain ⟨cs, h3, h4⟩ := h
  have hb := setB h3 35 (.bool b)
  exact ⟨⟨_, hb, h4.setM b⟩, by rw [cell_of_row _ p 35 _ _ _ hb]; exact Array.getElem?_setIfInBounds_self_of_lt (by rw [h4.cl.1]; omega)⟩
theorem RB.setL {w : World} {p k : Nat} {m mo : Bool} (h : RB w p k m mo) {u : Value} (hu : u.oneCell' = true) : RB (w.setCell ⟨p, 36, none⟩ u) p k m false ∧ (w.setCell ⟨p, 36, none⟩ u).cell? ⟨p, 36, none⟩ = some u := by
  obtain ⟨cs, h3, h4⟩ := h
  have hb := setB h3 36 u
  exact ⟨⟨_, hb, h4.setL hu⟩, by rw [cell_of_row _ p 36 _ _ _ hb]; exact Array.getElem?_setIfInBounds_self_of_lt (by rw [h4.cl.1]; omega)⟩
theorem RB.setCells {p k : Nat} {m mo : Bool} : ∀ (vs : List Value) (o : Nat) (w : World), RB w p k m mo → (∀ v ∈ vs, v.oneCell' = true) → (1 ≤ o ∧ o + vs.length ≤ 35 ∨ 37 ≤ o ∧ o + vs.length ≤ 56) → RB (w.setCells p o vs) p k m mo ∧ Fr1 p w (w.setCells p o vs)
  | [], o, w, h, _, _ => ⟨h, Fr1.refl _ _⟩
  | v :: r, o, w, h, hv, ho => by
    have hl : (v :: r).length = r.length + 1 := rfl
    obtain ⟨h1, h2⟩ := RB.setCells r (o + 1) _ (h.set o (hv v (List.mem_cons_self ..)) (by omega) (by omega) (by omega) (by omega)).1 (fun x hx => hv x (List.mem_cons_of_mem _ hx)) (by omega)
    exact ⟨h1, (Fr1.setC v).trans h2⟩
theorem RB.store {w : World} {p k : Nat} {m mo : Bool} (h : RB w p k m mo) (o n : Nat) (hn : 1 ≤ o ∧ o + n ≤ 35 ∨ 37 ≤ o ∧ o + n ≤ 56) (ty : TypeId) {cs : Array Value} (hc : Cl n cs) (hi : (Tryz.prog.info? ty).map (·.size) = some n) :
    (storeVar ty ⟨p, o, none⟩ (.agg cs)).run Tryz.prog w = .ok () (w.setCells p o cs.toList) ∧ RB (w.setCells p o cs.toList) p k m mo ∧ Fr1 p w (w.setCells p o cs.toList) ∧ (∀ j u, cs[j]? = some u → (w.setCells p o cs.toList).cell? ⟨p, o + j, none⟩ = some u) := by
  have ht : w.there p o cs.size := fun j hj => by
    obtain ⟨u, h1, h2⟩ := h.cell (j := o + j) (by rw [hc.1] at hj; omega)
    exact ⟨by rw [h1]; rfl, h2⟩
  obtain ⟨h1, h2⟩ := RB.setCells cs.toList o w h (cl_mem hc) (by rw [Array.length_toList, hc.1]; omega)
  exact ⟨run_storeVar_mid w p o ty cs ht (by rw [hc.1]; exact hi) hc.2, h1, h2, fun j u hu =>
    World.rangeAt_setCells_same w p o cs.toList (by simpa using ht) j u (by simpa using hu)⟩
/-- What word returns. -/
def RwPost (k a : Nat) (m : Bool) (x : List Nat) (w : World) (e : Ending) (w' : World) : Prop :=
  ∃ cs', e = .returned (.tuple #[.agg cs', .int .i64 ((wordE a x : Nat) : Int)]) ∧ RC cs' k (if a = 3 then decide (x = wMod) else m) (decide (a ≠ 4)) ∧ Below w.heap.size w w'
def z17 : Array Value := #[.int .i64 0, .int .u8 0, .int .u8 0, .int .u8 0, .int .u8 0, .int .u8 0, .int .u8 0, .int .u8 0, .int .u8 0, .int .u8 0, .int .u8 0, .int .u8 0, .int .u8 0, .int .u8 0, .int .u8 0, .int .u8 0, .int .u8 0, .int .u8 0, .int .u8 0, .int .u8 0, .int .u8 0, .int .u8 0, .int .u8 0, .int .u8 0, .int .u8 0, .int .u8 0, .int .u8 0, .int .u8 0, .int .u8 0, .int .u8 0, .int .u8 0, .int .u8 0, .int .u8 0, .string ⟨#[]⟩, .int .i64 0, .bool false, .slice none 0 0, .string ⟨#[]⟩, .int .i64 0, .int .i64 0, .int .u8 0, .int .u8 0, .int .u8 0, .int .u8 0, .int .u8 0, .int .u8 0, .int .u8 0, .int .u8 0, .int .u8 0, .int .u8 0, .int .u8 0, .int .u8 0, .int .u8 0, .int .u8 0, .int .u8 0, .int .u8 0]
theorem cl_z17 : Cl 56 z17 := ⟨by kernel_rfl, by kernel_rfl⟩
theorem rc_z17 : RC z17 0 false true := ⟨cl_z17, by kernel_rfl, by kernel_rfl, fun _ => by kernel_rfl⟩
theorem rw_start (w : World) (cs : Array Value) {k : Nat} {m mo : Bool} (h : RC cs k m mo) (w0 : World) (hw : w0 = (w.alloc (.cells cs 140)).alloc (.cells z17 140)) :
    RB w0 w.heap.size k m mo ∧ w0.heap[w.heap.size + 1]? = some (.cells z17 140 (0, 0)) ∧ Below w.heap.size w w0 ∧ w0.heap.size = w.heap.size + 2 := by
  subst hw
  refine ⟨⟨cs, alloc_block (heap_alloc_last w _), h⟩, ?_, ((Below.refl _ _).alloc (Nat.le_refl _) _).alloc (by simp) _, by simp⟩
  have := heap_alloc_last (w.alloc (.cells cs 140)) (.cells z17 140); rw [World.size_alloc] at this; exact this
theorem rw_exit (w wx : World) {k : Nat} {m mo : Bool} (h : RB wx w.heap.size k m mo) (hq : wx.heap[w.heap.size + 1]? = some (.cells z17 140 (0, 0))) (hb : Below w.heap.size w wx) :
    ∃ cs', RC cs' k m mo ∧ (loadVar 140 ⟨w.heap.size, 0, none⟩).run Tryz.prog wx = .ok (.agg cs') wx ∧ (storeVar 140 ⟨w.heap.size + 1, 0, none⟩ (.agg cs')).run Tryz.prog wx = .ok () (wx.setRow (w.heap.size + 1) cs') ∧
      (∀ tmps : Array Value, tmps.getD 6 undef = .pointer (some ⟨w.heap.size + 1, 0, none⟩) → (results Tryz.f133 tmps).run Tryz.prog (wx.setRow (w.heap.size + 1) cs') = .ok (.tuple #[.agg cs', tmps.getD 7 undef]) (wx.setRow (w.heap.size + 1) cs')) ∧ Below w.heap.size w (wx.setRow (w.heap.size + 1) cs') := by
  obtain ⟨cs', h1, h2⟩ := h
  exact ⟨cs', h2, run_load_cl wx w.heap.size 56 _ _ cs' _ _ h1 rfl Tryz.underlying140 size_c17 h2.cl.1,
    run_storeVar_row (P := Tryz.prog) wx (w.heap.size + 1) _ 140 z17 cs' hq (by rw [h2.cl.1]; exact size_c17) (by rw [h2.cl.1, cl_z17.1]) h2.cl.2,
    fun tmps ht => results_cell_tmp1 Tryz.results133 tmps _ (w.heap.size + 1) _ _ _ _ ht (setRow_heap wx (w.heap.size + 1) z17 cs' _ _ hq) Tryz.underlying140 rfl (by rw [h2.cl.1]; exact size_c17),
    below_setRow hb (Nat.le_succ _) cs'⟩
/-- Storing one cell of the command leaves the rest. -/
theorem rw_set {w wx : World} {k : Nat} {m mo : Bool} (h : RB wx w.heap.size k m mo) (hq : wx.heap[w.heap.size + 1]? = some (.cells z17 140 (0, 0))) (hb : Below w.heap.size w wx) (j : Nat) (u : Value) :
    (wx.setCell ⟨w.heap.size, j, none⟩ u).heap[w.heap.size + 1]? = some (.cells z17 140 (0, 0)) ∧ Below w.heap.size w (wx.setCell ⟨w.heap.size, j, none⟩ u) :=
  ⟨by rw [Below.heap_setCell _ _ _ _ (show w.heap.size + 1 ≠ w.heap.size by omega)]; exact hq, hb.setCell (p := ⟨w.heap.size, j, none⟩) (Nat.le_refl _) _⟩
set_option maxHeartbeats 4000000 in
theorem rword_group (w : World) (cs : Array Value) (k : Nat) (m : Bool) (x : ByteArray) (hs : x.size ≤ 10000000) (h : RC cs k m true) :
    Calls Tryz.prog 133 #[.agg cs, .string ⟨#[103, 114, 111, 117, 112]⟩, .string x] w (RwPost k 1 m (bs x) w) := by
  obtain ⟨w0, hw0⟩ : ∃ w0, w0 = (w.alloc (.cells cs 140)).alloc (.cells z17 140) := ⟨_, rfl⟩
  obtain ⟨r0, q0, b0, s0⟩ := rw_start w cs h w0 hw0
  obtain ⟨u, cu, fu⟩ := r0.cell (show 33 < 56 by omega)
  obtain ⟨r1, _⟩ := r0.set 33 (u := .string x) rfl (by omega) (by omega) (by omega) (by omega)
  obtain ⟨q1, b1⟩ := rw_set r0 q0 b0 33 (.string x)
  obtain ⟨T, hT⟩ : ∃ T, T = nameF (bs x) := ⟨_, rfl⟩
  have CK := Lib.hid (fun w => rgcheck_any x w hs)
  rw [← hT] at CK
  have R1 := Lib.hid r1; have Q1 := Lib.hid q1; have B1 := Lib.hid b1
  have HW := Lib.hid hw0
  have POST : Hid (∀ cs' w', RC cs' k m true → Below w.heap.size w w' → RwPost k 1 m (bs x) w (.returned (.tuple #[.agg cs', .int .i64 ((if T = 0 then 0 else 12 : Nat) : Int)])) w') := Lib.hid (fun cs' w' h1 h2 => ⟨cs', by rw [hT]; rfl, h1, h2⟩)
  clear hw0 h r0 q0 b0 s0 r1 q1 b1 hT
  go_enter Tryz.func133, Tryz.ntmps133
  go_upto_region 1 with fail
  have W' := HW.out
  unfold z17 at W'
  rw [← W']
  clear W' HW
  go_wp2_with fail
  obtain ⟨w1, hw1⟩ : ∃ w1, w1 = w0.setCell ⟨w.heap.size, 33, none⟩ (.string x) := ⟨_, rfl⟩
  rw [← hw1] at R1 Q1 B1 ⊢
  clear hw1 cu fu
  refine (CK.out w1).mono ?_
  rintro e w2 ⟨rfl, hb2⟩
  obtain ⟨cs', rc, ld, st, rs, bb⟩ := rw_exit w w2 (R1.out.on hb2) ((hb2.block _ (lt_of_block Q1.out)).trans Q1.out) (B1.out.trans (hb2.mono B1.out.size))
  have RCX := Lib.hid rc; have LD := Lib.hid ld; have ST := Lib.hid st; have RES := Lib.hid rs; have BB := Lib.hid bb
  clear rc ld st rs bb hb2 CK R1 Q1 B1
  by_cases h0 : T = 0
  · have q1 : ((T : Int) != 0) = false := int_nneq (by omega)
    have A0 : Hid (RwPost k 1 m (bs x) w (.returned (.tuple #[.agg cs', .int .i64 0])) (w2.setRow (w.heap.size + 1) cs')) := Lib.hid (by have := POST.out cs' _ RCX.out BB.out; rw [if_pos h0] at this; exact this)
    clear h0 POST
    go_wp2_with (first
      | ((with_reducible refine wpList_load 140 rfl _ rfl ?_); refine ⟨_, _, rfl, LD.out, ?_⟩)
      | ((with_reducible refine wpList_store 140 rfl _ _ rfl ?_); refine ⟨_, _, _, rfl, rfl, ST.out, ?_⟩))
    exact bodyPost_ret (RES.out _ rfl) rfl A0.out
  · have q1 : ((T : Int) != 0) = true := int_neq (by omega)
    have A0 : Hid (RwPost k 1 m (bs x) w (.returned (.tuple #[.agg cs', .int .i64 12])) (w2.setRow (w.heap.size + 1) cs')) := Lib.hid (by have := POST.out cs' _ RCX.out BB.out; rw [if_neg h0] at this; exact this)
    clear h0 POST
    go_wp2_with (first
      | ((with_reducible refine wpList_load 140 rfl _ rfl ?_); refine ⟨_, _, rfl, LD.out, ?_⟩)
      | ((with_reducible refine wpList_store 140 rfl _ _ rfl ?_); refine ⟨_, _, _, rfl, rfl, ST.out, ?_⟩))
    exact bodyPost_ret (RES.out _ rfl) rfl A0.out
set_option maxHeartbeats 4000000 in
theorem rword_version (w : World) (cs : Array Value) (k : Nat) (m : Bool) (x : ByteArray) (hs : x.size ≤ 100000) (h : RC cs k m true) :
    Calls Tryz.prog 133 #[.agg cs, .string ⟨#[118, 101, 114, 115, 105, 111, 110]⟩, .string x] w (RwPost k 2 m (bs x) w) := by
  obtain ⟨w0, hw0⟩ : ∃ w0, w0 = (w.alloc (.cells cs 140)).alloc (.cells z17 140) := ⟨_, rfl⟩
  obtain ⟨r0, q0, b0, s0⟩ := rw_start w cs h w0 hw0
  obtain ⟨Z, hZ⟩ : ∃ Z, Z = numZ (bs x) := ⟨_, rfl⟩
  have NM := Lib.hid (fun w => rnum17_any x w (by unfold maxLen; omega))
  rw [← hZ] at NM
  have HZ := Lib.hid hZ
  have R0 := Lib.hid r0; have Q0 := Lib.hid q0; have B0 := Lib.hid b0
  have HW := Lib.hid hw0
  clear hw0 h r0 q0 b0 s0 hZ
  go_enter Tryz.func133, Tryz.ntmps133
  go_upto_region 1 with fail
  have W' := HW.out
  unfold z17 at W'
  rw [← W']
  clear W' HW
  go_wp2_with fail
  refine (NM.out w0).mono ?_
  rintro e w1 ⟨rfl, hd⟩
  have r0 : RB w1 w.heap.size k m true := R0.out.on (Dr.below hd)
  have q0 : w1.heap[w.heap.size + 1]? = some (.cells z17 140 (0, 0)) := ((Dr.below hd : Below w0.heap.size w0 w1).block _ (lt_of_block Q0.out)).trans Q0.out
  have b0 : Below w.heap.size w w1 := B0.out.trans ((Dr.below hd : Below w0.heap.size w0 w1).mono B0.out.size)
  obtain ⟨u, cu, fu⟩ := r0.cell (show 34 < 56 by omega)
  obtain ⟨r1, c1⟩ := r0.set 34 (u := .int .i64 Z) rfl (by omega) (by omega) (by omega) (by omega)
  obtain ⟨q1, b1⟩ := rw_set r0 q0 b0 34 (.int .i64 Z)
  have R1 := Lib.hid r1; have C1 := Lib.hid c1; have Q1 := Lib.hid q1; have B1 := Lib.hid b1
  clear hd r0 q0 b0 r1 q1 b1 c1 NM R0 Q0 B0
  go_upto_region 15 with fail
  obtain ⟨w2, hw2⟩ : ∃ w2, w2 = w1.setCell ⟨w.heap.size, 34, none⟩ (.int .i64 Z) := ⟨_, rfl⟩
  rw [← hw2] at R1 C1 Q1 B1 ⊢
  clear hw2 cu fu
  have c1 := C1.out
  obtain ⟨cs', rc, ld, st, rs, bb⟩ := rw_exit w w2 (R1.out) (Q1.out) (B1.out)
  have RCX := Lib.hid rc; have LD := Lib.hid ld; have ST := Lib.hid st; have RES := Lib.hid rs; have BB := Lib.hid bb
  clear rc ld st rs bb
  have POST : Hid (∀ er : Nat, er = numF 0 1000000 (bs x) → RwPost k 2 m (bs x) w (.returned (.tuple #[.agg cs', .int .i64 (er : Int)])) (w2.setRow (w.heap.size + 1) cs')) := Lib.hid (fun er he => ⟨cs', by rw [he]; rfl, RCX.out, BB.out⟩)
  clear C1 R1 Q1 B1
  have NF : (Z = -1 ∧ numF 0 1000000 (bs x) = 3) ∨ (∃ n : Nat, Z = (n : Int) ∧ numF 0 1000000 (bs x) = if n < 0 ∨ 1000000 < n then 2 else 0) := by
    have hz := HZ.out
    unfold numZ at hz; unfold numF
    cases hp : numP (bs x) with
    | none => rw [hp] at hz; exact .inl ⟨hz, rfl⟩
    | some n => rw [hp] at hz; exact .inr ⟨n, hz, rfl⟩
  rcases NF with ⟨rfl, hf⟩ | ⟨n, rfl, hf⟩
  · have A0 : Hid (RwPost k 2 m (bs x) w (.returned (.tuple #[.agg cs', .int .i64 3])) (w2.setRow (w.heap.size + 1) cs')) := Lib.hid (POST.out 3 hf.symm)
    clear hf POST HZ
    go_wp2_with (first
      | ((with_reducible refine wpList_load 140 rfl _ rfl ?_); refine ⟨_, _, rfl, LD.out, ?_⟩)
      | ((with_reducible refine wpList_store 140 rfl _ _ rfl ?_); refine ⟨_, _, _, rfl, rfl, ST.out, ?_⟩))
    exact bodyPost_ret (RES.out _ rfl) rfl A0.out
  · by_cases h1 : 1000000 < n
    · have A0 : Hid (RwPost k 2 m (bs x) w (.returned (.tuple #[.agg cs', .int .i64 2])) (w2.setRow (w.heap.size + 1) cs')) := Lib.hid (POST.out 2 (by rw [hf, if_pos (.inr h1)]))
      clear hf POST HZ
      go_wp2_with (first
        | ((with_reducible refine wpList_load 140 rfl _ rfl ?_); refine ⟨_, _, rfl, LD.out, ?_⟩)
        | ((with_reducible refine wpList_store 140 rfl _ _ rfl ?_); refine ⟨_, _, _, rfl, rfl, ST.out, ?_⟩))
      exact bodyPost_ret (RES.out _ rfl) rfl A0.out
    · have A0 : Hid (RwPost k 2 m (bs x) w (.returned (.tuple #[.agg cs', .int .i64 0])) (w2.setRow (w.heap.size + 1) cs')) := Lib.hid (POST.out 0 (by rw [hf, if_neg (by omega)]))
      clear hf POST HZ
      go_wp2_with (first
        | ((with_reducible refine wpList_load 140 rfl _ rfl ?_); refine ⟨_, _, rfl, LD.out, ?_⟩)
        | ((with_reducible refine wpList_store 140 rfl _ _ rfl ?_); refine ⟨_, _, _, rfl, rfl, ST.out, ?_⟩))
      exact bodyPost_ret (RES.out _ rfl) rfl A0.out
set_option maxHeartbeats 4000000 in
theorem rword_number (w : World) (cs : Array Value) (k : Nat) (m : Bool) (x : ByteArray) (hs : x.size ≤ 100000) (h : RC cs k m true) :
    Calls Tryz.prog 133 #[.agg cs, .string ⟨#[110, 117, 109, 98, 101, 114]⟩, .string x] w (RwPost k 5 m (bs x) w) := by
  obtain ⟨w0, hw0⟩ : ∃ w0, w0 = (w.alloc (.cells cs 140)).alloc (.cells z17 140) := ⟨_, rfl⟩
  obtain ⟨r0, q0, b0, s0⟩ := rw_start w cs h w0 hw0
  obtain ⟨Z, hZ⟩ : ∃ Z, Z = numZ (bs x) := ⟨_, rfl⟩
  have NM := Lib.hid (fun w => rnum17_any x w (by unfold maxLen; omega))
  rw [← hZ] at NM
  have HZ := Lib.hid hZ
  have R0 := Lib.hid r0; have Q0 := Lib.hid q0; have B0 := Lib.hid b0
  have HW := Lib.hid hw0
  clear hw0 h r0 q0 b0 s0 hZ
  go_enter Tryz.func133, Tryz.ntmps133
  go_upto_region 1 with fail
  have W' := HW.out
  unfold z17 at W'
  rw [← W']
  clear W' HW
  go_wp2_with fail
  refine (NM.out w0).mono ?_
  rintro e w1 ⟨rfl, hd⟩
  have r0 : RB w1 w.heap.size k m true := R0.out.on (Dr.below hd)
  have q0 : w1.heap[w.heap.size + 1]? = some (.cells z17 140 (0, 0)) := ((Dr.below hd : Below w0.heap.size w0 w1).block _ (lt_of_block Q0.out)).trans Q0.out
  have b0 : Below w.heap.size w w1 := B0.out.trans ((Dr.below hd : Below w0.heap.size w0 w1).mono B0.out.size)
  obtain ⟨u, cu, fu⟩ := r0.cell (show 38 < 56 by omega)
  obtain ⟨r1, c1⟩ := r0.set 38 (u := .int .i64 Z) rfl (by omega) (by omega) (by omega) (by omega)
  obtain ⟨q1, b1⟩ := rw_set r0 q0 b0 38 (.int .i64 Z)
  have R1 := Lib.hid r1; have C1 := Lib.hid c1; have Q1 := Lib.hid q1; have B1 := Lib.hid b1
  clear hd r0 q0 b0 r1 q1 b1 c1 NM R0 Q0 B0
  go_upto_region 21 with fail
  obtain ⟨w2, hw2⟩ : ∃ w2, w2 = w1.setCell ⟨w.heap.size, 38, none⟩ (.int .i64 Z) := ⟨_, rfl⟩
  rw [← hw2] at R1 C1 Q1 B1 ⊢
  clear hw2 cu fu
  have c1 := C1.out
  obtain ⟨cs', rc, ld, st, rs, bb⟩ := rw_exit w w2 (R1.out) (Q1.out) (B1.out)
  have RCX := Lib.hid rc; have LD := Lib.hid ld; have ST := Lib.hid st; have RES := Lib.hid rs; have BB := Lib.hid bb
  clear rc ld st rs bb
  have POST : Hid (∀ er : Nat, er = numF 1 1000 (bs x) → RwPost k 5 m (bs x) w (.returned (.tuple #[.agg cs', .int .i64 (er : Int)])) (w2.setRow (w.heap.size + 1) cs')) := Lib.hid (fun er he => ⟨cs', by rw [he]; rfl, RCX.out, BB.out⟩)
  clear C1 R1 Q1 B1
  have NF : (Z = -1 ∧ numF 1 1000 (bs x) = 3) ∨ (∃ n : Nat, Z = (n : Int) ∧ numF 1 1000 (bs x) = if n < 1 ∨ 1000 < n then 2 else 0) := by
    have hz := HZ.out
    unfold numZ at hz; unfold numF
    cases hp : numP (bs x) with
    | none => rw [hp] at hz; exact .inl ⟨hz, rfl⟩
    | some n => rw [hp] at hz; exact .inr ⟨n, hz, rfl⟩
  rcases NF with ⟨rfl, hf⟩ | ⟨n, rfl, hf⟩
  · have A0 : Hid (RwPost k 5 m (bs x) w (.returned (.tuple #[.agg cs', .int .i64 3])) (w2.setRow (w.heap.size + 1) cs')) := Lib.hid (POST.out 3 hf.symm)
    clear hf POST HZ
    go_wp2_with (first
      | ((with_reducible refine wpList_load 140 rfl _ rfl ?_); refine ⟨_, _, rfl, LD.out, ?_⟩)
      | ((with_reducible refine wpList_store 140 rfl _ _ rfl ?_); refine ⟨_, _, _, rfl, rfl, ST.out, ?_⟩))
    exact bodyPost_ret (RES.out _ rfl) rfl A0.out
  · by_cases h1 : 1000 < n
    · have A0 : Hid (RwPost k 5 m (bs x) w (.returned (.tuple #[.agg cs', .int .i64 2])) (w2.setRow (w.heap.size + 1) cs')) := Lib.hid (POST.out 2 (by rw [hf, if_pos (.inr h1)]))
      clear hf POST HZ
      go_wp2_with (first
        | ((with_reducible refine wpList_load 140 rfl _ rfl ?_); refine ⟨_, _, rfl, LD.out, ?_⟩)
        | ((with_reducible refine wpList_store 140 rfl _ _ rfl ?_); refine ⟨_, _, _, rfl, rfl, ST.out, ?_⟩))
      exact bodyPost_ret (RES.out _ rfl) rfl A0.out
    · by_cases h2 : n < 1
      · have A0 : Hid (RwPost k 5 m (bs x) w (.returned (.tuple #[.agg cs', .int .i64 2])) (w2.setRow (w.heap.size + 1) cs')) := Lib.hid (POST.out 2 (by rw [hf, if_pos (.inl h2)]))
        clear hf POST HZ
        go_wp2_with (first
          | ((with_reducible refine wpList_load 140 rfl _ rfl ?_); refine ⟨_, _, rfl, LD.out, ?_⟩)
          | ((with_reducible refine wpList_store 140 rfl _ _ rfl ?_); refine ⟨_, _, _, rfl, rfl, ST.out, ?_⟩))
        exact bodyPost_ret (RES.out _ rfl) rfl A0.out
      · have A0 : Hid (RwPost k 5 m (bs x) w (.returned (.tuple #[.agg cs', .int .i64 0])) (w2.setRow (w.heap.size + 1) cs')) := Lib.hid (POST.out 0 (by rw [hf, if_neg (by omega)]))
        clear hf POST HZ
        go_wp2_with (first
          | ((with_reducible refine wpList_load 140 rfl _ rfl ?_); refine ⟨_, _, rfl, LD.out, ?_⟩)
          | ((with_reducible refine wpList_store 140 rfl _ _ rfl ?_); refine ⟨_, _, _, rfl, rfl, ST.out, ?_⟩))
        exact bodyPost_ret (RES.out _ rfl) rfl A0.out
set_option maxHeartbeats 4000000 in
theorem rword_mode (w : World) (cs : Array Value) (k : Nat) (m : Bool) (x : ByteArray) (hs : x.size ≤ 100000) (h : RC cs k m true) :
    Calls Tryz.prog 133 #[.agg cs, .string ⟨#[109, 111, 100, 101]⟩, .string x] w (RwPost k 3 m (bs x) w) := by
  obtain ⟨w0, hw0⟩ : ∃ w0, w0 = (w.alloc (.cells cs 140)).alloc (.cells z17 140) := ⟨_, rfl⟩
  obtain ⟨r0, q0, b0, s0⟩ := rw_start w cs h w0 hw0
  obtain ⟨u, cu, fu⟩ := r0.cell (show 35 < 56 by omega)
  obtain ⟨b, hb⟩ : ∃ b, b = decide (bs x = wMod) := ⟨_, rfl⟩
  obtain ⟨r1, c1⟩ := r0.setM b
  obtain ⟨q1, b1⟩ := rw_set r0 q0 b0 35 (.bool b)
  have R1 := Lib.hid r1; have C1 := Lib.hid c1; have Q1 := Lib.hid q1; have B1 := Lib.hid b1
  have POST : Hid (∀ w2 cs', RC cs' k b true → Below w.heap.size w w2 → ∀ er : Nat, er = (if bs x = wOpen ∨ bs x = wMod then 0 else 3) → RwPost k 3 m (bs x) w (.returned (.tuple #[.agg cs', .int .i64 (er : Int)])) w2) := Lib.hid (fun w2 cs' h1 h2 er he => ⟨cs', by rw [he]; rfl, by rw [if_pos rfl, ← hb]; exact h1, h2⟩)
  have HW := Lib.hid hw0
  clear hw0 h r0 q0 b0 s0 r1 c1 q1 b1
  go_enter Tryz.func133, Tryz.ntmps133
  go_upto_region 1 with fail
  have W' := HW.out
  unfold z17 at W'
  rw [← W']
  clear W' HW
  by_cases hm : x = (⟨#[109, 111, 100, 101, 114, 97, 116, 101, 100]⟩ : ByteArray)
  · have hb1 : b = true := by rw [hb, hm]; rfl
    have LAW : Hid (bs x = wMod) := Lib.hid (by rw [hm]; rfl)
    have PO := Lib.hid hm
    clear hb
    subst hb1
    subst hm
    go_upto_region 27 with fail
    obtain ⟨w2, hw2⟩ : ∃ w2, w2 = w0.setCell ⟨w.heap.size, 35, none⟩ (.bool true) := ⟨_, rfl⟩
    rw [← hw2] at R1 C1 Q1 B1 ⊢
    clear hw2 cu fu
    have c1 := C1.out
    obtain ⟨cs', rc, ld, st, rs, bb⟩ := rw_exit w w2 (R1.out) (Q1.out) (B1.out)
    have RCX := Lib.hid rc; have LD := Lib.hid ld; have ST := Lib.hid st; have RES := Lib.hid rs; have BB := Lib.hid bb
    clear rc ld st rs bb
    have A0 : Hid (RwPost k 3 m (bs (⟨#[109, 111, 100, 101, 114, 97, 116, 101, 100]⟩ : ByteArray)) w (.returned (.tuple #[.agg cs', .int .i64 0])) (w2.setRow (w.heap.size + 1) cs')) := Lib.hid (POST.out _ cs' RCX.out BB.out 0 (by rw [if_pos (.inr LAW.out)]))
    clear POST C1 R1 Q1 B1
    go_wp2_with (first
      | ((with_reducible refine wpList_load 140 rfl _ rfl ?_); refine ⟨_, _, rfl, LD.out, ?_⟩)
      | ((with_reducible refine wpList_store 140 rfl _ _ rfl ?_); refine ⟨_, _, _, rfl, rfl, ST.out, ?_⟩))
    exact bodyPost_ret (RES.out _ rfl) rfl A0.out
  · have hnm : bs x ≠ wMod := fun e => hm (str_eqb (e.trans (by rfl)))
    have q2 : (x.toList == [109, 111, 100, 101, 114, 97, 116, 101, 100]) = false := by
      rw [beq_eq_false_iff_ne]; intro e; apply hm; apply ByteArray.ext; apply Array.toList_inj.1; rw [← ByteArray.toList_eq]; exact e
    have hb1 : b = false := by rw [hb, decide_eq_false hnm]
    have HNM := Lib.hid hnm
    clear hb hnm hm
    subst hb1
    by_cases ho : x = ⟨#[111, 112, 101, 110]⟩
    · have LAW : Hid (bs x = wOpen) := Lib.hid (by rw [ho]; rfl)
      subst ho
      clear q2
      go_upto_region 27 with fail
      obtain ⟨w2, hw2⟩ : ∃ w2, w2 = w0.setCell ⟨w.heap.size, 35, none⟩ (.bool false) := ⟨_, rfl⟩
      rw [← hw2] at R1 C1 Q1 B1 ⊢
      clear hw2 cu fu
      have c1 := C1.out
      obtain ⟨cs', rc, ld, st, rs, bb⟩ := rw_exit w w2 (R1.out) (Q1.out) (B1.out)
      have RCX := Lib.hid rc; have LD := Lib.hid ld; have ST := Lib.hid st; have RES := Lib.hid rs; have BB := Lib.hid bb
      clear rc ld st rs bb
      have A0 : Hid (RwPost k 3 m (bs (⟨#[111, 112, 101, 110]⟩ : ByteArray)) w (.returned (.tuple #[.agg cs', .int .i64 0])) (w2.setRow (w.heap.size + 1) cs')) := Lib.hid (POST.out _ cs' RCX.out BB.out 0 (by rw [if_pos (.inl LAW.out)]))
      clear POST C1 R1 Q1 B1
      go_wp2_with (first
        | ((with_reducible refine wpList_load 140 rfl _ rfl ?_); refine ⟨_, _, rfl, LD.out, ?_⟩)
        | ((with_reducible refine wpList_store 140 rfl _ _ rfl ?_); refine ⟨_, _, _, rfl, rfl, ST.out, ?_⟩))
      exact bodyPost_ret (RES.out _ rfl) rfl A0.out
    · have hno : bs x ≠ wOpen := fun e => ho (str_eqb (e.trans (by rfl)))
      have q1 : (x.toList == [111, 112, 101, 110]) = false := by
        rw [beq_eq_false_iff_ne]; intro e; apply ho; apply ByteArray.ext; apply Array.toList_inj.1; rw [← ByteArray.toList_eq]; exact e
      have HNO := Lib.hid hno
      clear ho hno
      go_upto_region 27 with fail
      obtain ⟨w2, hw2⟩ : ∃ w2, w2 = w0.setCell ⟨w.heap.size, 35, none⟩ (.bool false) := ⟨_, rfl⟩
      rw [← hw2] at R1 C1 Q1 B1 ⊢
      clear hw2 cu fu
      have c1 := C1.out
      obtain ⟨cs', rc, ld, st, rs, bb⟩ := rw_exit w w2 (R1.out) (Q1.out) (B1.out)
      have RCX := Lib.hid rc; have LD := Lib.hid ld; have ST := Lib.hid st; have RES := Lib.hid rs; have BB := Lib.hid bb
      clear rc ld st rs bb
      have A0 : Hid (RwPost k 3 m (bs x) w (.returned (.tuple #[.agg cs', .int .i64 3])) (w2.setRow (w.heap.size + 1) cs')) := Lib.hid (POST.out _ cs' RCX.out BB.out 3 (by rw [if_neg (fun h => h.elim HNO.out HNM.out)]))
      clear POST C1 R1 Q1 B1
      go_wp2_with (first
        | ((with_reducible refine wpList_load 140 rfl _ rfl ?_); refine ⟨_, _, rfl, LD.out, ?_⟩)
        | ((with_reducible refine wpList_store 140 rfl _ _ rfl ?_); refine ⟨_, _, _, rfl, rfl, ST.out, ?_⟩))
      exact bodyPost_ret (RES.out _ rfl) rfl A0.out
theorem size_i11 : (Tryz.prog.info? 124).map (·.size) = some 32 := by kernel_rfl
theorem size_a32 : (Tryz.prog.info? 25).map (·.size) = some 32 := by kernel_rfl
theorem guard_a32 : Tryz.prog.eqGuardType Tryz.prog.depth 25 = false := by kernel_rfl
set_option maxHeartbeats 4000000 in
theorem rword_target (w : World) (cs : Array Value) (k : Nat) (m : Bool) (x : ByteArray) (hs : x.size ≤ 100000) (h : RC cs k m true) :
    Calls Tryz.prog 133 #[.agg cs, .string ⟨#[116, 97, 114, 103, 101, 116]⟩, .string x] w (RwPost k 0 m (bs x) w) := by
  obtain ⟨w0, hw0⟩ : ∃ w0, w0 = (w.alloc (.cells cs 140)).alloc (.cells z17 140) := ⟨_, rfl⟩
  obtain ⟨r0, q0, b0, s0⟩ := rw_start w cs h w0 hw0
  obtain ⟨zs, hzs⟩ : ∃ zs, zs = idA zero32 := ⟨_, rfl⟩
  have BZ : Hid (∀ w, (Instr.build 25 #[]).run Tryz.prog w = .ok (.agg zs) w) := Lib.hid (fun w => by rw [hzs]; kernel_rfl)
  have MP := Lib.hid (rmid11_any x w0 (by omega))
  have R0 := Lib.hid r0; have Q0 := Lib.hid q0; have B0 := Lib.hid b0
  have HW := Lib.hid hw0; have HZS := Lib.hid hzs
  clear hw0 h r0 q0 b0 s0 hzs
  go_enter Tryz.func133, Tryz.ntmps133
  go_upto_region 1 with fail
  have W' := HW.out
  unfold z17 at W'
  rw [← W']
  clear W' HW
  go_wp2_with fail
  refine MP.out.mono ?_
  rintro e w1 ⟨ao, er, hmid, hb1⟩
  have hpost : ∃ (ids : List Nat) (er' : Int), e = .returned (.tuple #[.agg (idA ids), .int .i64 ao, .int .i64 er']) ∧ IdOk ids ∧ ((midP (bs x) = none ∧ er' ≠ 0) ∨ (midP (bs x) = some ids ∧ er' = 0)) := by
    cases hp : midP (bs x) with
    | none => rw [hp] at hmid; exact ⟨zero32, er, hmid.1, zero_ok, .inl ⟨rfl, hmid.2⟩⟩
    | some i => rw [hp] at hmid; exact ⟨i, 0, hmid, mid_ok hp, .inr ⟨rfl, rfl⟩⟩
  clear hmid MP
  obtain ⟨ids, er', rfl, hok, hlaw⟩ := hpost
  obtain ⟨ic, hic⟩ : ∃ ic, ic = idA ids := ⟨_, rfl⟩
  have ICL : Hid (Cl 32 ic) := Lib.hid (by rw [hic]; exact cl_id hok)
  have EQ : Hid (∀ w, (Op.equal 25 (.agg ic) (.agg zs)).run Tryz.prog w = .ok (decide (ids = zero32)) w) := Lib.hid (fun w => by
    rw [hic, HZS.out]; exact eq_arr Tryz.underlying25 (by kernel_rfl) (by kernel_rfl) w hok.len hok.lt zero_ok.len zero_ok.lt)
  rw [← hic]
  have STN : Hid (∀ zz : Array Value, zz.size = 32 → (storeVar 124 ⟨w1.heap.size, 0, none⟩ (.agg ic)).run Tryz.prog (w1.alloc (.cells zz 124)) = .ok () (w1.alloc (.cells ic 124))) := Lib.hid (fun zz hz => run_storeVar_new w1 124 zz ic (by rw [ICL.out.1]; exact size_i11) (by rw [hz, ICL.out.1]) ICL.out.2)
  have hb3 : Below w0.heap.size w0 (w1.alloc (.cells ic 124)) := hb1.alloc hb1.size _
  have R3 := Lib.hid (R0.out.on hb3)
  have Q3 := Lib.hid ((hb3.block _ (lt_of_block Q0.out)).trans Q0.out)
  have B3 := Lib.hid (B0.out.trans (hb3.mono B0.out.size))
  have I3 := Lib.hid (heap_alloc_new w1 (.cells ic 124))
  have GW : Hid (w.heap.size < w1.heap.size) := Lib.hid (by have := R0.out.lt; have := hb1.size; omega)
  clear hic hb1 hb3 R0 Q0 B0
  have HLAW := Lib.hid hlaw; have HOK := Lib.hid hok
  clear hok hlaw
  go_upto_region 4 with ((with_reducible refine wpList_store 124 rfl _ _ rfl ?_); refine ⟨_, _, _, rfl, rfl, STN.out _ rfl, ?_⟩)
  obtain ⟨w3, hw3⟩ : ∃ w3, w3 = w1.alloc (.cells ic 124) := ⟨_, rfl⟩
  obtain ⟨g, hg⟩ : ∃ g, g = w1.heap.size := ⟨_, rfl⟩
  rw [← hw3] at R3 Q3 B3 I3 ⊢
  rw [← hg] at I3 GW ⊢
  clear hw3 hg STN
  rcases HLAW.out with ⟨hn, he⟩ | ⟨hn, rfl⟩
  · have q1 : (er' != 0) = true := by simpa using he
    obtain ⟨cs', rc, ld, st, rs, bb⟩ := rw_exit w w3 (R3.out) (Q3.out) (B3.out)
    have RCX := Lib.hid rc; have LD := Lib.hid ld; have ST := Lib.hid st; have RES := Lib.hid rs; have BB := Lib.hid bb
    clear rc ld st rs bb
    have A0 : Hid (RwPost k 0 m (bs x) w (.returned (.tuple #[.agg cs', .int .i64 3])) (w3.setRow (w.heap.size + 1) cs')) := Lib.hid ⟨cs', by show _ = Ending.returned (.tuple #[_, .int .i64 ((tgtF (bs x) : Nat) : Int)]); unfold tgtF; rw [hn]; rfl, RCX.out, BB.out⟩
    clear he hn HLAW R3 Q3 B3 I3 EQ
    go_wp2_with (first
      | ((with_reducible refine wpList_load 140 rfl _ rfl ?_); refine ⟨_, _, rfl, LD.out, ?_⟩)
      | ((with_reducible refine wpList_store 140 rfl _ _ rfl ?_); refine ⟨_, _, _, rfl, rfl, ST.out, ?_⟩))
    exact bodyPost_ret (RES.out _ rfl) rfl A0.out
  · have LDI := Lib.hid (run_load_cl w3 g 32 _ _ ic _ _ I3.out rfl Tryz.underlying124 size_i11 ICL.out.1)
    obtain ⟨st1, r4, f4, c4⟩ := R3.out.store 1 32 (by omega) 25 ICL.out size_a32
    have ST1 := Lib.hid st1
    have R4 := Lib.hid r4; have C4 := Lib.hid c4
    have Q4 := Lib.hid ((f4.other _ (lt_of_block Q3.out) (by omega)).trans Q3.out)
    have B4 := Lib.hid (B3.out.trans (f4.below B3.out.size (Nat.le_refl _)))
    have TG : Hid (tgtF (bs x) = if ids = zero32 then 1 else 0) := Lib.hid (by unfold tgtF; rw [hn])
    clear st1 r4 f4 c4 R3 Q3 B3 HLAW hn
    go_upto_region 7 with (first
      | ((with_reducible refine wpList_load 124 rfl _ rfl ?_); refine ⟨_, _, rfl, LDI.out, ?_⟩)
      | ((with_reducible refine wpList_store 25 rfl _ _ rfl ?_); refine ⟨_, _, _, rfl, rfl, ST1.out, ?_⟩))
    obtain ⟨w4, hw4⟩ : ∃ w4, w4 = w3.setCells w.heap.size 1 ic.toList := ⟨_, rfl⟩
    rw [← hw4] at R4 Q4 B4 C4 ⊢
    clear hw4 ST1 LDI I3
    have LD1 := Lib.hid (run_loadVar_cells w4 w.heap.size 1 25 ic _ Tryz.underlying25 rfl (by rw [ICL.out.1]; exact size_a32) C4.out)
    obtain ⟨cs', rc, ld, st, rs, bb⟩ := rw_exit w w4 (R4.out) (Q4.out) (B4.out)
    have RCX := Lib.hid rc; have LD := Lib.hid ld; have ST := Lib.hid st; have RES := Lib.hid rs; have BB := Lib.hid bb
    clear rc ld st rs bb
    obtain ⟨b, hb⟩ : ∃ b, b = decide (ids = zero32) := ⟨_, rfl⟩
    rw [← hb] at EQ
    clear R4 Q4 B4 C4
    cases b
    · have A0 : Hid (RwPost k 0 m (bs x) w (.returned (.tuple #[.agg cs', .int .i64 0])) (w4.setRow (w.heap.size + 1) cs')) := Lib.hid ⟨cs', by show _ = Ending.returned (.tuple #[_, .int .i64 ((tgtF (bs x) : Nat) : Int)]); rw [TG.out, if_neg (by simpa using hb)]; rfl, RCX.out, BB.out⟩
      clear hb TG
      go_wp2_with (first
        | ((with_reducible refine wpList_load 140 rfl _ rfl ?_); refine ⟨_, _, rfl, LD.out, ?_⟩)
        | ((with_reducible refine wpList_load 25 rfl _ rfl ?_); refine ⟨_, _, rfl, LD1.out, ?_⟩)
        | ((with_reducible refine wpList_build0 25 rfl rfl ?_); refine ⟨_, BZ.out _, ?_⟩)
        | ((with_reducible refine wpList_eql 25 rfl _ _ rfl guard_a32 ?_); refine ⟨_, _, _, rfl, rfl, EQ.out _, ?_⟩)
        | ((with_reducible refine wpList_store 140 rfl _ _ rfl ?_); refine ⟨_, _, _, rfl, rfl, ST.out, ?_⟩))
      exact bodyPost_ret (RES.out _ rfl) rfl A0.out
    · have A0 : Hid (RwPost k 0 m (bs x) w (.returned (.tuple #[.agg cs', .int .i64 1])) (w4.setRow (w.heap.size + 1) cs')) := Lib.hid ⟨cs', by show _ = Ending.returned (.tuple #[_, .int .i64 ((tgtF (bs x) : Nat) : Int)]); rw [TG.out, if_pos (by simpa using hb)]; rfl, RCX.out, BB.out⟩
      clear hb TG
      go_wp2_with (first
        | ((with_reducible refine wpList_load 140 rfl _ rfl ?_); refine ⟨_, _, rfl, LD.out, ?_⟩)
        | ((with_reducible refine wpList_load 25 rfl _ rfl ?_); refine ⟨_, _, rfl, LD1.out, ?_⟩)
        | ((with_reducible refine wpList_build0 25 rfl rfl ?_); refine ⟨_, BZ.out _, ?_⟩)
        | ((with_reducible refine wpList_eql 25 rfl _ _ rfl guard_a32 ?_); refine ⟨_, _, _, rfl, rfl, EQ.out _, ?_⟩)
        | ((with_reducible refine wpList_store 140 rfl _ _ rfl ?_); refine ⟨_, _, _, rfl, rfl, ST.out, ?_⟩))
      exact bodyPost_ret (RES.out _ rfl) rfl A0.out
end Go.Proofs.YtohmdledkhgdaaaGreatDoor
