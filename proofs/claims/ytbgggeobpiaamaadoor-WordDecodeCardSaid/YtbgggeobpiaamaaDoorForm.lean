/- The forms. -/
import Derived.Test.YtbgggeobpiaamaaDoorQ
import Derived.Test.YtbgggeobpiaamaaDoorEncE
import Derived.Maps.Own
import Derived.Maps.OwnOps
import Derived.Laws.IdiomRangeMap
import Derived.WideMake
namespace Go.Proofs.YtbgggeobpiaamaaDoor
open Go.RowKit Go.Maps
set_option linter.unusedVariables false
set_option maxRecDepth 100000

def lB : ByteArray := ⟨#[66]⟩
def lQ : ByteArray := ⟨#[81]⟩
def aB : Array Value := #[.string ⟨#[66]⟩, .func (.func 43) #[] #[], .func (.func 45) #[] #[]]
def aQ : Array Value := #[.string ⟨#[81]⟩, .func (.func 47) #[] #[], .func (.func 48) #[] #[]]
/-- The entries of the forms. -/
def fEs : Array MapEntry := #[⟨.int .i64 0, .agg aB, 0⟩, ⟨.int .i64 1, .agg aQ, 1⟩]

theorem set_last (w : World) (o o' : Obj) : ({ w.alloc o with heap := (w.alloc o).heap.setIfInBounds w.heap.size o' } : World) = w.alloc o' := by
  have hp : ∀ (h : Array Obj) (x y : Obj), (h.push x).setIfInBounds h.size y = h.push y := by
    intro h x y
    apply Array.toList_inj.1
    simp
  show ({ w.alloc o with heap := (w.heap.push o).setIfInBounds w.heap.size o' } : World) = _
  rw [hp]
  rfl
theorem run_ins (w : World) (es : Array MapEntry) (cl : Nat) (n : Int) (v : Value) (hf : Instr.findNow (.int .i64) (.int .i64 n) es.toList 0 = some none) :
    (Instr.mapUpdate 48 (.map (some w.heap.size)) (.int .i64 n) v).run Tryd.prog (w.alloc (.map es cl)) = .ok () (w.alloc (.map (es.push ⟨.int .i64 n, v, cl⟩) (cl + 1))) := by
  have hb : (w.alloc (.map es cl)).heap[w.heap.size]? = some (.map es cl) := heap_alloc_new w _
  have hc : (Instr.checkKey false 10000 3 (.int .i64 n)).run Tryd.prog (w.alloc (.map es cl)) = .ok () (w.alloc (.map es cl)) := MapKept.run_checkKey (k := .int .i64 n) Tryd.underlying3 (by simp [MapKept.IsKey]) false 9999
  simp [Instr.mapUpdate, run_underlying Tryd.underlying48, MapKept.run_getObj_map hb, hc, MapKept.run_findKey Tryd.underlying3 hf, MapKept.run_setObj_map _ hb, Result.andThen]
  exact set_last w _ _

theorem forms_any (w : World) : Calls Tryd.prog 27 #[] w fun e w' => e = .returned (.map (some w.heap.size)) ∧ w.alloc (.map fEs 2) = w' := by
  have hmm := @run_makeMap Tryd.prog
  have h1 := run_ins w #[] 0 0 (.agg aB) rfl
  have h2 := run_ins w #[⟨.int .i64 0, .agg aB, 0⟩] 1 1 (.agg aQ) rfl
  unfold aB at h1 h2
  unfold aQ at h2
  simp only [List.push_toArray, List.nil_append, List.cons_append, Nat.zero_add] at h1 h2
  go_enter Tryd.func27, Tryd.ntmps27
  go_wp2_with fail
  go_ret
  exact ⟨rfl, rfl⟩

theorem look_form (w : World) (b : Nat) (hb : w.heap[b]? = some (.map fEs 2)) (n : Int) (v : Value) (i : Nat) (hf : Instr.findNow (.int .i64) (.int .i64 n) fEs.toList 0 = some (some (i, v))) :
    (Instr.lookup 48 (.map (some b)) (.int .i64 n) true).run Tryd.prog w = .ok (.tuple #[v, .bool true]) w := by
  have hc : (Instr.checkKey fEs.isEmpty 10000 3 (.int .i64 n)).run Tryd.prog w = .ok () w := MapKept.run_checkKey (k := .int .i64 n) Tryd.underlying3 (by simp [MapKept.IsKey]) _ 9999
  simp [Instr.lookup, run_underlying Tryd.underlying48, MapKept.run_getObj_map hb, hc, MapKept.run_findKey Tryd.underlying3 hf, Result.andThen]
theorem zero_form (w : World) : (zeroValue 46).run Tryd.prog w = .ok (.agg #[.string ⟨#[]⟩, .nilFunc, .nilFunc]) w := by kernel_rfl
theorem look_none (w : World) (b : Nat) (hb : w.heap[b]? = some (.map fEs 2)) (n : Int) (h0 : n ≠ 0) (h1 : n ≠ 1) :
    (Instr.lookup 48 (.map (some b)) (.int .i64 n) true).run Tryd.prog w = .ok (.tuple #[.agg #[.string ⟨#[]⟩, .nilFunc, .nilFunc], .bool false]) w := by
  have hc : (Instr.checkKey fEs.isEmpty 10000 3 (.int .i64 n)).run Tryd.prog w = .ok () w := MapKept.run_checkKey (k := .int .i64 n) Tryd.underlying3 (by simp [MapKept.IsKey]) _ 9999
  have hf : Instr.findNow (.int .i64) (.int .i64 n) fEs.toList 0 = some none := by simp [fEs, Instr.findNow, Instr.sameNow]; rw [int_ne h0, int_ne h1]
  simp [Instr.lookup, run_underlying Tryd.underlying48, MapKept.run_getObj_map hb, hc, MapKept.run_findKey Tryd.underlying3 hf, Result.andThen]

theorem form1_any (s : ByteArray) (w : World) (hs : s.size ≤ 131072) (ht : Tab w) :
    Calls Tryd.prog 43 #[.string s] w fun e w' => e = .returned (.tuple #[.string (strN (encF (bs s))), .int .i64 0]) ∧ Below w.heap.size w w' := by
  obtain ⟨W, cap, hcv, hrd, hb0, hz⟩ := bytes_new s w
  have C := encodeE_any W (some ⟨w.heap.size, 0, none⟩) cap (bs s) (by rw [bs_length]; exact hs) hrd (ht.below hb0 ht.size)
  rw [bs_length] at C
  have C1 := Lib.hid C; have B0 := Lib.hid hb0
  clear C hb0 hrd hz ht
  go_enter Tryd.func43, Tryd.ntmps43
  go_wp2_with (go_at_call 44; refine C1.out.mono ?_; rintro e w1 ⟨rfl, hb1⟩)
  go_ret2
  exact ⟨rfl, B0.out.trans (hb1.mono B0.out.size)⟩

theorem form2_any (s : ByteArray) (w : World) (hs : s.size ≤ 174764) (ht : Tab w) :
    Calls Tryd.prog 45 #[.string s] w fun e w' => e = .returned (.tuple #[.string (strN (decF (bs s)).1), .int .i64 ((decF (bs s)).2.2 : Int)]) ∧ Below w.heap.size w w' := by
  have C1 := Lib.hid (decode_short s w hs ht)
  obtain ⟨r, hr⟩ : ∃ r, r = decF (bs s) := ⟨_, rfl⟩
  rw [← hr] at C1 ⊢
  clear hr ht
  go_enter Tryd.func45, Tryd.ntmps45
  go_wp2_with fail
  refine C1.out.mono ?_
  rintro e w1 ⟨v, rfl, hown, hb⟩
  have hcv := own_conv (P := Tryd.prog) 43 9 Tryd.underlying43 Tryd.underlying5 Tryd.underlying9 hown
  have HB := Lib.hid hb
  clear hown hb C1
  go_wp2_with fail
  go_ret2
  exact ⟨rfl, HB.out⟩
end Go.Proofs.YtbgggeobpiaamaaDoor
