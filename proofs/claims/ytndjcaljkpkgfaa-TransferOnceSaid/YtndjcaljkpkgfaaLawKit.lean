/- Small laws for the walks of the statements on receivers. -/
import Derived.Test.YtndjcaljkpkgfaaEqual
namespace Go.Proofs.Ytndjcaljkpkgfaa
open Go.RowKit Go.Maps
set_option linter.unusedVariables false

section
variable {P : Program} {md : Region.Mode} {ops : Array Oper} {Q : Exit → Act → World → Prop} {fuel i : Nat} {listed : Array Bool} {a : Act} {w w' : World} {o : Oper} {v : Value}
theorem any_take (ho : ops[i]? = some o) (hs : Region.noSelect ops = true) (hf : Region.free md ops listed i = true) (hr : (Region.ready md ops listed).contains i = true) (hw : Region.wanted o (yielded ops a.tmps) = true)
    (hQ : ∀ c a w, Q (.panic c) (a.put o.dst v) w → Q (.panic c) a w) (h : ∀ w, (execOp a.eval o).run P w = .ok (.value v) w)
    (hk : wpAny P md ops Q fuel (listed.setIfInBounds i true) (a.put o.dst v) w) : wpAny P md ops Q (fuel + 1) listed a w :=
  wpAny_take ho hs hf hr hQ (Or.inl ⟨hw, h⟩) hk
theorem any_skip (hr : Region.ready md ops listed = [i]) (ho : ops[i]? = some o) (hw : Region.wanted o (yielded ops a.tmps) = true) (h : (execOp a.eval o).run P w = .ok .skip w')
    (hk : wpAny P md ops Q fuel (listed.setIfInBounds i true) (a.put o.dst undef) w') : wpAny P md ops Q (fuel + 1) listed a w := by
  refine wpAny_ready hr (by simp) (AllReady.cons ho (fun K hK => ?_) AllReady.nil)
  rw [if_pos hw]
  unfold Oper.wp
  rw [h]
  exact hK _ _ hk
theorem any_new (hr : Region.ready md ops listed = [i]) (ho : ops[i]? = some o) (hw : Region.wanted o (yielded ops a.tmps) = true) (h : (execOp a.eval o).run P w = .ok (.value v) w')
    (hk : wpAny P md ops Q fuel (listed.setIfInBounds i true) (a.put o.dst v) w') : wpAny P md ops Q (fuel + 1) listed a w := by
  refine wpAny_ready hr (by simp) (AllReady.cons ho (fun K hK => ?_) AllReady.nil)
  rw [if_pos hw]
  unfold Oper.wp
  rw [h]
  exact hK _ _ hk
end

theorem exec_moveV {P : Program} {o : Oper} {a : Act} {w : World} {x : Operand} {v : Value} (ho : o.op = .move x) (hx : a.eval x = v) : (execOp a.eval o).run P w = .ok (.value v) w := by rw [exec_move ho, hx]

theorem wpList_loadG {P : Program} {ops : Array Oper} {rest : List Oper} {o : Oper} {a : Act} {w : World} {Q : Exit → Act → World → Prop} (ty : TypeId) (x : Operand) (ho : o.op = .load ty x) (hw : Region.wanted o (yielded ops a.tmps) = true) (h : ∃ ad v, a.eval x = .pointer (some ad) ∧ (loadVar ty ad).run P w = .ok v w ∧ wpList P ops Q rest (a.put o.dst v) w) : wpList P ops Q (o :: rest) a w := by
  obtain ⟨ad, v, h1, h2, h3⟩ := h
  refine wpList_step fun K hK => ?_
  rw [if_pos hw]
  unfold Oper.wp
  rw [exec_load ho h1 h2]
  exact hK _ _ h3

/-- What Equal answers, of receivers of one identity. -/
def eqF (n n' : Nat) (d d' : Bool) (xs xs' : List Nat) : Bool := decide (n = n' ∧ d = d' ∧ xs = xs')
theorem eqF_refl (n : Nat) (d : Bool) (xs : List Nat) : eqF n n d d xs xs = true := by simp [eqF]
theorem eqF_size {n n' : Nat} (h : n ≠ n') (d d' : Bool) (xs xs' : List Nat) : eqF n n' d d' xs xs' = false := by simp [eqF, h]
theorem eqF_text {xs xs' : List Nat} (h : xs ≠ xs') (n n' : Nat) (d d' : Bool) : eqF n n' d d' xs xs' = false := by simp [eqF, h]
theorem eqF_done (n : Nat) (d d' : Bool) (xs : List Nat) : eqF n n d d' xs xs = (d == d') := by unfold eqF; cases d <;> cases d' <;> simp
theorem equal_f (w : World) {B b : Nat} {l : List Nat} {n n' : Nat} {xs : List Nat} {d : Bool} {v : Value} {b' : Nat} {xs' : List Nat} {d' : Bool} {v' : Value} (h : Rc w B b l n xs d v) (h' : Rc w B b' l n' xs' d' v') (ha : Apart b b' v v') (hl : IdOk l) (hx : ∀ x ∈ xs, x < 256) (hx' : ∀ x ∈ xs', x < 256) (hlx : xs.length ≤ 65536) (hlx' : xs'.length ≤ 65536) :
    Calls Try.prog 16 #[.pointer (some ⟨b, 0, none⟩), .pointer (some ⟨b', 0, none⟩)] w fun e w' => e = .returned (.bool (eqF n n' d d' xs xs')) ∧ EqC w B b l n xs d v b' n' xs' d' v' w' := equal_any w h h' ha hl hx hx' hlx hlx'

theorem FrB.keep {w w' : World} {B b n : Nat} {l xs : List Nat} {d : Bool} {v : Value} (hf : FrB b v w w') (hr : Rc w B b l n xs d v) {k : Nat} {cs : Array Value} {T : TypeId} {fz : Nat × Nat} (hk : w.heap[k]? = some (.cells cs T fz)) (hT : T ≠ 5) (hne : k ≠ b) : w'.heap[k]? = some (.cells cs T fz) := by
  obtain ⟨ad, hr⟩ := hr
  exact hf.block hk hne (ownF_ne hr.row hk hT)
theorem EqC.keep {w w' : World} {B b : Nat} {l : List Nat} {n : Nat} {xs : List Nat} {d : Bool} {v : Value} {b' n' : Nat} {xs' : List Nat} {d' : Bool} {v' : Value} (h : EqC w B b l n xs d v b' n' xs' d' v' w') (hr : Rc w B b l n xs d v) (hr' : Rc w B b' l n' xs' d' v') {k : Nat} {cs : Array Value} {T : TypeId} {fz : Nat × Nat} (hk : w.heap[k]? = some (.cells cs T fz)) (hT : T ≠ 5) (hne : k ≠ b) (hne' : k ≠ b') : w'.heap[k]? = some (.cells cs T fz) := by
  obtain ⟨ad, hr⟩ := hr
  obtain ⟨ad', hr'⟩ := hr'
  exact (h.fr.other k (lt_of_block hk) hne hne' (ownF_ne hr.row hk hT) (ownF_ne hr'.row hk hT)).trans hk
theorem EqC.law {w0 w w' : World} {b : Nat} {l : List Nat} {n : Nat} {xs : List Nat} {d : Bool} {v : Value} {b' n' : Nat} {xs' : List Nat} {d' : Bool} {v' : Value} (h : EqC w w0.heap.size b l n xs d v b' n' xs' d' v' w') (hr : Rc w w0.heap.size b l n xs d v) (hr' : Rc w w0.heap.size b' l n' xs' d' v') (hb : Below w0.heap.size w0 w) (h1 : w0.heap.size ≤ b) (h2 : w0.heap.size ≤ b') : Below w0.heap.size w0 w' :=
  hb.trans ⟨h.fr.os, h.fr.tape, h.fr.output, h.fr.size, fun k hk => h.fr.other k (Nat.lt_of_lt_of_le hk hb.size) (by omega) (by omega) (fun e => by have := hr.own_ge k e; omega) (fun e => by have := hr'.own_ge k e; omega)⟩

theorem Rc.still {w w' : World} {B b n : Nat} {l : List Nat} {d : Bool} (h : Rc w B b l n [] d (.slice none 0 0)) (hb : ∀ cs T fz, w.heap[b]? = some (.cells cs T fz) → T ≠ 5 → w'.heap[b]? = some (.cells cs T fz)) : Rc w' B b l n [] d (.slice none 0 0) := by
  obtain ⟨ad, h⟩ := h
  exact ⟨ad, hb _ _ _ h.heap (by decide), h.addr, h.buf, by simp, .inl ⟨rfl, rfl⟩⟩
theorem Rc.setRow {w : World} {B b n : Nat} {l xs : List Nat} {d : Bool} {v : Value} (h : Rc w B b l n xs d v) {g : Nat} {cs : Array Value} {T : TypeId} {fz : Nat × Nat} (hk : w.heap[g]? = some (.cells cs T fz)) (hT : T ≠ 5) (hne : g ≠ b) (cs' : Array Value) : Rc (w.setRow g cs') B b l n xs d v := by
  obtain ⟨ad, h⟩ := h
  have hno := ownF_ne h.row hk hT
  refine ⟨ad, (setRow_other w g b cs' (fun e => hne e.symm)).trans h.heap, h.addr, h.buf, h.row.1, ?_⟩
  rcases h.row.2 with hh | ⟨g', cap, cur, fz', hv, hg, hh, r⟩
  · exact .inl hh
  · have ho : v.ownBlock = some g' := by rw [hv]; rfl
    exact .inr ⟨g', cap, cur, fz', hv, hg, (setRow_other w g g' cs' (fun e => hno (by rw [ho, e]))).trans hh, r⟩
theorem below_setRow {w0 w : World} {g : Nat} (hb : Below w0.heap.size w0 w) (hg : w0.heap.size ≤ g) (cs : Array Value) : Below w0.heap.size w0 (w.setRow g cs) :=
  ⟨hb.os, hb.tape, hb.output, by rw [size_setRow]; exact hb.size, fun k hk => (setRow_other w g k cs (by omega)).trans (hb.block k hk)⟩
theorem one41 (l : List Nat) (n : Int) (t : ByteArray) (d : Bool) : (rC l n t d).all (·.oneCell') = true := one_r l n t d
def zc41 : Array Value := (z32 ++ ([.int .i64 0, .string ⟨#[]⟩, .bool false] : List Value)).toArray
theorem zc41_size : zc41.size = 35 := rfl

end Go.Proofs.Ytndjcaljkpkgfaa
