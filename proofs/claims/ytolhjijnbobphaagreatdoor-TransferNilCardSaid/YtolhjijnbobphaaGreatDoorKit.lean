/- Small helpers on worlds for the walks of this seat: what an owned row and a box of one cell do to each other. -/
import Derived.WalkKit
import Derived.WalkSpells
import Derived.WalkLawsBesides
import Derived.Deep.AppendLies
import Derived.Lib.Hide
import Derived.Maps.Own
namespace Go.Proofs.YtolhjijnbobphaaGreatDoor
open Go.RowKit
set_option linter.unusedVariables false
set_option maxRecDepth 100000

/-- A byte as a value. -/
def U (n : Nat) : Value := .int .u8 n

/-- A row of one element type is not a block of another type. -/
theorem own_ne {w : World} {base e size : Nat} {v : Value} {n : Nat} {xs : List Value} {b t : Nat} {cs : Array Value} {fz : Nat × Nat}
    (hown : w.ownsRow base e size v n xs) (hT : w.heap[b]? = some (.cells cs t fz)) (hne : t ≠ e) : v.ownBlock ≠ some b := by
  intro h
  rcases hown.2 with ⟨rfl, _⟩ | ⟨g, cap, cur, rfl, _, hg, _⟩
  · simp [Value.ownBlock] at h
  · simp [Value.ownBlock] at h
    subst h
    rw [hg] at hT
    simp at hT
    exact hne hT.2.1.symm

theorem own_kept_block {w w' : World} {row : Option Nat} {b : Nat} {o : Obj} (hg : w.grownBy w' row) (hb : w.heap[b]? = some o) (hne : row ≠ some b) : w'.heap[b]? = some o :=
  (hg.block b (lt_of_block hb) (fun h => hne h.symm)).trans hb

/-- Maps stay as they are. -/
def KM (w w' : World) : Prop := ∀ (k : Nat) (es : Array MapEntry) (c : Nat), w.heap[k]? = some (.map es c) → w'.heap[k]? = some (.map es c)
theorem KM.refl (w : World) : KM w w := fun _ _ _ h => h
theorem KM.trans {a b c : World} (h : KM a b) (h' : KM b c) : KM a c := fun k es cl hk => h' k es cl (h k es cl hk)
theorem KM.drew {a b : World} (h : KM a b) : KM a b.drew := h
theorem KM.setCell {w : World} {b t : Nat} {cs : Array Value} {fz : Nat × Nat} (hb : w.heap[b]? = some (.cells cs t fz)) (o : Nat) (u : Value) : KM w (w.setCell ⟨b, o, none⟩ u) := by
  intro k es c hk
  have hne : k ≠ b := fun e => by rw [e, hb] at hk; simp at hk
  rw [Below.heap_setCell _ _ _ _ hne]
  exact hk
theorem KM.alloc (w : World) (o : Obj) : KM w (w.alloc o) := fun k es c hk => (Below.heap_alloc w o k (lt_of_block hk)).trans hk
theorem KM.owns {H : Type} {w w' : World} (h : KM w w') {P : Program} {k : TypeId} {R : Value → Option (DataW H × List MemPlace)} {b n : Nat} {D : DataW H} (ho : w.ownsMap P k R b n D) : w'.ownsMap P k R b n D := by
  obtain ⟨es, c, hb, r⟩ := ho
  exact ⟨es, c, h b es c hb, r⟩

/-- What a step that appends to a row in a box leaves of other blocks. -/
structure Frame1 (B Bt : Nat) (v : Value) (w w' : World) : Prop where
  below : Below B w w'
  other : ∀ k, k < w.heap.size → k ≠ Bt → v.ownBlock ≠ some k → w'.heap[k]? = w.heap[k]?

theorem Frame1.km {B Bt t e base size n : Nat} {v : Value} {xs : List Value} {w w' : World} {cs : Array Value} {fz : Nat × Nat} (h : Frame1 B Bt v w w') (hT : w.heap[Bt]? = some (.cells cs t fz)) (hown : w.ownsRow base e size v n xs) : KM w w' := by
  intro k es c hk
  refine (h.other k (lt_of_block hk) (fun e => by rw [e, hT] at hk; simp at hk) ?_).trans hk
  intro e'
  rcases hown.2 with ⟨rfl, _⟩ | ⟨g, cap, cur, rfl, _, hg, _⟩
  · simp [Value.ownBlock] at e'
  · simp [Value.ownBlock] at e'
    subst e'
    rw [hg] at hk
    simp at hk

theorem alloc_block {w : World} {o : Obj} {b : Nat} {x : Obj} (h : w.heap[b]? = some x) : (w.alloc o).heap[b]? = some x :=
  (Below.heap_alloc w o b (lt_of_block h)).trans h


/-- Behind 'x = append(x, y)' where x lies in a box: what the box and the row are now, and that nothing else has turned. -/
theorem app_close {w wA w1 : World} {base Bt e t : Nat} {v : Value} {xs : List Value} {ys : List Value} {gg cap n m : Nat}
    (hown1 : w1.ownsRow base e 1 (.slice (some ⟨gg, 0, none⟩) (n + m) cap) (n + m) (xs ++ ys)) (hgrow : wA.grownBy w1 v.ownBlock) (hA : Below w.heap.size w wA)
    (hT1 : w1.heap[Bt]? = some (.cells #[v] t (0, 0))) (hte : t ≠ e) (hBt : base ≤ Bt) (hbase : base ≤ w.heap.size) (hv : w.ownsRow base e 1 v n xs) :
    (∃ v', (w1.setCell ⟨Bt, 0, none⟩ (.slice (some ⟨gg, 0, none⟩) (n + m) cap)).heap[Bt]? = some (.cells #[v'] t (0, 0)) ∧
      (w1.setCell ⟨Bt, 0, none⟩ (.slice (some ⟨gg, 0, none⟩) (n + m) cap)).ownsRow base e 1 v' (n + m) (xs ++ ys)) ∧
    Frame1 base Bt v w (w1.setCell ⟨Bt, 0, none⟩ (.slice (some ⟨gg, 0, none⟩) (n + m) cap)) := by
  refine ⟨⟨_, one_setCell hT1, ownsRow_setCell_other hown1 (own_ne hown1 hT1 hte) _⟩, ?_, ?_⟩
  · refine Below.setCell ?_ hBt _
    refine Below.grown (hA.mono hbase) hgrow (Nat.le_trans hbase hA.size) ?_
    intro k hk
    exact (hv.lt k hk).1
  · intro k hk h1 h2
    rw [Below.heap_setCell _ _ _ _ h1, hgrow.block k (Nat.lt_of_lt_of_le hk hA.size) (fun h => h2 h.symm), hA.block k hk]

end Go.Proofs.YtolhjijnbobphaaGreatDoor
