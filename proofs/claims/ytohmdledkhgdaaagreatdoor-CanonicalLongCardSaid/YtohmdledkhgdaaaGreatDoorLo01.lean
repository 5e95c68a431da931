/- Small helpers on worlds for the walks of this seat: what an owned row and a box of one cell do to each other. -/
import Derived.WalkKit
import Derived.WalkSpells
import Derived.WalkLawsBesides
import Derived.Deep.AppendLies
import Derived.Lib.Hide
import Derived.Maps.Own
import Derived.OrdersHeld
import Derived.Test.YtohmdledkhgdaaaGreatDoorProg
import Derived.Lib.FrozenHead
import Derived.BigQuiet
import Derived.Deep.QuietTactic
import Derived.Deep.RegionLaw
import Derived.Deep.RegionHeld3
import Derived.KernelRfl
namespace Go.Proofs.YtohmdledkhgdaaaGreatDoor
open Go.RowKit
set_option linter.unusedVariables false
/-- A byte as a value. -/
def U (n : Nat) : Value := .int .u8 n
/-- A row of one element type is not a block of another type. -/
theorem own_ne {w : World} {base e size : Nat} {v : Value} {n : Nat} {xs : List Value} {b t : Nat} {cs : Array Value} {fz : Nat × Nat}
    (hown : w.ownsRow base e size v n xs) (hT : w.heap[b]? = some (.cells cs t fz)) (hne : t ≠ e) : v.ownBlock ≠ some b := by
  intro h
  rcases hown.2 with ⟨rfl, _⟩ | ⟨g, cap, cur, rfl, _, hg, _⟩
  · simp [Value.ownBlock] at h
  · simp [Value.ownBlock] at h
    subst h
    rw [hg] at hT
    simp at hT
    exact hne hT.2.1.symm
theorem own_kept_block {w w' : World} {row : Option Nat} {b : Nat} {o : Obj} (hg : w.grownBy w' row) (hb : w.heap[b]? = some o) (hne : row ≠ some b) : w'.heap[b]? = some o :=
  (hg.block b (lt_of_block hb) (fun h => hne h.symm)).trans hb
/-- Maps stay as they are. -/
def KM (w w' : World) : Prop := ∀ (k : Nat) (es : Array MapEntry) (c : Nat), w.heap[k]? = some (.map es c) → w'.heap[k]? = some (.map es c)
theorem KM.refl (w : World) : KM w w := fun _ _ _ h => h
theorem KM.trans {a b c : World} (h : KM a b) (h' : KM b c) : KM a c := fun k es cl hk => h' k es cl (h k es cl hk)
theorem KM.drew {a b : World} (h : KM a b) : KM a b.drew := h
theorem KM.setCell {w : World} {b t : Nat} {cs : Array Value} {fz : Nat × Nat} (hb : w.heap[b]? = some (.cells cs t fz)) (o : Nat) (u : Value) : KM w (w.setCell ⟨b, o, none⟩ u) := by
  intro k es c hk
  have hne : k ≠ b := fun e => by rw [e, hb] at hk; simp at hk
  rw [Below.heap_setCell _ _ _ _ hne]
  exact hk
theorem KM.alloc (w : World) (o : Obj) : KM w (w.alloc o) := fun k es c hk => (Below.heap_alloc w o k (lt_of_block hk)).trans hk
theorem KM.owns {H : Type} {w w' : World} (h : KM w w') {P : Program} {k : TypeId} {R : Value → Option (DataW H × List MemPlace)} {b n : Nat} {D : DataW H} (ho : w.ownsMap P k R b n D) : w'.ownsMap P k R b n D := by
  obtain ⟨es, c, hb, r⟩ := ho
  exact ⟨es, c, h b es c hb, r⟩
/-- What a step that appends to a row in a box leaves of other blocks. -/
structure Frame1 (B Bt : Nat) (v : Value) (w w' : World) : Prop where
  below : Below B w w'
  other : ∀ k, k < w.heap.size → k ≠ Bt → v.ownBlock ≠ some k → w'.heap[k]? = w.heap[k]?
theorem Frame1.km {B Bt t e base size n : Nat} {v : Value} {xs : List Value} {w w' : World} {cs : Array Value} {fz : Nat × Nat} (h : Frame1 B Bt v w w') (hT : w.heap[Bt]? = some (.cells cs t fz)) (hown : w.ownsRow base e size v n xs) : KM w w' := by
  intro k es c hk
  refine (h.other k (lt_of_block hk) (fun e => by rw [e, hT] at hk; simp at hk) ?_).trans hk
  intro e'
  rcases hown.2 with ⟨rfl, _⟩ | ⟨g, cap, cur, rfl, _, hg, _⟩
  · simp [Value.ownBlock] at e'
  · simp [Value.ownBlock] at e'
    subst e'
    rw [hg] at hk
    simp at hk
theorem alloc_block {w : World} {o : Obj} {b : Nat} {x : Obj} (h : w.heap[b]? = some x) : (w.alloc o).heap[b]? = some x :=
  (Below.heap_alloc w o b (lt_of_block h)).trans h
/-- Behind 'x = append(x, y)' where x lies in a box: what the box and the row are now, and that nothing else has turned. -/
theorem app_close {w wA w1 : World} {base Bt e t : Nat} {v : Value} {xs : List Value} {ys : List Value} {gg cap n m : Nat}
    (hown1 : w1.ownsRow base e 1 (.slice (some ⟨gg, 0, none⟩) (n + m) cap) (n + m) (xs ++ ys)) (hgrow : wA.grownBy w1 v.ownBlock) (hA : Below w.heap.size w wA)
    (hT1 : w1.heap[Bt]? = some (.cells #[v] t (0, 0))) (hte : t ≠ e) (hBt : base ≤ Bt) (hbase : base ≤ w.heap.size) (hv : w.ownsRow base e 1 v n xs) :
    (∃ v', (w1.setCell ⟨Bt, 0, none⟩ (.slice (some ⟨gg, 0, none⟩) (n + m) cap)).heap[Bt]? = some (.cells #[v'] t (0, 0)) ∧
      (w1.setCell ⟨Bt, 0, none⟩ (.slice (some ⟨gg, 0, none⟩) (n + m) cap)).ownsRow base e 1 v' (n + m) (xs ++ ys)) ∧
    Frame1 base Bt v w (w1.setCell ⟨Bt, 0, none⟩ (.slice (some ⟨gg, 0, none⟩) (n + m) cap)) := by
  refine ⟨⟨_, one_setCell hT1, ownsRow_setCell_other hown1 (own_ne hown1 hT1 hte) _⟩, ?_, ?_⟩
  · refine Below.setCell ?_ hBt _
    refine Below.grown (hA.mono hbase) hgrow (Nat.le_trans hbase hA.size) ?_
    intro k hk
    exact (hv.lt k hk).1
  · intro k hk h1 h2
    rw [Below.heap_setCell _ _ _ _ h1, hgrow.block k (Nat.lt_of_lt_of_le hk hA.size) (fun h => h2 h.symm), hA.block k hk]
theorem takeV {P : Program} {md : Region.Mode} {ops : Array Oper} {Q : Exit → Act → World → Prop} {S : World → Prop} {fuel : Nat} {listed : Array Bool} {a : Act} {w : World} (i : Nat) (v : Value) {oi : Oper} (hi : ops[i]? = some oi)
    (he : ∀ w', S w' → (execOp a.eval oi).run P w' = .ok (.value v) w') (hS : S w) (h : wpAnyH P md ops Q S fuel (listed.setIfInBounds i true) (a.put oi.dst v) w)
    (hw : Region.wanted oi (yielded ops a.tmps) = true := by kernel_rfl) (hs : Region.noSelect ops = true := by kernel_rfl) (hf : Region.free md ops listed i = true := by kernel_rfl) (hr : (Region.ready md ops listed).contains i = true := by kernel_rfl)
    (hQ : ∀ c a w, Q (.panic c) (a.put oi.dst v) w → Q (.panic c) a w := by exact fun _ _ _ h => h) : wpAnyH P md ops Q S (fuel + 1) listed a w :=
  wpAnyH_take hi hs hf hr hQ (Or.inl ⟨hw, he⟩) hS h
theorem takeU {P : Program} {md : Region.Mode} {ops : Array Oper} {Q : Exit → Act → World → Prop} {S : World → Prop} {fuel : Nat} {listed : Array Bool} {a : Act} {w : World} (i : Nat) {oi : Oper} (hi : ops[i]? = some oi)
    (hS : S w) (h : wpAnyH P md ops Q S fuel (listed.setIfInBounds i true) (a.put oi.dst undef) w)
    (hw : Region.wanted oi (yielded ops a.tmps) = false := by kernel_rfl) (hs : Region.noSelect ops = true := by kernel_rfl) (hf : Region.free md ops listed i = true := by kernel_rfl) (hr : (Region.ready md ops listed).contains i = true := by kernel_rfl)
    (hQ : ∀ c a w, Q (.panic c) (a.put oi.dst undef) w → Q (.panic c) a w := by exact fun _ _ _ h => h) : wpAnyH P md ops Q S (fuel + 1) listed a w :=
  wpAnyH_take hi hs hf hr hQ (Or.inr ⟨hw, rfl⟩) hS h
end Go.Proofs.YtohmdledkhgdaaaGreatDoor
/- Plain functions on lists for base64: what the code computes. No program in sight. -/
namespace Go.Proofs.YtohmdledkhgdaaaGreatDoor
set_option linter.unusedVariables false
/-- What the inner loop of 'add' does: groups of tt bits go out while there are enough bits. -/
def drain (f : Nat → Nat) (tt : Nat) : Nat → Nat → Nat → List Nat → Nat × Nat × List Nat
  | 0, b, c, xs => (b, c, xs)
  | k + 1, b, c, xs => if c < tt then (b, c, xs) else drain f tt k (b % 2 ^ (c - tt)) (c - tt) (xs ++ [f (b / 2 ^ (c - tt))])
theorem drain_succ (f : Nat → Nat) (tt k b c : Nat) (xs : List Nat) (h : ¬ c < tt) : drain f tt (k + 1) b c xs = drain f tt k (b % 2 ^ (c - tt)) (c - tt) (xs ++ [f (b / 2 ^ (c - tt))]) := by rw [drain, if_neg h]
theorem drain_inv (f : Nat → Nat) (tt : Nat) (ht : 1 ≤ tt) : ∀ (k b c : Nat) (xs : List Nat), b < 2 ^ c → c ≤ k →
    (drain f tt k b c xs).2.1 < tt ∧ (drain f tt k b c xs).1 < 2 ^ (drain f tt k b c xs).2.1 ∧ (drain f tt k b c xs).2.2.length * tt + (drain f tt k b c xs).2.1 = xs.length * tt + c := by
  intro k
  induction k with
  | zero => intro b c xs hb hc; obtain rfl : c = 0 := by omega
            simp [drain]; exact ⟨by omega, by simpa using hb⟩
  | succ k ih =>
    intro b c xs hb hc
    by_cases h : c < tt
    · rw [drain, if_pos h]; exact ⟨h, hb, rfl⟩
    · rw [drain_succ _ _ _ _ _ _ h]
      have := ih (b % 2 ^ (c - tt)) (c - tt) (xs ++ [f (b / 2 ^ (c - tt))]) (Nat.mod_lt _ (Nat.pow_pos (by omega))) (by omega)
      refine ⟨this.1, this.2.1, ?_⟩
      rw [this.2.2, List.length_append, Nat.add_mul]
      simp
      omega
/-- The letters of the alphabet. -/
def alph : List Nat := [65, 66, 67, 68, 69, 70, 71, 72, 73, 74, 75, 76, 77, 78, 79, 80, 81, 82, 83, 84, 85, 86, 87, 88, 89, 90, 97, 98, 99, 100, 101, 102, 103, 104, 105, 106, 107, 108, 109, 110, 111, 112, 113, 114, 115, 116, 117, 118, 119, 120, 121, 122, 48, 49, 50, 51, 52, 53, 54, 55, 56, 57, 43, 47]
def al (g : Nat) : Nat := alph.getD g 0
theorem al_lt (g : Nat) : al g < 123 := by
  by_cases h : g < 64
  · exact (by decide : ∀ g, g < 64 → al g < 123) g h
  · unfold al; rw [List.getD_eq_getElem?_getD, List.getElem?_eq_none (by simp [alph]; omega)]; simp
/-- One byte comes in. -/
def encStep (s : Nat × Nat × List Nat) (g : Nat) : Nat × Nat × List Nat := drain al 6 16 (s.1 * 2 ^ 8 + g) (s.2.1 + 8) s.2.2
def encSt (l : List Nat) : Nat × Nat × List Nat := l.foldl encStep (0, 0, [])
theorem encSt_snoc (l : List Nat) (g : Nat) : encSt (l ++ [g]) = encStep (encSt l) g := by simp [encSt]
theorem group_lt {bits count fr g : Nat} (hbits : bits < 2 ^ count) (hg : g < 2 ^ fr) : bits * 2 ^ fr + g < 2 ^ (count + fr) := by
  rw [Nat.pow_add]
  have h1 : (bits + 1) * 2 ^ fr ≤ 2 ^ count * 2 ^ fr := Nat.mul_le_mul_right _ (by omega)
  rw [Nat.add_mul] at h1
  generalize 2 ^ count * 2 ^ fr = a at *
  generalize bits * 2 ^ fr = b at *
  omega
theorem encStep_inv (s : Nat × Nat × List Nat) (g : Nat) (hg : g < 256) (h1 : s.2.1 < 6) (h2 : s.1 < 2 ^ s.2.1) :
    (encStep s g).2.1 < 6 ∧ (encStep s g).1 < 2 ^ (encStep s g).2.1 ∧ (encStep s g).2.2.length * 6 + (encStep s g).2.1 = s.2.2.length * 6 + s.2.1 + 8 := by
  have := drain_inv al 6 (by omega) 16 (s.1 * 2 ^ 8 + g) (s.2.1 + 8) s.2.2 (group_lt h2 (by omega)) (by omega)
  exact ⟨this.1, this.2.1, by rw [Nat.add_assoc]; exact this.2.2⟩
theorem encSt_inv (l : List Nat) (hl : ∀ x ∈ l, x < 256) : (encSt l).2.1 < 6 ∧ (encSt l).1 < 2 ^ (encSt l).2.1 ∧ (encSt l).2.2.length * 6 + (encSt l).2.1 = l.length * 8 := by
  have key : ∀ (r : List Nat) (s : Nat × Nat × List Nat), (∀ x ∈ r, x < 256) → s.2.1 < 6 → s.1 < 2 ^ s.2.1 →
      (r.foldl encStep s).2.1 < 6 ∧ (r.foldl encStep s).1 < 2 ^ (r.foldl encStep s).2.1 ∧ (r.foldl encStep s).2.2.length * 6 + (r.foldl encStep s).2.1 = s.2.2.length * 6 + s.2.1 + r.length * 8 := by
    intro r
    induction r with
    | nil => intro s _ h1 h2; exact ⟨h1, h2, by simp⟩
    | cons x r ih =>
      intro s hx h1 h2
      have a := encStep_inv s x (hx x (by simp)) h1 h2
      have b := ih (encStep s x) (fun y hy => hx y (by simp [hy])) a.1 a.2.1
      rw [List.foldl_cons]
      refine ⟨b.1, b.2.1, ?_⟩
      rw [b.2.2, a.2.2]; simp; omega
  have := key l (0, 0, []) hl (by simp) (by simp)
  simpa [encSt] using this
/-- What is left over, and the padding. -/
def encTail (s : Nat × Nat × List Nat) : List Nat := if 0 < s.2.1 then s.2.2 ++ [al (s.1 * 2 ^ (6 - s.2.1))] else s.2.2
def pad4 (xs : List Nat) : List Nat := xs ++ List.replicate ((4 - xs.length % 4) % 4) 61
/-- The encoding. -/
def encF (l : List Nat) : List Nat := pad4 (encTail (encSt l))
theorem pad4_done (xs : List Nat) (h : xs.length % 4 = 0) : pad4 xs = xs := by simp [pad4, h]
theorem pad4_more (xs : List Nat) (h : ¬ xs.length % 4 = 0) : pad4 (xs ++ [61]) = pad4 xs := by
  unfold pad4
  rw [List.append_assoc, List.length_append]
  congr 1
  have : (4 - xs.length % 4) % 4 = (4 - (xs.length + 1) % 4) % 4 + 1 := by omega
  simp only [List.length_singleton]
  rw [this, List.replicate_succ]
  rfl
theorem pad4_len (xs : List Nat) : (pad4 xs).length = (xs.length + 3) / 4 * 4 := by simp [pad4]; omega
theorem encTail_len (b c : Nat) (xs : List Nat) (n : Nat) (h : xs.length * 6 + c = n * 8) : (encTail (b, c, xs)).length ≤ 2 * n + 1 := by
  unfold encTail
  by_cases hc : 0 < (b, c, xs).2.1
  · rw [if_pos hc]; simp; omega
  · rw [if_neg hc]; simp; omega
theorem encF_of {l : List Nat} {b c : Nat} {xs : List Nat} (h : encSt l = (b, c, xs)) : pad4 (encTail (b, c, xs)) = encF l := by rw [encF, h]
/-- A list of numbers as a string. -/
def strN (l : List Nat) : ByteArray := ⟨(l.map UInt8.ofNat).toArray⟩
theorem strN_size (l : List Nat) : (strN l).size = l.length := by simp [strN, ByteArray.size]
/-- A string's bytes as numbers. -/
def bs (s : ByteArray) : List Nat := s.data.toList.map UInt8.toNat
theorem bs_length (s : ByteArray) : (bs s).length = s.size := by unfold bs; rw [List.length_map]; rfl
theorem bs_at (s : ByteArray) (i : Nat) (h : i < s.size) : (bs s)[i]'(by rw [bs_length]; exact h) = s[i].toNat := by unfold bs; rw [List.getElem_map]; rfl
theorem bs_getD (s : ByteArray) (i : Nat) (h : i < s.size) : (bs s).getD i 0 = s[i].toNat := by
  rw [List.getD_eq_getElem?_getD, List.getElem?_eq_getElem (by rw [bs_length]; exact h), Option.getD_some, bs_at s i h]
theorem bs_lt (s : ByteArray) : ∀ x ∈ bs s, x < 256 := by
  intro x hx
  obtain ⟨u, _, rfl⟩ := List.mem_map.1 hx
  exact u.toNat_lt
theorem strN_bs (s : ByteArray) : strN (bs s) = s := by
  unfold strN bs
  rw [List.map_map]
  have : (UInt8.ofNat ∘ UInt8.toNat) = id := by funext u; exact UInt8.ofNat_toNat
  rw [this, List.map_id]
theorem bs_strN (l : List Nat) (h : ∀ x ∈ l, x < 256) : bs (strN l) = l := by
  unfold strN bs
  simp only [List.map_map]
  have : l.map (UInt8.toNat ∘ UInt8.ofNat) = l.map id := by
    apply List.map_congr_left
    intro x hx
    exact Nat.mod_eq_of_lt (h x hx)
  rw [this, List.map_id]
/-- The value of a letter. -/
def vOf (c : Nat) : Option Nat := (List.range 64).find? (fun i => al i == c)
theorem vOf_lt {c v : Nat} (h : vOf c = some v) : v < 64 := by
  have := List.mem_of_find?_eq_some h
  simpa using this
theorem vOf_al {c v : Nat} (h : vOf c = some v) : al v = c := by
  have := List.find?_some h
  simpa using this
/-- How many characters precede the padding in place. -/
def dataF (l : List Nat) : Nat :=
  if l.length = 0 ∨ l.length % 4 ≠ 0 ∨ l.getD (l.length - 1) 0 ≠ 61 then l.length else if l.getD (l.length - 2) 0 = 61 then l.length - 2 else l.length - 1
theorem dataF_le (l : List Nat) : dataF l ≤ l.length := by
  unfold dataF; split
  · exact Nat.le_refl _
  · split <;> omega
/-- One value of six bits comes in. -/
def decStep (s : Nat × Nat × List Nat) (g : Nat) : Nat × Nat × List Nat := drain id 8 16 (s.1 * 2 ^ 6 + g) (s.2.1 + 6) s.2.2
def decSt (l : List Nat) : Nat × Nat × List Nat := l.foldl decStep (0, 0, [])
theorem decSt_snoc (l : List Nat) (g : Nat) : decSt (l ++ [g]) = decStep (decSt l) g := by simp [decSt]
theorem decStep_inv (s : Nat × Nat × List Nat) (g : Nat) (hg : g < 64) (h1 : s.2.1 < 8) (h2 : s.1 < 2 ^ s.2.1) :
    (decStep s g).2.1 < 8 ∧ (decStep s g).1 < 2 ^ (decStep s g).2.1 ∧ (decStep s g).2.2.length * 8 + (decStep s g).2.1 = s.2.2.length * 8 + s.2.1 + 6 := by
  have := drain_inv id 8 (by omega) 16 (s.1 * 2 ^ 6 + g) (s.2.1 + 6) s.2.2 (group_lt h2 (by omega)) (by omega)
  exact ⟨this.1, this.2.1, by rw [Nat.add_assoc]; exact this.2.2⟩
theorem decSt_inv (l : List Nat) (hl : ∀ x ∈ l, x < 64) : (decSt l).2.1 < 8 ∧ (decSt l).1 < 2 ^ (decSt l).2.1 ∧ (decSt l).2.2.length * 8 + (decSt l).2.1 = l.length * 6 := by
  have key : ∀ (r : List Nat) (s : Nat × Nat × List Nat), (∀ x ∈ r, x < 64) → s.2.1 < 8 → s.1 < 2 ^ s.2.1 →
      (r.foldl decStep s).2.1 < 8 ∧ (r.foldl decStep s).1 < 2 ^ (r.foldl decStep s).2.1 ∧ (r.foldl decStep s).2.2.length * 8 + (r.foldl decStep s).2.1 = s.2.2.length * 8 + s.2.1 + r.length * 6 := by
    intro r
    induction r with
    | nil => intro s _ h1 h2; exact ⟨h1, h2, by simp⟩
    | cons x r ih =>
      intro s hx h1 h2
      have a := decStep_inv s x (hx x (by simp)) h1 h2
      have b := ih (decStep s x) (fun y hy => hx y (by simp [hy])) a.1 a.2.1
      rw [List.foldl_cons]
      refine ⟨b.1, b.2.1, ?_⟩
      rw [b.2.2, a.2.2]; simp; omega
  have := key l (0, 0, []) hl (by simp) (by simp)
  simpa [decSt] using this
/-- The values of the first j characters, if all of them are letters. -/
def vals (l : List Nat) : Option (List Nat) := l.mapM vOf
theorem vals_nil : vals [] = some [] := rfl
theorem vals_snoc {l vs : List Nat} {c v : Nat} (h : vals l = some vs) (hc : vOf c = some v) : vals (l ++ [c]) = some (vs ++ [v]) := by
  simp [vals, List.mapM_append] at *
  simp [h, hc]
theorem vals_lt : ∀ {l vs : List Nat}, vals l = some vs → (∀ x ∈ vs, x < 64) ∧ vs.length = l.length := by
  intro l
  induction l with
  | nil => intro vs h; simp [vals] at h; subst h; simp
  | cons c l ih =>
    intro vs h
    simp only [vals, List.mapM_cons, Option.bind_eq_bind, Option.bind_eq_some_iff, Option.pure_def, Option.some.injEq] at h
    obtain ⟨v, hv, r, hr, rfl⟩ := h
    have := ih hr
    exact ⟨by intro x hx; rcases List.mem_cons.1 hx with rfl | hx; exact vOf_lt hv; exact this.1 x hx, by simp [this.2]⟩
/-- The first character among the first n that is no letter. -/
def badAt (l : List Nat) (n : Nat) : Option Nat := (List.range n).find? (fun i => (vOf (l.getD i 0)).isNone)
/-- What Decode answers: bytes, offset, error. -/
def decF (l : List Nat) : List Nat × Nat × Nat :=
  if 174764 < l.length then ([], 0, 5) else
  match vals (l.take (dataF l)) with
  | none => ([], (badAt l (dataF l)).getD 0, 6)
  | some vs => if l.length % 4 ≠ 0 then ([], l.length, 4) else if (decSt vs).1 ≠ 0 then ([], dataF l - 1, 3) else ((decSt vs).2.2, 0, 0)
theorem vals_prefix_none {l : List Nat} {j n : Nat} (h : vals (l.take (j + 1)) = none) (hn : j < n) : vals (l.take n) = none := by
  have e : l.take n = l.take (j + 1) ++ (l.take n).drop (j + 1) := by
    have h1 := (List.take_append_drop (j + 1) (l.take n)).symm
    rw [List.take_take, Nat.min_eq_left (by omega)] at h1
    exact h1
  rw [e]
  simp only [vals, List.mapM_append] at *
  simp [h]
theorem vals_get {l vs : List Nat} {i : Nat} (h : vals l = some vs) (hi : i < l.length) : (vOf l[i]).isSome = true := by
  induction l generalizing vs i with
  | nil => simp at hi
  | cons c l ih =>
    simp only [vals, List.mapM_cons, Option.bind_eq_bind, Option.bind_eq_some_iff, Option.pure_def, Option.some.injEq] at h
    obtain ⟨v, hv, r, hr, rfl⟩ := h
    cases i with
    | zero => simp [hv]
    | succ i => simpa using ih hr (by simpa using hi)
theorem decF_bad {l vs : List Nat} {j : Nat} (h : vals (l.take j) = some vs) (hj : j < dataF l) (hjl : j < l.length) (hc : vOf l[j] = none) (hlen : l.length ≤ 174764) : decF l = ([], j, 6) := by
  have h1 : vals (l.take (j + 1)) = none := by
    rw [List.take_succ_eq_append_getElem hjl]
    simp only [vals, List.mapM_append] at *
    simp [h, hc]
  have h2 : badAt l (dataF l) = some j := by
    unfold badAt
    rw [List.find?_eq_some_iff_getElem]
    refine ⟨?_, j, by simpa using hj, by simp, ?_⟩
    · rw [List.getD_eq_getElem?_getD, List.getElem?_eq_getElem hjl]; simp [hc]
    · intro i hi
      have hil : i < (l.take j).length := by simp; omega
      have := vals_get h hil
      simp only [List.getElem_range]
      rw [List.getElem_take] at this
      rw [List.getD_eq_getElem?_getD, List.getElem?_eq_getElem (by omega)]
      simp only [Option.getD_some]
      cases hv : vOf l[i]
      · rw [hv] at this; simp at this
      · simp
  unfold decF
  rw [if_neg (by omega), vals_prefix_none h1 hj, h2]
  rfl
theorem decF_good {l vs : List Nat} (h : vals (l.take (dataF l)) = some vs) (hlen : l.length ≤ 174764) :
    decF l = if l.length % 4 ≠ 0 then ([], l.length, 4) else if (decSt vs).1 ≠ 0 then ([], dataF l - 1, 3) else ((decSt vs).2.2, 0, 0) := by
  unfold decF
  rw [if_neg (by omega), h]
end Go.Proofs.YtohmdledkhgdaaaGreatDoor
/- strings.Builder at any place of a block: what its methods do. The buffer's head may be frozen (behind String). -/
namespace Go.Proofs.YtohmdledkhgdaaaGreatDoor
open Go.RowKit
set_option linter.unusedVariables false
theorem strCells_bs (s : ByteArray) : Lib.strCells s = (bs s).map U := by
  unfold Lib.strCells bs
  rw [List.map_map]
  rfl
theorem infoB5 : (Tryz.prog.info? 5).map (fun i => (i.zero, i.size, i.bytes)) = some (some (.int .u8 0), 1, 1) := by kernel_rfl
/-- What a row with a frozen head and a block of another type are to each other. -/
theorem ownF_ne {w : World} {base e size : Nat} {v : Value} {n : Nat} {xs : List Value} {b t : Nat} {cs : Array Value} {fz : Nat × Nat}
    (hown : w.ownsRowF base e size v n xs) (hT : w.heap[b]? = some (.cells cs t fz)) (hne : t ≠ e) : v.ownBlock ≠ some b := by
  intro h
  rcases hown.2 with ⟨rfl, _⟩ | ⟨g, cap, cur, fz', rfl, _, hg, _⟩
  · simp [Value.ownBlock] at h
  · simp [Value.ownBlock] at h
    subst h
    rw [hg] at hT
    simp at hT
    exact hne hT.2.1.symm
theorem ownF_shape {w : World} {base e size n : Nat} {v : Value} {xs : List Value} (h : w.ownsRowF base e size v n xs) : ∃ a cap, v = .slice a n cap := by
  rcases h.2 with ⟨rfl, rfl⟩ | ⟨g, cap, cur, fz, rfl, _⟩
  · exact ⟨none, 0, rfl⟩
  · exact ⟨some ⟨g, 0, none⟩, cap, rfl⟩
/-- Where the row lies behind an append: where it lay, or in a new block. -/
def Lies (w : World) (v v' : Value) : Prop := v'.ownBlock = v.ownBlock ∨ v'.ownBlock = some w.heap.size
theorem append_str {P : Program} (w : World) (base : Nat) (t u ty e : TypeId) (i : TypeInfo) (ht : P.underlying t = some (.slice e)) (hu : P.underlying u = some .string) (hi : P.info? e = some i) (hz : i.zero = some (.int .u8 0))
    (hsize : i.size = 1) (hby : i.bytes = 1) (v : Value) (n : Nat) (xs : List Value) (hown : w.ownsRowF base e 1 v n xs) (s : ByteArray) (hbytes : n + s.size ≤ 140737488355328) (hbase : base ≤ w.heap.size) :
    ∃ v' w', (Builtin.append_ #[t, u] ty #[v, .string s]).run P w = .ok v' w' ∧ w'.ownsRowF base e 1 v' (n + s.size) (xs ++ Lib.strCells s) ∧ w.grownBy w' v.ownBlock ∧ Lies w v v' := by
  obtain ⟨v', w', hr, h2, h3, h4⟩ := Lib.run_append_own_stringF (P := P) w base t u ty e i ht hu hi hz hsize hby v n xs hown s (by unfold maxLen; omega) hbytes hbase
  refine ⟨v', w', hr, h2, h3, ?_⟩
  rcases hown.2 with ⟨rfl, rfl⟩ | ⟨g, cap, cur, fz, rfl, hbg, hg, hfz, hnc, hcm, hcs, htake⟩
  · by_cases hm : s.size = 0
    · left
      rw [(h4.2 ⟨rfl, hm⟩)]
    · right
      have hr2 := run_append_nil_string (P := P) w t u ty e i (.int .u8 0) ht hu hi hz s (by omega) (by omega) (by rw [hby]; omega)
      rw [hr] at hr2
      cases hr2
      rfl
  · by_cases hroom : n + s.size ≤ cap
    · left
      have hr2 := Lib.run_append_room_stringF (P := P) w t u ty e i ht hu hi hsize g n cap cur fz hg (by simpa using hfz) s hroom (by omega)
      rw [hr] at hr2
      cases hr2
      rfl
    · right
      have hr2 := Lib.run_append_grow_string (P := P) w t u ty e i (.int .u8 0) ht hu hi hz ⟨g, 0, none⟩ n cap xs (by rw [hsize]; exact hown.1) (hown.cells (g := g) rfl) s (by omega) (by omega) (by rw [hby]; exact growslice_fits (by omega) (by omega))
      rw [hr] at hr2
      cases hr2
      rfl
/-- A builder in block b from cell o on: block b whole, its buffer, its bytes. -/
structure Bd (w : World) (B b o : Nat) (T : TypeId) (cs : Array Value) (v : Value) (xs : List Nat) : Prop where
  heap : w.heap[b]? = some (.cells cs T (0, 0))
  addr : cs[o]? = some (.pointer none) ∨ cs[o]? = some (.pointer (some ⟨b, o, none⟩))
  buf : cs[o + 1]? = some v
  row : w.ownsRowF B 5 1 v xs.length (xs.map U)
theorem cellB {w : World} {b : Nat} {cs : Array Value} {T : TypeId} {fr : Nat × Nat} (hb : w.heap[b]? = some (.cells cs T fr)) (j : Nat) : w.cell? ⟨b, j, none⟩ = cs[j]? := by simp [World.cell?, hb]
theorem freeB {w : World} {b : Nat} {cs : Array Value} {T : TypeId} (hb : w.heap[b]? = some (.cells cs T (0, 0))) (j : Nat) : w.frozen? ⟨b, j, none⟩ = false := by simp [World.frozen?, hb]
theorem shapeB {w : World} {b : Nat} {cs : Array Value} {T : TypeId} {fr : Nat × Nat} (hb : w.heap[b]? = some (.cells cs T fr)) : w.shape? b = some (T, cs.size) := by simp [World.shape?, hb]
theorem setB {w : World} {b : Nat} {cs : Array Value} {T : TypeId} {fr : Nat × Nat} (hb : w.heap[b]? = some (.cells cs T fr)) (j : Nat) (u : Value) : (w.setCell ⟨b, j, none⟩ u).heap[b]? = some (.cells (cs.setIfInBounds j u) T fr) := by
  simp [World.setCell, Array.getElem?_modify, hb]
theorem otherB (w : World) (b j k : Nat) (u : Value) (h : k ≠ b) : (w.setCell ⟨b, j, none⟩ u).heap[k]? = w.heap[k]? := Below.heap_setCell _ _ _ _ h
theorem ownF_set {w : World} {base e size n : Nat} {v : Value} {xs : List Value} (h : w.ownsRowF base e size v n xs) {b : Nat} (hne : v.ownBlock ≠ some b) (j : Nat) (u : Value) : (w.setCell ⟨b, j, none⟩ u).ownsRowF base e size v n xs := by
  refine ⟨h.1, ?_⟩
  rcases h.2 with h | ⟨g, cap, cur, fz, rfl, hg, hh, r⟩
  · exact .inl h
  · exact .inr ⟨g, cap, cur, fz, rfl, hg, (otherB w b j g u (fun e => hne (by simp [Value.ownBlock, e]))).trans hh, r⟩
theorem infoBuilder : ∃ j, Tryz.prog.info? 80 = some j ∧ j.size ≠ 0 := by
  have h : (Tryz.prog.info? 80).map (·.size) = some 2 := by kernel_rfl
  obtain ⟨j, hj, hs⟩ := Option.map_eq_some_iff.1 h
  exact ⟨j, hj, by rw [hs]; decide⟩
theorem noEscape (w : World) (x : Value) : (callFunc 126 #[x]).run Tryz.prog w = .ok (.value x) w := by
  rw [run_callFunc_extern Tryz.func126 (by kernel_rfl) (by kernel_rfl) (by kernel_rfl) (e := Extern.AbiNoEscape.same) (by kernel_rfl), Lib.run_noEscape]
  rfl
/-- copyCheck of a builder that has not been written yet. -/
theorem copy_new (w : World) (b o : Nat) (T : TypeId) (cs : Array Value) (hb : w.heap[b]? = some (.cells cs T (0, 0))) (ha : cs[o]? = some (.pointer none))
    (hl : liesAt Tryz.prog Tryz.prog.depth T (cs.size / Tryz.prog.cellsOf T) o 80 1 = true) :
    Calls Tryz.prog 82 #[.pointer (some ⟨b, o, none⟩)] w fun e w' => e = .returned (.tuple #[]) ∧ w' = w.setCell ⟨b, o, none⟩ (.pointer (some ⟨b, o, none⟩)) := by
  have hc := cellB hb o
  rw [ha] at hc
  have hf := freeB hb o
  have ho : o < cs.size := (Array.getElem?_eq_some_iff.1 ha).1
  obtain ⟨j, hj, hjs⟩ := infoBuilder
  have r1 := fun w (h : w.shape? b = some (T, cs.size)) => Lib.run_to_unsafe (P := Tryz.prog) w (src := 78) (dst := 184) ⟨b, o, none⟩ Tryz.underlying78 Tryz.underlying184 hj hjs h ho
  have r2 := fun w (h : w.shape? b = some (T, cs.size)) => Lib.run_from_unsafe (P := Tryz.prog) w (src := 184) (dst := 78) ⟨b, o, none⟩ Tryz.underlying184 Tryz.underlying78 hj h hl
  have q1 := r1 w (shapeB hb)
  have q2 := r2 w (shapeB hb)
  have e1 := noEscape
  clear r1 r2 hb ha hl hjs
  go_enter Tryz.func82, Tryz.ntmps82
  go_wp2
  go_end0
  exact ⟨rfl, rfl⟩
/-- copyCheck of a builder that has been written. -/
theorem copy_old (w : World) (b o : Nat) (T : TypeId) (cs : Array Value) (hb : w.heap[b]? = some (.cells cs T (0, 0))) (ha : cs[o]? = some (.pointer (some ⟨b, o, none⟩))) :
    Calls Tryz.prog 82 #[.pointer (some ⟨b, o, none⟩)] w fun e w' => e = .returned (.tuple #[]) ∧ w = w' := by
  have hc := cellB hb o
  rw [ha] at hc
  obtain ⟨j, hj, hjs⟩ := infoBuilder
  have r1 := fun w => Lib.run_neq_ptr_same (P := Tryz.prog) w (tp := 78) ⟨b, o, none⟩ Tryz.underlying78 hj
  clear hb ha hjs
  go_enter Tryz.func82, Tryz.ntmps82
  go_wp2
  go_end0
  exact ⟨rfl, rfl⟩
theorem wpList_append_strF {P : Program} {w : World} {ops : Array Oper} {rest : List Oper} {o : Oper} {a : Act} {Q : Exit → Act → World → Prop} (hgd : o.guard = none) (sl x : Operand) (t u : TypeId)
    (ho : o.op = .call { callee := .builtin .append, args := #[sl, x], argTypes := #[t, u] })
    (base : Nat) (e : TypeId) (i : TypeInfo) (ht : P.underlying t = some (.slice e)) (hu : P.underlying u = some .string) (hi : P.info? e = some i) (hz : i.zero = some (.int .u8 0))
    (hsize : i.size = 1) (hby : i.bytes = 1)
    (v : Value) (n : Nat) (xs : List Value) (hs : a.eval sl = v) (hown : w.ownsRowF base e 1 v n xs) (s : ByteArray) (hx : a.eval x = .string s) (hbytes : n + s.size ≤ 140737488355328) (hbase : base ≤ w.heap.size)
    (h : ∀ v' w', w'.ownsRowF base e 1 v' (n + s.size) (xs ++ Lib.strCells s) → w.grownBy w' v.ownBlock → Lies w v v' → wpList P ops Q rest (a.put o.dst v') w') : wpList P ops Q (o :: rest) a w := by
  refine wpList_plain hgd fun K hK => ?_
  obtain ⟨v', w', hr, h2, h3, h4⟩ := append_str (P := P) w base t u o.type e i ht hu hi hz hsize hby v n xs hown s hbytes hbase
  unfold Oper.wp execOp
  simp only [ho, resolve, invoke, builtin, Sem.run_bind, Sem.run_pure, Result.andThen_ok, List.map_toArray, List.map_cons, List.map_nil, hs, hx, hr]
  exact hK _ _ (h v' w' h2 h3 h4)
/-- What a writing method leaves of other blocks. -/
structure FrB (b : Nat) (v : Value) (w w' : World) : Prop where
  os : w'.os = w.os
  tape : w'.tape = w.tape
  output : w'.output = w.output
  size : w.heap.size ≤ w'.heap.size
  other : ∀ k, k < w.heap.size → k ≠ b → v.ownBlock ≠ some k → w'.heap[k]? = w.heap[k]?
theorem FrB.below {b B : Nat} {v : Value} {w w' : World} (h : FrB b v w w') (hB : B ≤ w.heap.size) (hb : B ≤ b) (hv : ∀ k, v.ownBlock = some k → B ≤ k) : Below B w w' :=
  ⟨h.os, h.tape, h.output, h.size, fun k hk => h.other k (by omega) (by omega) (fun e => by have := hv k e; omega)⟩
/-- A builder behind a write. -/
def BdPost (w : World) (B b o : Nat) (T : TypeId) (cs : Array Value) (v : Value) (xs : List Nat) (w' : World) : Prop :=
  ∃ cs' v', Bd w' B b o T cs' v' xs ∧ cs'.size = cs.size ∧ (∀ j, j ≠ o → j ≠ o + 1 → cs'[j]? = cs[j]?) ∧ (v'.ownBlock = v.ownBlock ∨ ∃ g, v'.ownBlock = some g ∧ w.heap.size ≤ g) ∧ FrB b v w w'
/-- The close of a writing method: block b's cell o holds the builder's own address, cell o + 1 the new slice. -/
theorem bd_close {w w0 w1 : World} {B b o T : Nat} {cs : Array Value} {v v' : Value} {ys : List Nat} {n : Nat} (hT : T ≠ 5) (hB : B ≤ w.heap.size) (hb : w.heap[b]? = some (.cells cs T (0, 0))) (ho : o + 1 < cs.size)
    (hb0 : w0.heap[b]? = some (.cells (cs.setIfInBounds o (.pointer (some ⟨b, o, none⟩))) T (0, 0))) (hne : v.ownBlock ≠ some b)
    (hw0 : w0.os = w.os ∧ w0.tape = w.tape ∧ w0.output = w.output ∧ w.heap.size ≤ w0.heap.size ∧ ∀ k, k < w.heap.size → k ≠ b → w0.heap[k]? = w.heap[k]?)
    (hown : w1.ownsRowF B 5 1 v' n (ys.map U)) (hn : n = ys.length) (hg : w0.grownBy w1 v.ownBlock) (hl : Lies w0 v v') :
    BdPost w B b o T cs v ys (w1.setCell ⟨b, o + 1, none⟩ v') := by
  subst hn
  have hlt0 : b < w0.heap.size := lt_of_block hb0
  have hb1 : w1.heap[b]? = some (.cells (cs.setIfInBounds o (.pointer (some ⟨b, o, none⟩))) T (0, 0)) := (hg.block b hlt0 (fun e => hne e.symm)).trans hb0
  have hne' : v'.ownBlock ≠ some b := ownF_ne hown hb1 hT
  refine ⟨_, v', ⟨setB hb1 _ _, .inr ?_, ?_, ownF_set hown hne' _ _⟩, by simp, ?_, ?_, ?_⟩
  · rw [Array.getElem?_setIfInBounds_ne (by omega), Array.getElem?_setIfInBounds_self, if_pos (by omega)]
  · rw [Array.getElem?_setIfInBounds_self, if_pos (by simpa using ho)]
  · intro j h1 h2
    rw [Array.getElem?_setIfInBounds_ne (by omega), Array.getElem?_setIfInBounds_ne (by omega)]
  · rcases hl with h | h
    · exact .inl h
    · exact .inr ⟨_, h, hw0.2.2.2.1⟩
  · refine ⟨hg.os.trans hw0.1, hg.tape.trans hw0.2.1, hg.output.trans hw0.2.2.1, ?_, ?_⟩
    · have := hg.size
      have := hw0.2.2.2.1
      simp [World.setCell]
      omega
    · intro k hk h1 h2
      rw [otherB _ _ _ _ _ h1, hg.block k (Nat.lt_of_lt_of_le hk hw0.2.2.2.1) (fun e => h2 e.symm), hw0.2.2.2.2 k hk h1]
/-- What copyCheck leaves. -/
structure Copied (w w0 : World) (b o : Nat) (T : TypeId) (cs : Array Value) : Prop where
  heap : w0.heap[b]? = some (.cells (cs.setIfInBounds o (.pointer (some ⟨b, o, none⟩))) T (0, 0))
  same : w0.os = w.os ∧ w0.tape = w.tape ∧ w0.output = w.output ∧ w.heap.size ≤ w0.heap.size ∧ ∀ k, k < w.heap.size → k ≠ b → w0.heap[k]? = w.heap[k]?
theorem set_self {cs : Array Value} {o : Nat} {x : Value} (h : cs[o]? = some x) : cs.setIfInBounds o x = cs := by
  obtain ⟨ho, hx⟩ := Array.getElem?_eq_some_iff.1 h
  apply Array.ext
  · simp
  · intro i h1 h2
    rw [Array.getElem_setIfInBounds (by simpa using h1)]
    split
    · rename_i e; subst e; exact hx.symm
    · rfl
theorem copy_any (w : World) (B b o : Nat) (T : TypeId) (cs : Array Value) (v : Value) (xs : List Nat) (h : Bd w B b o T cs v xs) (hT : T ≠ 5)
    (hl : liesAt Tryz.prog Tryz.prog.depth T (cs.size / Tryz.prog.cellsOf T) o 80 1 = true) :
    ∃ w0, Copied w w0 b o T cs ∧ w0.ownsRowF B 5 1 v xs.length (xs.map U) ∧ Calls Tryz.prog 82 #[.pointer (some ⟨b, o, none⟩)] w fun e w' => e = .returned (.tuple #[]) ∧ w0 = w' := by
  obtain ⟨hb, ha, hbuf, hrow⟩ := h
  have hne := ownF_ne hrow hb hT
  rcases ha with ha | ha
  · exact ⟨_, ⟨setB hb o _, rfl, rfl, rfl, by simp [World.setCell], fun k _ hk => otherB _ _ _ _ _ hk⟩, ownF_set hrow hne o _, (copy_new w b o T cs hb ha hl).mono fun e w' ⟨h1, h2⟩ => ⟨h1, h2.symm⟩⟩
  · exact ⟨w, ⟨by rw [set_self ha]; exact hb, rfl, rfl, rfl, Nat.le_refl _, fun k _ _ => rfl⟩, hrow, copy_old w b o T cs hb ha⟩
set_option maxHeartbeats 400000 in
theorem writeString_any (w : World) (B b o : Nat) (T : TypeId) (cs : Array Value) (v : Value) (xs : List Nat) (s : ByteArray) (h : Bd w B b o T cs v xs) (hT : T ≠ 5) (hBw : B ≤ w.heap.size)
    (hl : liesAt Tryz.prog Tryz.prog.depth T (cs.size / Tryz.prog.cellsOf T) o 80 1 = true) (hlen : xs.length + s.size ≤ 140737488355328) :
    Calls Tryz.prog 41 #[.pointer (some ⟨b, o, none⟩), .string s] w fun e w' => e = .returned (.tuple #[.int .i64 (s.size : Int), .nilIface]) ∧ BdPost w B b o T cs v (xs ++ bs s) w' := by
  obtain ⟨i0, hi0, hz0, hz1, hz2⟩ := info_parts infoB5
  obtain ⟨w0, hcp, hrow0, hcall⟩ := copy_any w B b o T cs v xs h hT hl
  obtain ⟨hb, ha, hbuf, hrow⟩ := h
  have ho : o + 1 < cs.size := (Array.getElem?_eq_some_iff.1 hbuf).1
  have hne := ownF_ne hrow hb hT
  have fin := fun (v' : Value) (w1 : World) hown1 hg hli => bd_close (w := w) (w0 := w0) (w1 := w1) (v' := v') (ys := xs ++ bs s) (n := xs.length + s.size) hT hBw hb ho hcp.heap hne hcp.same hown1 (by rw [List.length_append, bs_length]) hg hli
  have hsm : s.size ≤ 9223372036854775807 := by omega
  have C1 := Lib.hid hcall
  have hbs0 : B ≤ w0.heap.size := Nat.le_trans hBw hcp.same.2.2.2.1
  have hc1 : w0.cell? ⟨b, o + 1, none⟩ = some v := by rw [cellB hcp.heap, Array.getElem?_setIfInBounds_ne (by omega)]; exact hbuf
  have FIN := Lib.hid fin; have HB0 := Lib.hid hcp.heap; have HBF := Lib.hid hbuf
  clear hcp fin hb hbuf hl ha hcall
  go_enter Tryz.func41, Tryz.ntmps41
  go_wp2_with (first | (go_at_call 82; refine C1.out.mono ?_; rintro e w' ⟨rfl, rfl⟩) | (at_builtin; refine wpList_append_strF rfl _ _ _ _ rfl B 5 i0 Tryz.underlying62 Tryz.underlying9 hi0 hz0 hz1 hz2 v xs.length (xs.map U) rfl hrow0 s rfl hlen hbs0 ?_; intro v' w1 hown1 hgrow hli; obtain ⟨a2, c2, rfl⟩ := ownF_shape hown1; have hb1 := (hgrow.block b (lt_of_block HB0.out) (fun e => hne e.symm)).trans HB0.out; have c1 := cellB hb1 (o + 1); rw [Array.getElem?_setIfInBounds_ne (by omega), HBF.out] at c1; have f1 := freeB hb1 (o + 1); clear hb1))
  go_ret2
  refine ⟨rfl, FIN.out _ _ ?_ hgrow hli⟩
  rw [List.map_append, ← strCells_bs]
  exact hown1
end Go.Proofs.YtohmdledkhgdaaaGreatDoor
