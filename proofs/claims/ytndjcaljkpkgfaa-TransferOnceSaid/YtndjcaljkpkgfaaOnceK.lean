/- What the statement TransferOnce wants: beginnings of the text, strange commands, the worlds of a round. -/
import Derived.Test.YtndjcaljkpkgfaaAtt
import Derived.Test.YtndjcaljkpkgfaaLawPre
import Derived.Test.YtndjcaljkpkgfaaLawKit
import Derived.Test.YtndjcaljkpkgfaaLen
namespace Go.Proofs.Ytndjcaljkpkgfaa
open Go.RowKit Go.Maps
set_option linter.unusedVariables false

/-- A beginning of the text. -/
def Pre (q : ByteArray) (xs : List Nat) : Prop := xs = (bs q).take xs.length ∧ xs.length ≤ q.size
theorem pre_nil (q : ByteArray) : Pre q [] := ⟨by simp, Nat.zero_le _⟩
theorem pre_grow {q : ByteArray} {xs : List Nat} {p2 : Nat} (h : Pre q xs) (h1 : xs.length ≤ p2) (h2 : p2 ≤ q.size) : Pre q (xs ++ bs (q.extract xs.length p2)) ∧ (xs ++ bs (q.extract xs.length p2)).length = p2 := by
  have hl : (bs (q.extract xs.length p2)).length = p2 - xs.length := by rw [bs_extract, List.length_drop, List.length_take, bs_length]; omega
  have hlen : (xs ++ bs (q.extract xs.length p2)).length = p2 := by rw [List.length_append, hl]; omega
  refine ⟨⟨?_, by omega⟩, hlen⟩
  rw [hlen, bs_extract]
  obtain ⟨p, hp⟩ : ∃ p, p = xs.length := ⟨_, rfl⟩
  rw [← hp] at h1 ⊢
  rw [h.1, ← hp]
  rw [show (bs q).take p = ((bs q).take p2).take p by rw [List.take_take, Nat.min_eq_left (by omega)], List.take_append_drop]
theorem pre_full {q : ByteArray} {xs : List Nat} (h : Pre q xs) (hl : xs.length = q.size) : strN xs = q := by
  rw [h.1, hl, List.take_of_length_le (by rw [bs_length]; exact Nat.le_refl _), strN_bs]
theorem pre_lt {q : ByteArray} {xs : List Nat} (h : Pre q xs) : ∀ x ∈ xs, x < 256 := fun x hx => bs_lt q x (by rw [h.1] at hx; exact List.mem_of_mem_take hx)

theorem hear_strange {l : List Nat} {n : Nat} {xs : List Nat} {d : Bool} {vb f : Int} {m : List Nat} {t : ByteArray} (h : m ≠ l ∨ (f ≠ (xs.length : Int) ∧ vb = 7) ∨ (vb ≠ 7 ∧ vb ≠ 8)) :
    ∃ code : Int, code ≠ 0 ∧ hearF l n xs d vb f m t = (xs, d, code) := by
  unfold hearF
  split
  · exact ⟨10, by decide, rfl⟩
  split
  · exact ⟨11, by decide, rfl⟩
  split
  · exact ⟨8, by decide, rfl⟩
  · rename_i h1 h2 h3
    have hv : f ≠ (xs.length : Int) ∧ vb = 7 := by
      rcases h with h | h | h
      · exact absurd h (by simpa using h3)
      · exact h
      · exact absurd h h2
    rw [if_neg (by omega), if_pos hv.1]
    exact ⟨30, by decide, rfl⟩
theorem hear_fit {l : List Nat} {n : Nat} {xs : List Nat} {t : ByteArray} (h : xs.length + t.size ≤ n) : hearF l n xs false 7 (xs.length : Int) l t = (xs ++ bs t, false, 0) := by
  unfold hearF
  rw [if_neg (by simp), if_neg (by simp), if_neg (by simp), if_neg (by decide), if_neg (by simp), if_neg (by omega)]
theorem hear_fin {l : List Nat} {n : Nat} {xs : List Nat} (h : xs.length = n) : hearF l n xs false 8 0 l ⟨#[]⟩ = (xs, true, 0) := by
  unfold hearF
  rw [if_neg (by simp), if_neg (by simp), if_neg (by simp), if_pos rfl, if_neg (by omega)]

theorem Rc.ne {w : World} {B b n : Nat} {l xs : List Nat} {d : Bool} {v : Value} (h : Rc w B b l n xs d v) {k : Nat} {cs : Array Value} {T : TypeId} {fz : Nat × Nat} (hk : w.heap[k]? = some (.cells cs T fz)) (hT : T ≠ 67) : k ≠ b := by
  obtain ⟨ad, h⟩ := h
  rintro rfl
  have := h.heap
  rw [hk] at this
  simp at this
  exact hT this.2.1
/-- The worlds of a round: the receiver stands, the identity and the command too. -/
structure OnC (w : World) (b : Nat) (id : List Nat) (n : Nat) (xs : List Nat) (d : Bool) (xb : Nat) (xc : Array Value) (w' : World) : Prop where
  rc : ∃ v, Rc w' w.heap.size b id n xs d v
  idb : w'.heap[w.heap.size]? = some (.cells (idA id) 23 (0, 0))
  xbk : w'.heap[xb]? = some (.cells xc 31 (0, 0))
  bel : Below w.heap.size w w'
theorem OnC.below {w : World} {b : Nat} {id : List Nat} {n : Nat} {xs : List Nat} {d : Bool} {xb : Nat} {xc : Array Value} {w1 w2 : World} (h : OnC w b id n xs d xb xc w1) (hb : Below w1.heap.size w1 w2) : OnC w b id n xs d xb xc w2 :=
  ⟨h.rc.imp fun v hv => hv.below hb, (hb.block _ (lt_of_block h.idb)).trans h.idb, (hb.block _ (lt_of_block h.xbk)).trans h.xbk, h.bel.trans (hb.mono h.bel.size)⟩
theorem OnC.hear {w : World} {b : Nat} {id : List Nat} {n : Nat} {xs : List Nat} {d : Bool} {xb : Nat} {xc : Array Value} {w1 w2 : World} {v : Value} (h : OnC w b id n xs d xb xc w1) (hr : Rc w1 w.heap.size b id n xs d v) (hlb : w.heap.size ≤ b) (hp : RcPost w1 w.heap.size b id n xs d v w2) : OnC w b id n xs d xb xc w2 := by
  obtain ⟨v', r', _, f'⟩ := hp
  exact ⟨⟨v', r'⟩, f'.keep hr h.idb (by decide) (hr.ne h.idb (by decide)), f'.keep hr h.xbk (by decide) (hr.ne h.xbk (by decide)), f'.law hr h.bel hlb⟩
theorem Rc.snd {w w' : World} {B b n : Nat} {l xs : List Nat} {d : Bool} {v : Value} (h : Rc w B b l n xs d v) {sb : Nat} {l2 : List Nat} {t : ByteArray} {c s s' : Nat} {e e' : Bool} (hs : Sn w sb l2 t c s e) (hp : SnPost w sb l2 t c s' e' w') : Rc w' B b l n xs d v := by
  have hnb : sb ≠ b := h.ne hs (by decide)
  obtain ⟨ad, h⟩ := h
  have hno := ownF_ne h.row hs (by decide)
  refine ⟨ad, (hp.2.1 b (lt_of_block h.heap) (fun e => hnb e.symm)).trans h.heap, h.addr, h.buf, h.row.1, ?_⟩
  rcases h.row.2 with hh | ⟨g', cap, cur, fz', hv, hg, hh, r⟩
  · exact .inl hh
  · have ho : v.ownBlock = some g' := by rw [hv]; rfl
    exact .inr ⟨g', cap, cur, fz', hv, hg, (hp.2.1 g' (lt_of_block hh) (fun e => hno (by rw [ho, e]))).trans hh, r⟩
theorem Sn.hear {w w' : World} {B b n : Nat} {l xs : List Nat} {d : Bool} {v : Value} (h : Rc w B b l n xs d v) {sb : Nat} {l2 : List Nat} {t : ByteArray} {c s : Nat} {e : Bool} (hs : Sn w sb l2 t c s e) (hf : FrB b v w w') : Sn w' sb l2 t c s e := hf.keep h hs (by decide) (h.ne hs (by decide))

end Go.Proofs.Ytndjcaljkpkgfaa
