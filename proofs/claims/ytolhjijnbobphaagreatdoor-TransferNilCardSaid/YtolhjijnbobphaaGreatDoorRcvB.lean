/- The receiver in memory, and the methods that read it. -/
import Derived.Test.YtolhjijnbobphaaGreatDoorRcv
namespace Go.Proofs.YtolhjijnbobphaaGreatDoor
open Go.RowKit Go.Maps
set_option linter.unusedVariables false
set_option maxRecDepth 100000

/-- A receiver in block b: its identity, size, bytes, whether complete; v: its buffer. -/
def Rc (w : World) (B b : Nat) (l : List Nat) (n : Nat) (xs : List Nat) (d : Bool) (v : Value) : Prop := ∃ ad, Bd w B b 33 54 (rcvC l n ad v d) v xs
theorem Rc.below {w w' : World} {B b n : Nat} {l xs : List Nat} {d : Bool} {v : Value} (h : Rc w B b l n xs d v) (hb : Below w.heap.size w w') : Rc w' B b l n xs d v := by
  obtain ⟨ad, h⟩ := h
  have g : w.grownBy w' none := ⟨hb.os, hb.tape, hb.output, hb.size, fun k hk _ => hb.block k hk⟩
  exact ⟨ad, (hb.block b (lt_of_block h.heap)).trans h.heap, h.addr, h.buf, h.row.kept g (by cases hv : v.ownBlock <;> simp)⟩
theorem Rc.drewN {w : World} {B b n : Nat} {l xs : List Nat} {d : Bool} {v : Value} (h : Rc w B b l n xs d v) (k : Nat) : Rc (w.drewN k) B b l n xs d v := let ⟨ad, h⟩ := h; ⟨ad, h.drewN k⟩
theorem Rc.lt {w : World} {B b n : Nat} {l xs : List Nat} {d : Bool} {v : Value} (h : Rc w B b l n xs d v) : b < w.heap.size := let ⟨ad, h⟩ := h; lt_of_block h.heap
theorem Rc.at32 {w : World} {B b n : Nat} {l xs : List Nat} {d : Bool} {v : Value} (h : Rc w B b l n xs d v) (hl : l.length = 32) : w.cell? ⟨b, 32, none⟩ = some (.int .i64 n) := by obtain ⟨ad, h⟩ := h; rw [cellB h.heap]; exact (rcv_at hl _ _ _ _).1
theorem Rc.at35 {w : World} {B b n : Nat} {l xs : List Nat} {d : Bool} {v : Value} (h : Rc w B b l n xs d v) (hl : l.length = 32) : w.cell? ⟨b, 35, none⟩ = some (.bool d) := by obtain ⟨ad, h⟩ := h; rw [cellB h.heap]; exact (rcv_at hl _ _ _ _).2.2.2
theorem Rc.free {w : World} {B b n : Nat} {l xs : List Nat} {d : Bool} {v : Value} (h : Rc w B b l n xs d v) (j : Nat) : w.frozen? ⟨b, j, none⟩ = false := by obtain ⟨ad, h⟩ := h; exact freeB h.heap j

theorem rcv_of {l : List Nat} (h : l.length = 32) {n : Int} {ad v v' : Value} {d : Bool} {cs : Array Value} (hs : cs.size = (rcvC l n ad v d).size) (hj : ∀ j, j ≠ 33 → j ≠ 33 + 1 → cs[j]? = (rcvC l n ad v d)[j]?) (hv : cs[33 + 1]? = some v') : ∃ ad', cs = rcvC l n ad' v' d := by
  have hs36 : cs.size = 36 := by rw [hs, rcv_size h]
  refine ⟨cs[33], ?_⟩
  apply Array.ext_getElem?
  intro j
  by_cases h33 : j = 33
  · subst h33
    rw [(rcv_at h _ _ _ _).2.1, Array.getElem?_eq_getElem (by omega)]
  · by_cases h34 : j = 34
    · subst h34
      rw [(rcv_at h _ _ _ _).2.2.1]
      exact hv
    · rw [hj j h33 h34]
      unfold rcvC
      simp only [List.getElem?_toArray]
      by_cases hlt : j < (l.map U).length
      · rw [List.getElem?_append_left hlt, List.getElem?_append_left hlt]
      · rw [List.getElem?_append_right (by omega), List.getElem?_append_right (by omega)]
        simp only [List.length_map, h] at hlt ⊢
        obtain ⟨k, rfl⟩ : ∃ k, j = 32 + k := ⟨j - 32, by omega⟩
        rw [Nat.add_sub_cancel_left]
        match k, h33, h34 with
        | 0, _, _ => rfl
        | 3, _, _ => rfl
        | k + 4, _, _ => rfl

/-- What a method that writes to a receiver leaves. -/
def RcPost (w : World) (B b : Nat) (l : List Nat) (n : Nat) (xs : List Nat) (d : Bool) (v : Value) (w' : World) : Prop :=
  ∃ v', Rc w' B b l n xs d v' ∧ (v'.ownBlock = v.ownBlock ∨ ∃ g, v'.ownBlock = some g ∧ w.heap.size ≤ g) ∧ FrB b v w w'
theorem FrB.trans {b : Nat} {v v' : Value} {w w1 w2 : World} (h : FrB b v w w1) (h2 : FrB b v' w1 w2) (hv : v'.ownBlock = v.ownBlock ∨ ∃ g, v'.ownBlock = some g ∧ w.heap.size ≤ g) : FrB b v w w2 :=
  ⟨h2.os.trans h.os, h2.tape.trans h.tape, h2.output.trans h.output, Nat.le_trans h.size h2.size, fun k hk h1 h3 => by
    rw [h2.other k (Nat.lt_of_lt_of_le hk h.size) h1 ?_, h.other k hk h1 h3]
    rcases hv with e | ⟨g, hg, hle⟩
    · rw [e]; exact h3
    · rw [hg]; intro e; simp at e; omega⟩
theorem FrB.of_below {b : Nat} {v : Value} {w w' : World} (h : Below w.heap.size w w') : FrB b v w w' := ⟨h.os, h.tape, h.output, h.size, fun k hk _ _ => h.block k hk⟩
theorem RcPost.of_below {w w' : World} {B b n : Nat} {l xs : List Nat} {d : Bool} {v : Value} (h : Rc w B b l n xs d v) (hb : Below w.heap.size w w') : RcPost w B b l n xs d v w' := ⟨v, h.below hb, .inl rfl, FrB.of_below hb⟩

section
variable (w : World) {B b n : Nat} {l xs : List Nat} {d : Bool} {v : Value} (h : Rc w B b l n xs d v) (hl : l.length = 32)
include h
theorem len_any : Calls Tryz.prog 23 #[.pointer (some ⟨b, 33, none⟩)] w fun e w' => e = .returned (.int .i64 (xs.length : Int)) ∧ w' = w := by
  obtain ⟨ad, h⟩ := h
  exact (blen_any w B b 33 _ _ v xs h).mono fun e w' ⟨h1, h2⟩ => ⟨h1, h2.symm⟩
theorem from_any : Calls Tryz.prog 13 #[.pointer (some ⟨b, 0, none⟩)] w fun e w' => e = .returned (.int .i64 (xs.length : Int)) ∧ w = w' := by
  have H := Lib.hid (len_any w h)
  clear h
  go_enter Tryz.func13, Tryz.ntmps13
  go_wp2_with (go_at_call 23; refine H.out.mono ?_; rintro e w' ⟨rfl, rfl⟩)
  go_ret
  exact ⟨rfl, rfl⟩
include hl
theorem complete_any : Calls Tryz.prog 14 #[.pointer (some ⟨b, 0, none⟩)] w fun e w' => e = .returned (.bool d) ∧ w = w' := by
  have h35 := h.at35 hl
  clear h
  go_enter Tryz.func14, Tryz.ntmps14
  go_wp2_with fail
  go_ret
  exact ⟨rfl, rfl⟩
end
theorem text_no (w : World) {B b n : Nat} {l xs : List Nat} {v : Value} (h : Rc w B b l n xs false v) (hl : l.length = 32) : Calls Tryz.prog 6 #[.pointer (some ⟨b, 0, none⟩)] w fun e w' => e = .returned (.tuple #[.string ⟨#[]⟩, .int .i64 10]) ∧ w = w' := by
  have h35 := h.at35 hl
  clear h
  go_enter Tryz.func6, Tryz.ntmps6
  go_wp2_with fail
  go_ret2
  exact ⟨rfl, rfl⟩
theorem str_any (w : World) {B b n : Nat} {l xs : List Nat} {d : Bool} {v : Value} (h : Rc w B b l n xs d v) (hx : ∀ x ∈ xs, x < 256) (hlen : xs.length ≤ 140737488355328) :
    Calls Tryz.prog 19 #[.pointer (some ⟨b, 33, none⟩)] w fun e w' => e = .returned (.string (strN xs)) ∧ Rc w' B b l n xs d v ∧ FrB b v w w' := by
  obtain ⟨ad, h⟩ := h
  exact (bstring_any w B b 33 _ _ v xs h (by decide) hx hlen).mono fun e w' ⟨h1, h2, h3⟩ => ⟨h1, ⟨ad, h2⟩, h3⟩
theorem text_yes (w : World) {B b n : Nat} {l xs : List Nat} {v : Value} (h : Rc w B b l n xs true v) (hl : l.length = 32) (hx : ∀ x ∈ xs, x < 256) (hlen : xs.length ≤ 140737488355328) :
    Calls Tryz.prog 6 #[.pointer (some ⟨b, 0, none⟩)] w fun e w' => e = .returned (.tuple #[.string (strN xs), .int .i64 0]) ∧ Rc w' B b l n xs true v ∧ FrB b v w w' := by
  have h35 := h.at35 hl
  have H := Lib.hid (str_any w h hx hlen)
  clear h
  go_enter Tryz.func6, Tryz.ntmps6
  go_wp2_with (go_at_call 19; refine H.out.mono ?_; rintro e w' ⟨rfl, h1, h2⟩; have H1 := Lib.hid h1; have H2 := Lib.hid h2; clear h1 h2)
  go_ret2
  exact ⟨rfl, H1.out, H2.out⟩

/-- What was just made. -/
theorem rc_new (w : World) (l : List Nat) (hl : l.length = 32) (n : Nat) (B : Nat) : Rc (w.alloc (.cells (rcvC l n (.pointer none) (.slice none 0 0) false) 54)) B w.heap.size l n [] false (.slice none 0 0) :=
  ⟨.pointer none, heap_alloc_new w _, .inl (rcv_at hl _ _ _ _).2.1, (rcv_at hl _ _ _ _).2.2.1, by simp, .inl ⟨rfl, rfl⟩⟩

end Go.Proofs.YtolhjijnbobphaaGreatDoor
