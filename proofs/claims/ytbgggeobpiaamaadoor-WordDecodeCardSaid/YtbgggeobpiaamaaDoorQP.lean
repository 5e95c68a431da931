/- Plain: the data of Q. -/
import Derived.Test.YtbgggeobpiaamaaDoorUP
import Derived.Lib.Bytealg
namespace Go.Proofs.YtbgggeobpiaamaaDoor
set_option linter.unusedVariables false

/-- The bytes that stand for themselves. -/
def itself (c : Nat) : Bool := decide (97 ≤ c ∧ c ≤ 122) || decide (65 ≤ c ∧ c ≤ 90) || decide (48 ≤ c ∧ c ≤ 57) || decide (c = 33 ∨ c = 42 ∨ c = 43 ∨ c = 45 ∨ c = 47)
def hexs : List Nat := [48, 49, 50, 51, 52, 53, 54, 55, 56, 57, 65, 66, 67, 68, 69, 70]
def hx (n : Nat) : Nat := hexs.getD n 0
def hv (c : Nat) : Option Nat := (List.range 16).find? (fun i => hx i == c)
def q1 (c : Nat) : List Nat := if itself c = true then [c] else if c = 32 then [95] else [61, hx (c / 16), hx (c % 16)]
def wQ (l : List Nat) : List Nat := l.flatMap q1
def rQ : List Nat → Option (List Nat)
  | [] => some []
  | c :: l =>
    if itself c = true then (rQ l).map (c :: ·)
    else if c = 95 then (rQ l).map (32 :: ·)
    else if c = 61 then
      match l with
      | a :: b :: m => match hv a, hv b with
        | some x, some y => (rQ m).map ((16 * x + y) :: ·)
        | _, _ => none
      | _ => none
    else none

def rQ3 (l : List Nat) : Option (List Nat) := match l with
  | a :: b :: m => match hv a, hv b with
    | some x, some y => (rQ m).map ((16 * x + y) :: ·)
    | _, _ => none
  | _ => none
theorem rQ_cons (c : Nat) (l : List Nat) : rQ (c :: l) = if itself c = true then (rQ l).map (c :: ·) else if c = 95 then (rQ l).map (32 :: ·) else if c = 61 then rQ3 l else none := by
  rcases l with _ | ⟨a, _ | ⟨b, m⟩⟩ <;> rfl

theorem hx_lt : ∀ n, hx n < 71 := by
  intro n
  by_cases h : n < 16
  · have : ∀ n : Fin 16, hx n.val < 71 := by decide
    exact this ⟨n, h⟩
  · unfold hx; rw [List.getD_eq_getElem?_getD, List.getElem?_eq_none (by simp [hexs]; omega)]; decide
theorem hv_lt {c v : Nat} (h : hv c = some v) : v < 16 := by
  have := List.mem_of_find?_eq_some h; simpa using this
theorem hv_hx : ∀ n : Fin 16, hv (hx n.val) = some n.val := by decide
theorem q1_lt {c : Nat} (hc : c < 256) : ∀ x ∈ q1 c, x < 256 := by
  intro x hx'
  unfold q1 at hx'
  split at hx'
  · simp at hx'; omega
  · split at hx'
    · simp at hx'; omega
    · have h1 := hx_lt (c / 16); have h2 := hx_lt (c % 16); simp at hx'; omega
theorem q1_len (c : Nat) : (q1 c).length ≤ 3 := by unfold q1; split <;> (try split) <;> simp
theorem wQ_lt {l : List Nat} (h : ∀ x ∈ l, x < 256) : ∀ x ∈ wQ l, x < 256 := by
  intro x hx'
  unfold wQ at hx'
  obtain ⟨c, hc, hx''⟩ := List.mem_flatMap.1 hx'
  exact q1_lt (h c hc) x hx''
theorem wQ_len (l : List Nat) : (wQ l).length ≤ 3 * l.length := by
  induction l with
  | nil => simp [wQ]
  | cons c l ih => have := q1_len c; simp [wQ] at *; omega
theorem wQ_take_succ {l : List Nat} {k : Nat} (hk : k < l.length) {c : Nat} (hc : c = l.getD k 0) : wQ (l.take (k + 1)) = wQ (l.take k) ++ q1 c := by
  rw [List.getD_eq_getElem?_getD, List.getElem?_eq_getElem hk, Option.getD_some] at hc
  unfold wQ
  rw [List.take_succ_eq_append_getElem hk, List.flatMap_append, ← hc]; simp

theorem drop_cons_getD {l : List Nat} {k : Nat} (hk : k < l.length) : l.drop k = l.getD k 0 :: l.drop (k + 1) := by
  rw [List.getD_eq_getElem?_getD, List.getElem?_eq_getElem hk, Option.getD_some]; exact List.drop_eq_getElem_cons hk
/-- What has been read of l: xs out of the first i bytes. -/
def RQ (l : List Nat) (i : Nat) (xs : List Nat) : Prop := rQ l = (rQ (l.drop i)).map (xs ++ ·)
theorem RQ.start (l : List Nat) : RQ l 0 [] := by unfold RQ; rw [List.drop_zero]; cases rQ l <;> simp
theorem map_snoc (o : Option (List Nat)) (xs : List Nat) (c : Nat) : (o.map (c :: ·)).map (xs ++ ·) = o.map ((xs ++ [c]) ++ ·) := by cases o <;> simp
theorem RQ.self {l : List Nat} {i c : Nat} {xs : List Nat} (h : RQ l i xs) (hi : i < l.length) (hc : c = l.getD i 0) (hs : itself c = true) : RQ l (i + 1) (xs ++ [c]) := by
  unfold RQ at *
  rw [h, drop_cons_getD hi, ← hc, rQ_cons, if_pos hs, map_snoc]
theorem RQ.blank {l : List Nat} {i c : Nat} {xs : List Nat} (h : RQ l i xs) (hi : i < l.length) (hc : c = l.getD i 0) (hs : itself c = false) (h95 : c = 95) : RQ l (i + 1) (xs ++ [32]) := by
  unfold RQ at *
  rw [h, drop_cons_getD hi, ← hc, rQ_cons, if_neg (by rw [hs]; decide), if_pos h95, map_snoc]
theorem RQ.hex {l : List Nat} {i c x y : Nat} {xs : List Nat} (h : RQ l i xs) (hi : i + 2 < l.length) (hc : c = l.getD i 0) (h61 : c = 61) (hx1 : hv (l.getD (i + 1) 0) = some x) (hy : hv (l.getD (i + 2) 0) = some y) : RQ l (i + 3) (xs ++ [16 * x + y]) := by
  unfold RQ at *
  rw [h, drop_cons_getD (by omega), ← hc, drop_cons_getD (k := i + 1) (by omega), drop_cons_getD (k := i + 1 + 1) (by omega), rQ_cons, h61, if_neg (by decide), if_neg (by decide), if_pos rfl]
  simp only [rQ3, hx1, hy, Nat.add_assoc]
  rw [map_snoc]
theorem RQ.badhex {l : List Nat} {i c : Nat} {xs : List Nat} (h : RQ l i xs) (hi : i + 2 < l.length) (hc : c = l.getD i 0) (h61 : c = 61) (hx1 : hv (l.getD (i + 1) 0) = none ∨ hv (l.getD (i + 2) 0) = none) : rQ l = none := by
  unfold RQ at h
  rw [h, drop_cons_getD (by omega), ← hc, drop_cons_getD (k := i + 1) (by omega), drop_cons_getD (k := i + 1 + 1) (by omega), rQ_cons, h61, if_neg (by decide), if_neg (by decide), if_pos rfl]
  rcases hx1 with h1 | h1
  · simp only [rQ3, h1]; rfl
  · simp only [Nat.add_assoc] at *
    cases h2 : hv (l.getD (i + 1) 0) <;> simp only [rQ3, h2, h1] <;> rfl
theorem RQ.short {l : List Nat} {i c : Nat} {xs : List Nat} (h : RQ l i xs) (hi : i < l.length) (hs : l.length ≤ i + 2) (hc : c = l.getD i 0) (h61 : c = 61) : rQ l = none := by
  unfold RQ at h
  rw [h, drop_cons_getD (by omega), ← hc, rQ_cons, h61, if_neg (by decide), if_neg (by decide), if_pos rfl]
  have hl : (l.drop (i + 1)).length ≤ 1 := by rw [List.length_drop]; omega
  match hm : l.drop (i + 1), hl with
  | [], _ => rfl
  | [_], _ => rfl
  | _ :: _ :: _, hl => simp at hl
theorem RQ.bad {l : List Nat} {i c : Nat} {xs : List Nat} (h : RQ l i xs) (hi : i < l.length) (hc : c = l.getD i 0) (hs : itself c = false) (h95 : c ≠ 95) (h61 : c ≠ 61) : rQ l = none := by
  unfold RQ at h
  rw [h, drop_cons_getD (by omega), ← hc, rQ_cons, if_neg (by rw [hs]; decide), if_neg h95, if_neg h61]
  rfl
theorem RQ.done {l : List Nat} {i : Nat} {xs : List Nat} (h : RQ l i xs) (hi : l.length ≤ i) : rQ l = some xs := by
  unfold RQ at h
  rw [h, List.drop_of_length_le hi]; simp [rQ]

/-- The library's search among the digits, and among the five signs. -/
def hvI (c : Nat) : Int := match hv c with | some x => (x : Int) | none => -1
theorem index_hex : ∀ c : Fin 256, Lib.indexByte [48, 49, 50, 51, 52, 53, 54, 55, 56, 57, 65, 66, 67, 68, 69, 70] c.val.toUInt8 = hvI c.val := by decide +kernel
theorem index_five : ∀ c : Fin 256, decide (0 ≤ Lib.indexByte [33, 42, 43, 45, 47] c.val.toUInt8) = decide (c.val = 33 ∨ c.val = 42 ∨ c.val = 43 ∨ c.val = 45 ∨ c.val = 47) := by decide +kernel
theorem itself61 : itself 61 = false := by decide
theorem itself95 : itself 95 = false := by decide
end Go.Proofs.YtbgggeobpiaamaaDoor
