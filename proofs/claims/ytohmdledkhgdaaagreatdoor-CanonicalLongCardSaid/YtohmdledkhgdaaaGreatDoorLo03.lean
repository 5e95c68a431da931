/- regroup, left, Size; encode. -/
import Derived.Test.YtohmdledkhgdaaaGreatDoorLo02
import Derived.Lib.LaidTab
import Derived.Lib.ItoaNum
namespace Go.Proofs.YtohmdledkhgdaaaGreatDoor
open Go.RowKit
set_option linter.unusedVariables false
/-- regroup(from, to, pass). -/
theorem regroup_any (w : World) (a b pf Bt B : Nat) (hB : w.heap.size = B + 2) :
    Calls Tryz.prog 216 #[.int .i64 a, .int .i64 b, .func (.func pf) #[] #[.pointer (some ⟨Bt, 0, none⟩)]] w fun e w' =>
      e = .returned (.tuple #[.func (.func 239) #[] #[.pointer (some ⟨B + 5, 0, none⟩), .pointer (some ⟨B + 2, 0, none⟩), .pointer (some ⟨B + 6, 0, none⟩), .pointer (some ⟨B + 3, 0, none⟩), .pointer (some ⟨B + 4, 0, none⟩)],
        .func (.func 240) #[] #[.pointer (some ⟨B + 5, 0, none⟩), .pointer (some ⟨B + 6, 0, none⟩)]]) ∧
      w' = ((((w.alloc (.cells #[.int .i64 a] 3)).alloc (.cells #[.int .i64 b] 3)).alloc (.cells #[.func (.func pf) #[] #[.pointer (some ⟨Bt, 0, none⟩)]] 81)).alloc (.cells #[.int .i64 0] 3)).alloc (.cells #[.int .i64 0] 3) := by
  have HB := Lib.hid hB
  clear hB
  go_enter Tryz.func216, Tryz.ntmps216
  go_wp2_with fail
  go_ret2
  refine ⟨?_, rfl⟩
  simp [HB.out]
theorem left_any (w : World) (B fr tt pf b c : Nat) (xs : List Nat) (h : RG B fr tt pf b c xs w) :
    Calls Tryz.prog 240 #[.pointer (some ⟨B + 5, 0, none⟩), .pointer (some ⟨B + 6, 0, none⟩)] w fun e w' => e = .returned (.tuple #[.int .i64 b, .int .i64 c]) ∧ ∃ n, w' = w.drewN n := by
  have k5 := cell_of_one h.bBits
  have k6 := cell_of_one h.bCount
  clear h
  go_enter Tryz.func240, Tryz.ntmps240
  go_wp2_with fail
  go_quiet (fail)
  go_wp2_with fail
  go_ret2
  exact ⟨rfl, _, rfl⟩
def sizeF (n : Int) : Int := if n < 0 ∨ 131072 < n then 0 else (n + 2) / 3 * 4
theorem sizeF_out {n : Int} (h : n < 0 ∨ 131072 < n) : sizeF n = 0 := if_pos h
theorem sizeF_in {n : Int} (h : ¬ (n < 0 ∨ 131072 < n)) : sizeF n = (n + 2) / 3 * 4 := if_neg h
theorem size_any (w : World) (n : Int) (h0 : -9223372036854775808 ≤ n) (h1 : n ≤ 9223372036854775807) :
    Calls Tryz.prog 232 #[.int .i64 n] w fun e w' => e = .returned (.int .i64 (sizeF n)) ∧ w = w' := by
  by_cases ha : n < 0
  · go_enter Tryz.func232, Tryz.ntmps232
    go_wp2
    all_goals go_ret
    all_goals exact ⟨by rw [sizeF_out (.inl ha)]; rfl, rfl⟩
  · by_cases hb : 131072 < n
    · go_enter Tryz.func232, Tryz.ntmps232
      go_wp2
      all_goals go_ret
      all_goals exact ⟨by rw [sizeF_out (.inr hb)]; rfl, rfl⟩
    · go_enter Tryz.func232, Tryz.ntmps232
      go_wp2
      all_goals go_ret
      all_goals exact ⟨by rw [sizeF_in (by omega)]; rfl, rfl⟩
theorem own_shape {w : World} {base e size n : Nat} {v : Value} {xs : List Value} (h : w.ownsRow base e size v n xs) : ∃ a cap, v = .slice a n cap := by
  rcases h.2 with ⟨rfl, rfl⟩ | ⟨g, cap, cur, rfl, _⟩
  · exact ⟨none, 0, rfl⟩
  · exact ⟨some ⟨g, 0, none⟩, cap, rfl⟩
theorem strOfNums_nat (ys : List Nat) : strOfNums (ys.map fun n : Nat => (n : Int)) = strN ys := by
  unfold strOfNums strN
  simp [Function.comp_def]
/-- 'string(b)' of a slice whose elements are known. -/
theorem conv_cells {P : Program} (w : World) (src e dst : TypeId) (hs : P.underlying src = some (.slice e)) (he : P.underlying e = some (.int .u8)) (hd : P.underlying dst = some .string) (b off cap : Nat) (ys : List Nat)
    (hcell : ∀ i (h : i < ys.length), w.cell? ⟨b, off + i, none⟩ = some (U ys[i])) : (convert src dst (.slice (some ⟨b, off, none⟩) ys.length cap)).run P w = .ok (.string (strN ys)) w := by
  rw [← strOfNums_nat]
  refine run_convert_bytes_arg w src e hs he b off ys.length cap _ (by simp) ?_ dst hd
  intro i hi
  rw [hcell i hi]
  simp [U, List.getD, List.getElem?_eq_getElem hi]
theorem own_conv {P : Program} {w : World} {base e : Nat} {v : Value} {n : Nat} {ys : List Nat} (src dst : TypeId) (hs : P.underlying src = some (.slice e)) (he : P.underlying e = some (.int .u8)) (hd : P.underlying dst = some .string)
    (h : w.ownsRow base e 1 v n (ys.map U)) : (convert src dst v).run P w = .ok (.string (strN ys)) w := by
  have hl : ys.length = n := by simpa using h.1
  subst hl
  rcases h.2 with ⟨rfl, h0⟩ | ⟨g, cap, cur, rfl, _⟩
  · obtain rfl : ys = [] := List.eq_nil_of_length_eq_zero h0
    exact run_convert_bytes_nil w src e hs he 0 0 dst hd
  · refine conv_cells w src e dst hs he hd g 0 cap ys ?_
    intro i hi
    rw [Nat.zero_add, h.cellAt i (by omega), List.getElem?_map, List.getElem?_eq_getElem hi]
    rfl
/-- 'make([]T, l, n)': the world written out. -/
theorem wpList_make_lit {P : Program} (w : World) {ops : Array Oper} {rest : List Oper} {o : Oper} {a : Act} {Q : Exit → Act → World → Prop}
    (hg : o.guard = none) (l c : Operand) (t : TypeId) (hop : o.op = Op.makeSlice t l c)
    (e : TypeId) (i : TypeInfo) (z : Value) (size : Nat) (h1 : P.underlying t = some (.slice e)) (h2 : P.info? e = some i) (h3 : i.zero = some z) (h4 : i.size = size)
    (kl kc : IntKind) (L C : Int) (m n : Nat) (hl : a.eval l = .int kl L) (hc : a.eval c = .int kc C) (hL : L = (m : Int)) (hC : C = (n : Int)) (hmn : m ≤ n) (b2 : i.bytes * n ≤ 281474976710656) (b3 : n ≤ maxLen)
    (hK : ∀ cs, cs.size = n * size → wpList P ops Q rest (a.put o.dst (.slice (some ⟨w.heap.size, 0, none⟩) m n)) (w.alloc (.cells cs e))) :
    wpList P ops Q (o :: rest) a w := by
  refine wpList_plain hg fun K hK' => ?_
  have hr := run_make (P := P) w t e i z h1 h2 h3 kl kc m n (by omega) (by omega) (by have h : ((i.bytes * n : Nat) : Int) ≤ 281474976710656 := by omega
                                                                                      rwa [Int.natCast_mul] at h) (by unfold maxLen at b3; omega)
  subst hL
  subst hC
  simp only [Int.toNat_natCast] at hr
  unfold Oper.wp
  simp [execOp, hop, hl, hc, hr, Result.andThen]
  exact hK' _ _ (hK _ (by rw [← h4]; exact size_madeCells _ _))
/-- The table of letters lies in block 0. -/
structure Tab (w : World) : Prop where
  size : 3 < w.heap.size
  cell : ∀ g, g < 64 → w.cell? ⟨3, g, none⟩ = some (U (al g))
theorem Tab.below {B : Nat} {w w' : World} (h : Tab w) (hb : Below B w w') (hB : 3 < B) : Tab w' := ⟨Nat.lt_of_lt_of_le h.size hb.size, fun g hg => (hb.cell (by exact hB)).trans (h.cell g hg)⟩
theorem pass_enc (w0 : World) (B : Nat) (ht : Tab w0) (hB : 3 < B) (hs : B ≤ w0.heap.size) : PassOK w0 B 217 (2 ^ 6) al := by
  intro w v xs g hb hT hown hn hg
  exact enc1 w (B + 1) g B (al g) v xs hT hown (Nat.le_trans hs hb.size) (by omega) hn (by omega) ((ht.below hb hB).cell g (by omega))
theorem rg_start (w : World) (cs : Array Value) (n fr tt pf : Nat) (hn : n ≤ maxLen) (hcs : cs.size = n * 1) :
    RG w.heap.size fr tt pf 0 0 [] ((((((((w.alloc (.cells cs 5)).alloc (.cells #[.slice (some ⟨w.heap.size, 0, none⟩) 0 n] 62)).alloc (.cells #[.int .i64 fr] 3)).alloc (.cells #[.int .i64 tt] 3)).alloc (.cells #[.func (.func pf) #[] #[.pointer (some ⟨w.heap.size + 1, 0, none⟩)]] 81)).alloc (.cells #[.int .i64 0] 3)).alloc (.cells #[.int .i64 0] 3))) := by
  have sz : ∀ (u : World) (o : Obj), (u.alloc o).heap.size = u.heap.size + 1 := fun u o => by simp
  have a1 := World.ownsRow_made (base := w.heap.size) (e := 5) (size := 1) w cs n (Nat.le_refl _) hn hcs
  have new : ∀ (u : World) (o : Obj) (k : Nat), u.heap.size = k → (u.alloc o).heap[k]? = some o := fun u o k h => by rw [← h]; exact heap_alloc_new u o
  refine ⟨alloc_block (new _ _ _ (by simp)), ?_, new _ _ _ (by simp), ?_, ?_, .slice (some ⟨w.heap.size, 0, none⟩) 0 n, ?_, ((((((a1.alloc _).alloc _).alloc _).alloc _).alloc _).alloc _)⟩
  · exact alloc_block (alloc_block (alloc_block (alloc_block (new _ _ _ (by simp)))))
  · exact alloc_block (alloc_block (alloc_block (new _ _ _ (by simp))))
  · exact alloc_block (alloc_block (new _ _ _ (by simp)))
  · exact alloc_block (alloc_block (alloc_block (alloc_block (alloc_block (new _ _ _ (by simp))))))
theorem below_start (w : World) (o1 o2 o3 o4 o5 o6 o7 : Obj) : Below w.heap.size w (((((((w.alloc o1).alloc o2).alloc o3).alloc o4).alloc o5).alloc o6).alloc o7) := by
  refine Below.alloc (Below.alloc (Below.alloc (Below.alloc (Below.alloc (Below.alloc (Below.alloc (Below.refl _ _) ?_ _) ?_ _) ?_ _) ?_ _) ?_ _) ?_ _) ?_ _ <;> simp <;> omega
end Go.Proofs.YtohmdledkhgdaaaGreatDoor
/- Plain: how long a character is, valid texts, printable texts. -/
namespace Go.Proofs.YtohmdledkhgdaaaGreatDoor
set_option linter.unusedVariables false
/-- The length that a first byte announces. -/
def uLen (c : Nat) : Nat := if c ≤ 127 then 1 else if c < 194 then 0 else if c ≤ 223 then 2 else if c ≤ 239 then 3 else if c ≤ 244 then 4 else 0
/-- Whether a byte can stand at an index. -/
def uCont (f i c : Nat) : Bool :=
  decide ((if i = 1 ∧ f = 224 then 160 else if i = 1 ∧ f = 240 then 144 else 128) ≤ c) && decide (c ≤ (if i = 1 ∧ f = 237 then 159 else if i = 1 ∧ f = 244 then 143 else 191))
theorem uLen_le (c : Nat) : uLen c ≤ 4 := by unfold uLen; (repeat' split) <;> omega
theorem uCont_ge {f i c : Nat} (h : uCont f i c = true) : 128 ≤ c ∧ c ≤ 191 := by
  unfold uCont at h; simp at h; obtain ⟨h1, h2⟩ := h
  constructor
  · split at h1 <;> (try split at h1) <;> omega
  · split at h2 <;> (try split at h2) <;> omega
/-- Whether a text begins with a character. -/
def wholeB (l : List Nat) : Bool :=
  decide (uLen (l.getD 0 0) ≠ 0) && decide (uLen (l.getD 0 0) ≤ l.length) && (List.range 3).all (fun i => decide (uLen (l.getD 0 0) ≤ i + 1) || uCont (l.getD 0 0) (i + 1) (l.getD (i + 1) 0))
/-- The length of the character at the beginning, 0 if there is none. -/
def rn (l : List Nat) : Nat := if wholeB l = true then uLen (l.getD 0 0) else 0
theorem whole_iff (l : List Nat) : wholeB l = true ↔ uLen (l.getD 0 0) ≠ 0 ∧ uLen (l.getD 0 0) ≤ l.length ∧ ∀ i, 1 ≤ i → i < uLen (l.getD 0 0) → uCont (l.getD 0 0) i (l.getD i 0) = true := by
  have h4 := uLen_le (l.getD 0 0)
  unfold wholeB
  simp only [Bool.and_eq_true, decide_eq_true_eq, List.all_eq_true, List.mem_range, Bool.or_eq_true]
  constructor
  · rintro ⟨⟨a, b⟩, c⟩
    refine ⟨a, b, fun i h1 h2 => ?_⟩
    have := c (i - 1) (by omega)
    rw [show i - 1 + 1 = i by omega] at this
    rcases this with h | h
    · omega
    · exact h
  · rintro ⟨a, b, c⟩
    refine ⟨⟨a, b⟩, fun i hi => ?_⟩
    by_cases h : uLen (l.getD 0 0) ≤ i + 1
    · exact .inl h
    · exact .inr (c (i + 1) (by omega) (by omega))
theorem whole_no (l : List Nat) (h : ¬ (uLen (l.getD 0 0) ≠ 0 ∧ uLen (l.getD 0 0) ≤ l.length ∧ ∀ i, 1 ≤ i → i < uLen (l.getD 0 0) → uCont (l.getD 0 0) i (l.getD i 0) = true)) : wholeB l = false := by
  rw [← whole_iff] at h; simpa using h
theorem rn_le (l : List Nat) : rn l ≤ l.length ∧ rn l ≤ 4 := by
  unfold rn; split
  · rename_i h; have := (whole_iff l).1 h; exact ⟨this.2.1, uLen_le _⟩
  · omega
theorem rn_zero {l : List Nat} (h : wholeB l = false) : rn l = 0 := by unfold rn; rw [h]; rfl
theorem rn_pos {l : List Nat} (h : wholeB l = true) : rn l = uLen (l.getD 0 0) ∧ 0 < rn l := by
  have := (whole_iff l).1 h
  unfold rn; rw [if_pos h]; omega
theorem rn_ne {l : List Nat} : rn l ≠ 0 ↔ wholeB l = true := by
  constructor
  · intro h; cases hw : wholeB l
    · exact absurd (rn_zero hw) h
    · rfl
  · intro h; have := rn_pos h; omega
/-- Valid texts. -/
def vldN : Nat → List Nat → Bool
  | 0, l => l.isEmpty
  | k + 1, l => if l.isEmpty then true else (decide (rn l ≠ 0) && vldN k (l.drop (rn l)))
def vld (l : List Nat) : Bool := vldN l.length l
theorem vldN_eq : ∀ (n : Nat) (l : List Nat) (k : Nat), l.length ≤ n → l.length ≤ k → vldN k l = vldN l.length l := by
  intro n
  induction n with
  | zero =>
    intro l k hl hk
    have : l = [] := List.length_eq_zero_iff.1 (by omega)
    subst this
    cases k <;> rfl
  | succ n ih =>
    intro l k hl hk
    cases l with
    | nil => cases k <;> rfl
    | cons a l =>
      cases k with
      | zero => simp at hk
      | succ k =>
        rw [List.length_cons]
        simp only [vldN]
        by_cases h0 : rn (a :: l) = 0
        · simp [h0]
        · have hlen : ((a :: l).drop (rn (a :: l))).length ≤ l.length := by simp; omega
          have hl' : l.length ≤ n := by simpa using hl
          have hk' : l.length ≤ k := by simpa using hk
          rw [ih _ k (by omega) (by omega), ih _ l.length (by omega) (by omega)]
theorem vld_step {l : List Nat} (h : l ≠ []) : vld l = (decide (rn l ≠ 0) && vld (l.drop (rn l))) := by
  cases l with
  | nil => exact absurd rfl h
  | cons a l =>
    unfold vld
    rw [List.length_cons]
    simp only [vldN]
    by_cases h0 : rn (a :: l) = 0
    · simp [h0]
    · rw [vldN_eq l.length _ l.length (by simp; omega) (by simp; omega)]
      simp
/-- The code point of the character at the beginning. -/
def cpt (l : List Nat) : Nat :=
  ((l.take (rn l)).drop 1).foldl (fun r x => r * 64 + x % 64) (if rn l ≤ 1 then l.getD 0 0 else l.getD 0 0 % 2 ^ (7 - rn l))
/-- Control characters. -/
def ctlC (r : Nat) : Bool := decide (r < 32) || (decide (127 ≤ r) && decide (r ≤ 159)) || decide (r = 8232) || decide (r = 8233)
/-- The offsets and code points up to the first error. -/
def rsN : Nat → Nat → List Nat → List (Nat × Nat)
  | 0, _, _ => []
  | k + 1, at', l => if rn l = 0 then [] else (at', cpt l) :: rsN k (at' + rn l) (l.drop (rn l))
def rns (l : List Nat) : List (Nat × Nat) := rsN l.length 0 l
/-- Whether a character may stand (t: tabs may). -/
def gd (t : Bool) (r : Nat) : Bool := !ctlC r || (t && decide (r = 9))
/-- Whether a text is valid and has only such characters. -/
def good (t : Bool) (l : List Nat) : Bool := vld l && (rns l).all fun x => gd t x.2
theorem rn_nil : rn [] = 0 := rfl
theorem rsN_eq : ∀ (n : Nat) (l : List Nat) (k a : Nat), l.length ≤ n → l.length ≤ k → rsN k a l = rsN l.length a l := by
  intro n
  induction n with
  | zero =>
    intro l k a hl hk
    have : l = [] := List.length_eq_zero_iff.1 (by omega)
    subst this
    cases k <;> rfl
  | succ n ih =>
    intro l k a hl hk
    cases l with
    | nil => cases k <;> rfl
    | cons x l =>
      cases k with
      | zero => simp at hk
      | succ k =>
        rw [List.length_cons]
        simp only [rsN]
        by_cases h0 : rn (x :: l) = 0
        · simp [h0]
        · have hlen : ((x :: l).drop (rn (x :: l))).length ≤ l.length := by simp; omega
          have hl' : l.length ≤ n := by simpa using hl
          have hk' : l.length ≤ k := by simpa using hk
          rw [ih _ k _ (by omega) (by omega), ih _ l.length _ (by omega) (by omega)]
theorem rsN_step (k a : Nat) (l : List Nat) (h : rn l ≠ 0) (hk : l.length ≤ k) : rsN k a l = (a, cpt l) :: rsN (l.drop (rn l)).length (a + rn l) (l.drop (rn l)) := by
  have hl := (rn_le l).1
  rw [rsN_eq l.length l k a (Nat.le_refl _) hk]
  cases l with
  | nil => exact absurd rn_nil h
  | cons x l =>
    rw [List.length_cons]
    simp only [rsN]
    rw [if_neg h, rsN_eq l.length _ l.length _ (by simp; omega) (by simp; omega)]
theorem rsN_stop (k a : Nat) (l : List Nat) (h : rn l = 0) : rsN k a l = [] := by
  cases k with
  | zero => rfl
  | succ k => simp only [rsN]; rw [if_pos h]
theorem rsN_len : ∀ (k a : Nat) (l : List Nat), (rsN k a l).length ≤ k
  | 0, _, _ => Nat.le_refl _
  | k + 1, a, l => by
    simp only [rsN]
    split
    · simp
    · have := rsN_len k (a + rn l) (l.drop (rn l)); simp; omega
/-- Texts without spaces at the ends and without double ones. -/
def dbl : List Nat → Bool
  | a :: b :: t => (decide (a = 32) && decide (b = 32)) || dbl (b :: t)
  | _ => false
def sqz (l : List Nat) : Bool := !decide (l.head? = some 32) && !decide (l.getLast? = some 32) && !dbl l
/-- The first error. -/
def fe (a b : Nat) : Nat := if a ≠ 0 then a else b
def eIf (p : Bool) (e : Nat) : Nat := if p = true then e else 0
/-- The error of a displayed name or a subject. -/
def textF (l : List Nat) (most : Nat) : Nat := fe (eIf (decide (most < l.length)) 5) (fe (eIf (!good false l) 6) (eIf (!sqz l) 3))
/-- The parts between the bytes c. -/
def spl (c : Nat) : List Nat → List (List Nat)
  | [] => [[]]
  | x :: t => if x = c then [] :: spl c t else match spl c t with
    | [] => [[x]]
    | h :: r => (x :: h) :: r
theorem spl_ne (c : Nat) (l : List Nat) : spl c l ≠ [] := by
  cases l with
  | nil => simp [spl]
  | cons x t => simp only [spl]; split; · simp
                split <;> simp
def low (c : Nat) : Bool := decide (97 ≤ c) && decide (c ≤ 122)
def dig (c : Nat) : Bool := decide (48 ≤ c) && decide (c ≤ 57)
def nmC (c : Nat) : Bool := low c || dig c || decide (c = 45) || decide (c = 43) || decide (c = 95)
def compB (l : List Nat) : Bool := !l.isEmpty && decide (l.length ≤ 20) && low (l.getD 0 0) && l.all nmC
/-- The error of a group's name. -/
def nameF (l : List Nat) : Nat := if 80 < l.length then 5 else if (spl 46 l).any (fun p => !compB p) = true then 12 else if 10 < (spl 46 l).length then 9 else 0
/-- The error of a list of names, of which some have been seen. -/
def listG (f : List Nat → Nat) (d : Nat) : List (List Nat) → List (List Nat) → Nat
  | _, [] => 0
  | pre, x :: r => if f x ≠ 0 then f x else if pre.contains x = true then d else listG f d (pre ++ [x]) r
def listF (f : List Nat → Nat) (l : List (List Nat)) : Nat := if 20 < l.length then 9 else listG f 7 [] l
def groupsF (l : List (List Nat)) : Nat := if l = [] then 4 else listF nameF l
def zero32 : List Nat := List.replicate 32 0
def refsF (l : List (List Nat)) : Nat := listF (fun x => if x = zero32 then 1 else 0) l
def distF (l : List Nat) : Nat := fe (eIf (decide (20 < l.length)) 5) (eIf (l.any fun c => !low c && !dig c && !decide (c = 45)) 6)
/-- The error of a body. -/
def line (l : List Nat) : List Nat := l.takeWhile (fun c => !decide (c = 10))
def bodyN : Nat → List Nat → Nat
  | 0, _ => 0
  | k + 1, l => if l = [] then 0 else if (line l).length = l.length then 4 else if 998 < (line l).length then 5 else if good true (line l) = false then 6 else bodyN k (l.drop ((line l).length + 1))
def bodyF (l : List Nat) : Nat := bodyN l.length l
/-- Hexadecimal digits. -/
def hxl (k : Nat) : Nat := if k < 10 then 48 + k else 87 + k
def hexF (l : List Nat) : List Nat := l.flatMap fun b => [hxl (b / 16), hxl (b % 16)]
def hvl (c : Nat) : Option Nat := if 48 ≤ c ∧ c ≤ 57 then some (c - 48) else if 97 ≤ c ∧ c ≤ 102 then some (c - 87) else none
/-- Bytes out of digits. -/
def unhex : List Nat → Option (List Nat)
  | [] => some []
  | [_] => none
  | a :: b :: t => match hvl a, hvl b, unhex t with
    | some x, some y, some r => some ((16 * x + y) :: r)
    | _, _, _ => none
def sHash : List Nat := [64, 104, 97, 115, 104, 62]
def midF (id : List Nat) : List Nat := 60 :: hexF id ++ sHash
/-- The identity of a message identifier. -/
def midP (x : List Nat) : Option (List Nat) := if x.length = 71 ∧ x.getD 0 0 = 60 ∧ x.drop 65 = sHash then unhex ((x.drop 1).take 64) else none
/-- The identity of an author. -/
def autP (x : List Nat) : Option (List Nat) := if x.length = 32 then unhex x else none
def add32 (a b : Nat) : Nat := (a + b) % 4294967296
def not32 (a : Nat) : Nat := 4294967295 - a
def shl32 (a n : Nat) : Nat := (a * 2 ^ n) % 4294967296
def rot (x n : Nat) : Nat := shl32 x (32 - n) ||| x / 2 ^ n
structure W8 where
  a : Nat
  b : Nat
  c : Nat
  d : Nat
  e : Nat
  f : Nat
  g : Nat
  i : Nat
def shK : List Nat := [1116352408, 1899447441, 3049323471, 3921009573, 961987163, 1508970993, 2453635748, 2870763221, 3624381080, 310598401, 607225278, 1426881987, 1925078388, 2162078206, 2614888103, 3248222580, 3835390401, 4022224774, 264347078, 604807628, 770255983, 1249150122, 1555081692, 1996064986, 2554220882, 2821834349, 2952996808, 3210313671, 3336571891, 3584528711, 113926993, 338241895, 666307205, 773529912, 1294757372, 1396182291, 1695183700, 1986661051, 2177026350, 2456956037, 2730485921, 2820302411, 3259730800, 3345764771, 3516065817, 3600352804, 4094571909, 275423344, 430227734, 506948616, 659060556, 883997877, 958139571, 1322822218, 1537002063, 1747873779, 1955562222, 2024104815, 2227730452, 2361852424, 2428436474, 2756734187, 3204031479, 3329325298]
def sh0 : W8 := ⟨1779033703, 3144134277, 1013904242, 2773480762, 1359893119, 2600822924, 528734635, 1541459225⟩
def rndT (v : W8) (k w : Nat) : Nat := add32 (add32 (add32 (add32 v.i (rot v.e 6 ^^^ rot v.e 11 ^^^ rot v.e 25)) ((v.e &&& v.f) ^^^ (not32 v.e &&& v.g))) k) w
def rndU (v : W8) : Nat := add32 (rot v.a 2 ^^^ rot v.a 13 ^^^ rot v.a 22) ((v.a &&& v.b) ^^^ (v.a &&& v.c) ^^^ (v.b &&& v.c))
def rnd (v : W8) (k w : Nat) : W8 := ⟨add32 (rndT v k w) (rndU v), v.a, v.b, v.c, add32 v.d (rndT v k w), v.e, v.f, v.g⟩
def plusW (x y : W8) : W8 := ⟨add32 x.a y.a, add32 x.b y.b, add32 x.c y.c, add32 x.d y.d, add32 x.e y.e, add32 x.f y.f, add32 x.g y.g, add32 x.i y.i⟩
def wNew (w : List Nat) (t : Nat) : Nat :=
  add32 (w.getD (t % 16) 0) (add32 (add32 (rot (w.getD ((t - 15) % 16) 0) 7 ^^^ rot (w.getD ((t - 15) % 16) 0) 18 ^^^ w.getD ((t - 15) % 16) 0 / 2 ^ 3) (rot (w.getD ((t - 2) % 16) 0) 17 ^^^ rot (w.getD ((t - 2) % 16) 0) 19 ^^^ w.getD ((t - 2) % 16) 0 / 2 ^ 10)) (w.getD ((t - 7) % 16) 0))
def wStep (w : List Nat) (t : Nat) : List Nat := if t < 16 then w else w.set (t % 16) (wNew w t)
def prStep (st : W8 × List Nat) (t : Nat) : W8 × List Nat := (rnd st.1 (shK.getD t 0) ((wStep st.2 t).getD (t % 16) 0), wStep st.2 t)
def prSt (h : W8) (w : List Nat) (n : Nat) : W8 × List Nat := (List.range n).foldl prStep (h, w)
theorem prSt_succ (h : W8) (w : List Nat) (n : Nat) : prSt h w (n + 1) = prStep (prSt h w n) n := by simp [prSt, List.range_succ]
def procF (h : W8) (w : List Nat) : W8 := plusW h (prSt h w 64).1
def ldStep (b : List Nat) (w : List Nat) (i : Nat) : List Nat := w.set (i / 4) (shl32 (w.getD (i / 4) 0) 8 ||| b.getD i 0)
def ldSt (b : List Nat) (n : Nat) : List Nat := (List.range n).foldl (ldStep b) (List.replicate 16 0)
theorem ldSt_succ (b : List Nat) (n : Nat) : ldSt b (n + 1) = ldStep b (ldSt b n) n := by simp [ldSt, List.range_succ]
def ldF (b : List Nat) : List Nat := ldSt b 64
/-- A hash under way. -/
structure Hs where
  st : W8
  blk : List Nat
  len : Nat
def wrStep (h : Hs) (b : List Nat) : Hs :=
  let p := h.len % 64
  let n := min (64 - p) b.length
  let blk := h.blk.take p ++ b.take n ++ h.blk.drop (p + n)
  ⟨if (h.len + n) % 64 = 0 then procF h.st (ldF blk) else h.st, blk, h.len + n⟩
def wrN : Nat → Hs → List Nat → Hs
  | 0, h, _ => h
  | k + 1, h, b => if b = [] then h else wrN k (wrStep h b) (b.drop (min (64 - h.len % 64) b.length))
def wrF (h : Hs) (b : List Nat) : Hs := wrN b.length ⟨if h.len = 0 then sh0 else h.st, h.blk, h.len⟩ b
def padN (len : Nat) : Nat := (119 - len % 64) % 64
def padF (len : Nat) : List Nat := 128 :: List.replicate (padN len) 0 ++ (List.range 8).map (fun k => (8 * len % 18446744073709551616) / 2 ^ (56 - 8 * k) % 256)
def dgW (x : Nat) : List Nat := (List.range 4).map (fun k => x / 2 ^ (24 - 8 * k) % 256)
def dgF (v : W8) : List Nat := [v.a, v.b, v.c, v.d, v.e, v.f, v.g, v.i].flatMap dgW
def hs0 : Hs := ⟨⟨0, 0, 0, 0, 0, 0, 0, 0⟩, List.replicate 64 0, 0⟩
def smF (h : Hs) : List Nat := dgF (wrF h (padF h.len)).st
def shaF (l : List Nat) : List Nat := smF (wrF hs0 l)
/-- Decimal digits. -/
def digN : Nat → Nat → List Nat
  | 0, u => [48 + u % 10]
  | k + 1, u => if u < 10 then [48 + u] else digN k (u / 10) ++ [48 + u % 10]
def digI (n : Int) : List Nat := if n < 0 then 45 :: digN 20 n.natAbs else digN 20 n.toNat
/-- What follows in a command: the next word and the rest (each rest begins with its space). -/
def nxt (t : List Nat) (k : List Nat → List Nat → Nat) : Nat := match t with
  | [] => 4
  | _ :: u => k (u.takeWhile fun c => !decide (c = 32)) (u.dropWhile fun c => !decide (c = 32))
def fin (t : List Nat) : Nat := if t = [] then 0 else 5
def tgtF (x : List Nat) : Nat := match midP x with | none => 3 | some i => if i = zero32 then 1 else 0
def grpF (x : List Nat) : Nat := if nameF x = 0 then 0 else 12
/-- The value of 1 to 7 digits. -/
def numP (x : List Nat) : Option Nat := if x = [] ∨ 7 < x.length ∨ (1 < x.length ∧ x.getD 0 0 = 48) ∨ x.all dig = false then none else some (x.foldl (fun n c => 10 * n + (c - 48)) 0)
def numF (least most : Nat) (x : List Nat) : Nat := match numP x with | none => 3 | some n => if n < least ∨ most < n then 2 else 0
/-- Strictly increasing identities of authors. -/
def ltL : List Nat → List Nat → Bool
  | a :: s, b :: t => decide (a < b) || (decide (a = b) && ltL s t)
  | [], _ :: _ => true
  | _, [] => false
def incB : List (List Nat) → Bool
  | a :: b :: t => ltL a b && incB (b :: t)
  | _ => true
def modsF (x : List Nat) : Nat := match (spl 44 x).mapM autP with
  | none => 3
  | some l => if 8 < l.length then 9 else if incB l = false then 30 else 0
def prC (c : Nat) : Bool := decide (32 ≤ c) && decide (c ≤ 126)
def txtF (s : List Nat) : Nat := if 200 < s.length then 5 else if s.all prC = false then 6 else if s.head? = some 32 ∨ s.getLast? = some 32 then 3 else 0
def restF (t : List Nat) : Nat := match t with
  | [] => 0
  | _ :: u => if u = [] then 4 else txtF u
def wOpen : List Nat := [111, 112, 101, 110]
def wMod : List Nat := [109, 111, 100, 101, 114, 97, 116, 101, 100]
/-- The height and root of a public key's bytes, or the error. -/
def pubF (x : List Nat) : Nat :=
  if (decF x).2.2 ≠ 0 then (decF x).2.2 else if (decF x).1.length < 17 then 4 else if 17 < (decF x).1.length then 5
  else if (decF x).1.getD 0 0 < 1 ∨ 8 < (decF x).1.getD 0 0 then 2 else 0
def kCancel : List Nat := [99, 97, 110, 99, 101, 108]
def kApprove : List Nat := [97, 112, 112, 114, 111, 118, 101]
def kDefine : List Nat := [100, 101, 102, 105, 110, 101]
def kRemove : List Nat := [114, 101, 109, 111, 118, 101]
def kRekey : List Nat := [114, 101, 107, 101, 121]
def cmdK (k t : List Nat) : Nat :=
  if k = kCancel then nxt t fun x t => fe (tgtF x) (fin t)
  else if k = kApprove then nxt t fun x t => fe (tgtF x) (nxt t fun y t => fe (grpF y) (fin t))
  else if k = kDefine then nxt t fun g t => fe (grpF g) (nxt t fun v t => fe (numF 0 1000000 v) (nxt t fun m t =>
    if m = wOpen then restF t else if m = wMod then nxt t fun a t => fe (modsF a) (restF t) else 3))
  else if k = kRemove then nxt t fun g t => fe (grpF g) (nxt t fun v t => fe (numF 0 1000000 v) (fin t))
  else if k = kRekey then nxt t fun n t => fe (numF 1 1000 n) (nxt t fun p t => fe (pubF p) (fin t))
  else 11
/-- The error of a command's text. -/
def cmdF (s : List Nat) : Nat := if 1000 < s.length then 5 else cmdK (s.takeWhile fun c => !decide (c = 32)) (s.dropWhile fun c => !decide (c = 32))
/-- A content. -/
structure Cont where
  name : List Nat
  author : List Nat
  date : Int
  groups : List (List Nat)
  subject : List Nat
  refs : List (List Nat)
  sup : List Nat
  ctl : List Nat
  dist : List Nat
  number : Int
  height : Int
  root : List Nat
  leaf : Int
  body : List Nat
  deriving DecidableEq
def ctlF (c : Cont) : Nat := if c.ctl = [] then 0 else fe (eIf (!sqz c.ctl) 3) (fe (cmdF c.ctl) (eIf (!decide (c.sup = zero32)) 11))
def heightB (n : Int) : Bool := decide (1 ≤ n) && decide (n ≤ 8)
def leavesN (n : Int) : Int := if heightB n = true then 2 ^ n.toNat else 0
/-- The error of a content. -/
def chkF (c : Cont) : Nat :=
  fe (textF c.name 60) <| fe (eIf (decide (c.date < 0) || decide (105190559 < c.date)) 13) <| fe (groupsF c.groups) <| fe (textF c.subject 200) <|
  fe (refsF c.refs) <| fe (ctlF c) <| fe (distF c.dist) <| fe (eIf (decide (c.number < 0) || decide (1000 < c.number)) 2) <|
  fe (eIf (!heightB c.height) 2) <| fe (eIf (decide (c.leaf < 0) || decide (leavesN c.height ≤ c.leaf)) 2) <|
  fe (eIf (decide (57344 < c.body.length)) 5) (bodyF c.body)
/-- Texts joined. -/
def joinF (sep : List Nat) : List (List Nat) → List Nat
  | [] => []
  | [x] => x
  | x :: y :: r => x ++ sep ++ joinF sep (y :: r)
def optF (id : List Nat) : List Nat := if id = zero32 then [] else midF id
def pubB (c : Cont) : List Nat := (c.height % 256).toNat :: c.root
def keyF (c : Cont) : List Nat := digI c.number ++ 32 :: encF (pubB c)
/-- The words of the lines. -/
def fWords : List (List Nat) := [
  [110, 97, 109, 101], [97, 117, 116, 104, 111, 114], [100, 97, 116, 101], [103, 114, 111, 117, 112, 115], [115, 117, 98, 106, 101, 99, 116], [114, 101, 102, 101, 114, 101, 110, 99, 101, 115],
  [115, 117, 112, 101, 114, 115, 101, 100, 101, 115], [99, 111, 110, 116, 114, 111, 108], [100, 105, 115, 116, 114, 105, 98, 117, 116, 105, 111, 110], [107, 101, 121], [108, 101, 97, 102]]
def fVals (c : Cont) : List (List Nat) := [
  c.name, hexF c.author, digI c.date, joinF [44] c.groups, c.subject, joinF [32] (c.refs.map midF),
  optF c.sup, c.ctl, c.dist, keyF c, digI c.leaf]
/-- The canonical form. -/
def formF (c : Cont) : List Nat := ((fWords.zip (fVals c)).flatMap fun p => p.1 ++ 32 :: p.2 ++ [10]) ++ 10 :: c.body
def idF (c : Cont) : List Nat := shaF (formF c)
/-- The document's example. -/
def exC (x : Nat) : Cont := ⟨[65, 110, 110], 1 :: List.replicate 15 0, 0, [[97, 46, 98]], [116, 101, x], [], zero32, [], [], 0, 1, List.replicate 16 0, 0, []⟩
theorem ex_ok (x : Nat) (h : x = 97 ∨ x = 110) : chkF (exC x) = 0 := by rcases h with rfl | rfl <;> decide +kernel
theorem ex_ne : idF (exC 97) ≠ idF (exC 110) := by decide +kernel
end Go.Proofs.YtohmdledkhgdaaaGreatDoor
/- What the walks read of the program's variables. -/
namespace Go.Proofs.YtohmdledkhgdaaaGreatDoor
open Go.RowKit
set_option linter.unusedVariables false
set_option maxRecDepth 100000
structure Env (w : World) : Prop where
  tab : Tab w
  pow : Lib.TabIs Tryz.prog w "internal/strconv.uint64pow10" .u64 Lib.pow10Tab
  mx : ∃ m, w.cell? ⟨2, 0, none⟩ = some (.int .i64 m)
  sha : ∀ i, i < 64 → w.cell? ⟨1, i, none⟩ = some (.int .u32 ((shK.getD i 0 : Nat) : Int))
  fw : ∀ i, i < 11 → w.cell? ⟨0, i, none⟩ = some (.string (strN (fWords.getD i [])))
  size : 9 ≤ w.heap.size
theorem tabis_below {w w' : World} {n : String} {g : Nat} {k : IntKind} {zs : List Int} {B : Nat} (h : Lib.TabIs Tryz.prog w n k zs) (hg : Tryz.prog.globalNamed n = some g) (hb : Below B w w') (hB : g < B) : Lib.TabIs Tryz.prog w' n k zs := by
  unfold Lib.TabIs World.var? at h ⊢
  rw [hg] at h ⊢
  simp only [Option.bind_some] at h ⊢
  rw [hb.block g hB]
  exact h
theorem Env.below {B : Nat} {w w' : World} (h : Env w) (hb : Below B w w') (hB : 9 ≤ B) : Env w' :=
  ⟨h.tab.below hb (Nat.lt_of_lt_of_le (by decide) hB), tabis_below h.pow (g := 4) (by kernel_rfl) hb (Nat.lt_of_lt_of_le (by decide) hB), (by
    obtain ⟨m, hm⟩ := h.mx
    exact ⟨m, (hb.cell (p := ⟨2, 0, none⟩) (Nat.lt_of_lt_of_le (by show (_ : Nat) < 9; decide) hB)).trans hm⟩),
    fun i hi => (hb.cell (p := ⟨1, i, none⟩) (Nat.lt_of_lt_of_le (show (1 : Nat) < 9 by decide) hB)).trans (h.sha i hi),
    fun i hi => (hb.cell (p := ⟨0, i, none⟩) (Nat.lt_of_lt_of_le (show (0 : Nat) < 9 by decide) hB)).trans (h.fw i hi), Nat.le_trans h.size hb.size⟩
theorem Env.on {w w' : World} (h : Env w) (hb : Below w.heap.size w w') : Env w' := h.below hb h.size
set_option maxHeartbeats 400000 in
theorem addD (w0 w : World) (B fr tt bits count g : Nat) (f : Nat → Nat) (xs : List Nat) (h : RG B fr tt 234 bits count xs w) (hb : Below B w0 w) (hp : PassOK w0 B 234 (2 ^ tt) f)
    (hfr : fr ≤ 8) (htt : 1 ≤ tt) (htt8 : tt ≤ 8) (hc : count < tt) (hbits : bits < 2 ^ count) (hg : g < 2 ^ fr) (hn : xs.length ≤ 900000) :
    Calls Tryz.prog 239 #[.int .i64 g, .pointer (some ⟨B + 5, 0, none⟩), .pointer (some ⟨B + 2, 0, none⟩), .pointer (some ⟨B + 6, 0, none⟩), .pointer (some ⟨B + 3, 0, none⟩), .pointer (some ⟨B + 4, 0, none⟩)] w fun e w' =>
      e = .returned (.tuple #[]) ∧ Below B w0 w' ∧ KM w w' ∧ ∃ b c ys, drain f tt 16 (bits * 2 ^ fr + g) (count + fr) xs = (b, c, ys) ∧ RG B fr tt 234 b c ys w' := by
  have c5 := cell_of_one h.bBits
  have c2 := cell_of_one h.bFrom
  have c6 := cell_of_one h.bCount
  have f5 := free_of_one h.bBits
  have f6 := free_of_one h.bCount
  have hp1 : 2 ^ count ≤ 2 ^ 8 := Nat.pow_le_pow_right (by omega) (by omega)
  have hp2 : 2 ^ fr ≤ 2 ^ 8 := Nat.pow_le_pow_right (by omega) (by omega)
  have bd0 := group_lt hbits hg
  have b1 : bits < 256 := by omega
  have b2 : g < 256 := by omega
  obtain ⟨x, hx⟩ : ∃ x, x = bits * 2 ^ fr + g := ⟨_, rfl⟩
  obtain ⟨y, hy⟩ : ∃ y, y = count + fr := ⟨_, rfl⟩
  have hy16 : y < 16 := by omega
  have ey : (count : Int) + (fr : Int) = (y : Int) := by omega
  have e0 : Go.bits .or .i64 (wrap64 ((bits : Int) * 2 ^ fr)) (g : Int) = (x : Int) := by rw [hx]; exact or_group bits fr g b1 hfr hg
  have r0 : RG B fr tt 234 x y xs (((w.setCell ⟨B + 5, 0, none⟩ (.int .i64 (x : Int))).setCell ⟨B + 6, 0, none⟩ (.int .i64 (y : Int))).drew) := ((h.setBits _).setCount _).drew
  have q0 : Below B w0 (((w.setCell ⟨B + 5, 0, none⟩ (.int .i64 (x : Int))).setCell ⟨B + 6, 0, none⟩ (.int .i64 (y : Int))).drew) := ((hb.setCell (by simp) _).setCell (by simp) _).drew
  have bd : x < 2 ^ y := by rw [hx, hy]; exact bd0
  rw [← hx, ← hy]
  have k0 : KM w (((w.setCell ⟨B + 5, 0, none⟩ (.int .i64 (x : Int))).setCell ⟨B + 6, 0, none⟩ (.int .i64 (y : Int))).drew) := ((KM.setCell h.bBits 0 _).trans (KM.setCell (h.setBits x).bCount 0 _)).drew
  have K0 := Lib.hid k0
  clear k0
  have HP := Lib.hid hp; have R0 := Lib.hid r0; have Q0 := Lib.hid q0; have BD := Lib.hid bd
  clear hp h hb hp1 hp2 r0 q0 bd hbits hg hx hy bd0
  go_enter Tryz.func239, Tryz.ntmps239
  go_wp2_with fail
  go_region
  all_goals go_wp2_with fail
  go_loopg [] 16 (fun k wr => ∃ b c ys, RG B fr tt 234 b c ys wr ∧ Below B w0 wr ∧ KM w wr ∧ b < 2 ^ c ∧ c ≤ k ∧ c < 16 ∧ ys.length + c ≤ 900000 + 16 ∧ drain f tt k b c ys = drain f tt 16 x y xs)
  case atStart => exact ⟨x, y, xs, R0.out, Q0.out, K0.out, BD.out, by omega, hy16, by omega, rfl⟩
  case round =>
    obtain ⟨b, c, ys, hr, hq, hkm, hbc, hck, hc16, hlen, hdr⟩ := hrel
    obtain ⟨v, hv, hown⟩ := hr.txt
    have k5 := cell_of_one hr.bBits
    have k3 := cell_of_one hr.bTo
    have k6 := cell_of_one hr.bCount
    have k4 := cell_of_one hr.bPass
    have l5 := free_of_one hr.bBits
    have l6 := free_of_one hr.bCount
    clear e0 c5 c2 c6 f5 f6
    have HKM := Lib.hid hkm
    clear hkm
    by_cases hlt : c < tt
    · have HR := Lib.hid hr; have HQ := Lib.hid hq; have HD := Lib.hid hdr
      clear hr hq hdr hv hown hbc
      go_wp2_with fail
      go_end0
      refine ⟨rfl, HQ.out, HKM.out, b, c, ys, ?_, HR.out⟩
      rw [← HD.out]
      cases gk <;> simp [drain, hlt]
    · obtain ⟨d, hd⟩ : ∃ d, d = c - tt := ⟨_, rfl⟩
      obtain ⟨q, hq'⟩ : ∃ q, q = b / 2 ^ d := ⟨_, rfl⟩
      have ed : (c : Int) - (tt : Int) = (d : Int) := by omega
      have eq : (b : Int) / 2 ^ d = (q : Int) := by rw [hq']; push_cast; rfl
      have hd16 : d < 16 := by omega
      obtain ⟨r, hr'⟩ : ∃ r, r = b % 2 ^ d := ⟨_, rfl⟩
      have hb16 : b < 65536 := Nat.lt_of_lt_of_le hbc (Nat.pow_le_pow_right (n := 2) (by omega) (show c ≤ 16 by omega))
      have em : Go.bits .and .i64 (b : Int) (wrap64 (wrap64 (2 ^ d) - 1)) = (r : Int) := by rw [hr']; exact and_mask' b d hb16 (by omega)
      have EM := Lib.hid em; have W := Lib.hid hr'
      clear em hr'
      have hqlt : q < 2 ^ tt := by rw [hq']; apply Nat.div_lt_of_lt_mul; rw [← Nat.pow_add]; have : d + tt = c := by omega
                                   rw [this]; exact hbc
      have r1 := hr.setCount d
      have q1 : Below B w0 (wr.setCell ⟨B + 6, 0, none⟩ (.int .i64 (d : Int))) := hq.setCell (by simp) _
      have hylen : ys.length ≤ 1000000 := by omega
      have o1 := (ownsRow_setCell_other (a := ⟨B + 6, 0, none⟩) hown (own_ne (b := B + 6) (t := 3) hown hr.bCount (by decide)) (.int .i64 (d : Int))).drew
      have P1 := Lib.hid (HP.out (wr.setCell ⟨B + 6, 0, none⟩ (.int .i64 (d : Int))).drew v ys q q1.drew ((Below.heap_setCell _ _ _ _ (by simp)).trans hv) o1 hylen hqlt)
      have O1 := Lib.hid o1
      have K1 := Lib.hid (KM.setCell hr.bCount 0 (.int .i64 (d : Int)))
      have V1 : Hid ((wr.setCell ⟨B + 6, 0, none⟩ (.int .i64 (d : Int))).drew.heap[B + 1]? = some (.cells #[v] 62 (0, 0))) := (Below.heap_setCell _ _ _ _ (by simp)).trans hv
      have R1 := Lib.hid r1; have HD := Lib.hid hdr; have Q1 := Lib.hid q1; have X := Lib.hid hq'; have Y := Lib.hid hd; have Z := Lib.hid hbc
      clear hr hq hdr hv hown hbc r1 q1 hq' hd hqlt o1
      go_wp2_with fail
      go_region_held3 (fun w' => w'.cell? ⟨B + 4, 0, none⟩ = some (.func (.func 234) #[] #[.pointer (some ⟨B + 1, 0, none⟩)]) ∧ w'.cell? ⟨B + 5, 0, none⟩ = some (.int .i64 (b : Int)) ∧ w'.cell? ⟨B + 6, 0, none⟩ = some (.int .i64 (d : Int)))
        (first | exact ⟨cell_of_one R1.out.drew.bPass, cell_of_one R1.out.drew.bBits, cell_of_one R1.out.drew.bCount⟩ | exact ⟨cell_of_one HR3.out.bPass, cell_of_one HR3.out.bBits, cell_of_one HR3.out.bCount⟩)
        (first | (go_at_call 234; refine (P1.out).mono ?_; rintro e w2 ⟨rfl, hn, hf⟩; have HR3 := Lib.hid (RG.passed R1.out.drew O1.out hn hf); clear hn))
      all_goals (have k5 := cell_of_one HR3.out.bBits; have k6 := cell_of_one HR3.out.bCount; have l5 := free_of_one HR3.out.bBits; have em := EM.out)
      all_goals go_wp2_with fail
      all_goals go_region
      all_goals go_wp2_with fail
      all_goals clear em
      all_goals go_roundg (gk - 1)
      case measure => omega
      case rel =>
        refine ⟨r, d, ys ++ [f q], (HR3.out.setBits r).drew, (((Q1.out.drew.trans hf.below).setCell (by simp) _).drew), ?_, ?_, by omega, hd16, by simp; omega, ?_⟩
        · exact (((HKM.out.trans K1.out).drew.trans (hf.km V1.out O1.out)).trans (KM.setCell HR3.out.bBits 0 _)).drew
        · rw [W.out]; exact Nat.mod_lt _ (Nat.pow_pos (by omega))
        · rw [← HD.out]
          obtain ⟨k', rfl⟩ : ∃ k', gk = k' + 1 := ⟨gk - 1, by omega⟩
          rw [drain_succ _ _ _ _ _ _ hlt, ← Y.out, ← W.out, ← X.out]
          rfl
/-- Decode$1: a group of eight bits is appended as a byte. -/
theorem dec1 (w : World) (Bt g base : Nat) (v : Value) (xs : List Nat)
    (hT : w.heap[Bt]? = some (.cells #[v] 62 (0, 0))) (hown : w.ownsRow base 5 1 v xs.length (xs.map U)) (hbase : base ≤ w.heap.size) (hBt : base ≤ Bt)
    (hn : xs.length ≤ 1000000) (hg : g < 256) :
    Calls Tryz.prog 234 #[.int .i64 g, .pointer (some ⟨Bt, 0, none⟩)] w fun e w' => e = .returned (.tuple #[]) ∧
      (∃ v', w'.heap[Bt]? = some (.cells #[v'] 62 (0, 0)) ∧ w'.ownsRow base 5 1 v' (xs.length + 1) ((xs ++ [g]).map U)) ∧ Frame1 base Bt v w w' := by
  obtain ⟨i0, hi0, hz0, hz1, hz2⟩ := info_parts info5
  have hc := cell_of_one hT
  have hf := free_of_one hT
  have lt := lt_of_block hT
  have g0 : (0 : Int) ≤ (g : Int) := Int.natCast_nonneg _
  have g1 : (g : Int) < 256 := by omega
  have hne : v.ownBlock ≠ some Bt := own_ne hown hT (by decide)
  have hTA : (w.alloc (.cells #[.int .u8 g] 5)).heap[Bt]? = some (.cells #[v] 62 (0, 0)) := alloc_block hT
  have HT := Lib.hid hT
  have HTA := Lib.hid hTA
  have HNE := Lib.hid hne
  clear hT hTA hne
  go_enter Tryz.func234, Tryz.ntmps234
  go_wp2_with ((at_builtin; refine wpList_append_lies _ rfl _ _ _ rfl base 5 i0 _ 1 1 Tryz.underlying62 hi0 hz0 hz1 hz2 rfl (by omega) v xs.length (xs.map U) rfl (hown.alloc _) ⟨w.heap.size, 0, none⟩ 1 1 [.int .u8 g] rfl rfl (World.news_of_block (cs := #[.int .u8 g]) (t := 5) (fr := (0, 0)) (heap_alloc_new w _)) (by simp [Value.oneCell']) (by omega) (by unfold maxLen; omega) (by omega) (by simp; omega) (w.heap.size + 1) (by simp) ?_; intro gg cap w1 hown1 hgrow hat hlt; have hc1 := own_kept_block hgrow HTA.out HNE.out; have hc2 := cell_of_one hc1; have hc3 := free_of_one hc1; have HC1 := Lib.hid hc1; clear hc1))
  all_goals go_end0
  all_goals (refine ⟨rfl, ?_⟩; rw [List.map_append]; exact app_close hown1 hgrow (((Below.refl _ _).alloc (Nat.le_refl _) _)) HC1.out (by decide) hBt hbase hown)
end Go.Proofs.YtohmdledkhgdaaaGreatDoor
