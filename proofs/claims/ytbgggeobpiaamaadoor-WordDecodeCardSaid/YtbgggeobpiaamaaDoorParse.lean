/- Parse. -/
import Derived.Test.YtbgggeobpiaamaaDoorFold
import Derived.Test.YtbgggeobpiaamaaDoorPP
import Derived.Maps.RangeRun
import Derived.IntWalk
import Derived.Outline
namespace Go.Proofs.YtbgggeobpiaamaaDoor
open Go.RowKit Go.Maps
open Go.ChangeMaps (setBlock)
set_option linter.unusedVariables false
set_option maxRecDepth 1000000

theorem mixed : Tryd.prog.follows .mixedOrders = true := by kernel_rfl
theorem quiet_run {P : Program} {o : Oper} {a : Act} {v : Value} {C : World → Prop} {K : Act → Prop} (h : ∀ w, C w → (execOp a.eval o).run P w = .ok (.value v) w) (hk : K (a.put o.dst v)) : o.quiet P a C K :=
  ⟨v, fun w hw => by unfold Oper.quietAt; rw [h w hw]; exact ⟨rfl, rfl⟩, hk⟩
theorem setBlock_at {w : World} {b : Nat} (hb : b < w.heap.size) (o : Obj) : (setBlock w b o).heap[b]? = some o := by
  unfold setBlock; simp [hb]
theorem setBlock_other {w : World} {b i : Nat} (o : Obj) (h : i ≠ b) : (setBlock w b o).heap[i]? = w.heap[i]? := by
  unfold setBlock; simp [Array.getElem?_setIfInBounds]; intro e; exact absurd e.symm h
theorem setBlock_below {B : Nat} {w0 w : World} {b : Nat} (hb : Below B w0 w) (h : B ≤ b) (o : Obj) : Below B w0 (setBlock w b o) :=
  ⟨hb.1, hb.2, hb.3, by unfold setBlock; simp; exact hb.4, fun k hk => (setBlock_other o (by omega)).trans (hb.5 k hk)⟩

def bn (q : Bool) : Nat := if q = true then 1 else 0
/-- The state of the loop over the forms. -/
structure PI (w : World) (p : Nat) (l : List Nat) (seen : Array Nat) (wr : World) : Prop where
  iter : wr.heap[p + 1]? = some (.mapIter (some p) 2 seen 2)
  mp : wr.heap[p]? = some (.map fEs 2)
  bel : Below p w wr
  no : ∀ q, seen.contains (bn q) = true → tryW q l = none
theorem contains_push' (seen : Array Nat) (a b : Nat) (h : (seen.push a).contains b = true) : seen.contains b = true ∨ b = a := by
  simp at h; simpa using h
theorem PI.on {w : World} {p : Nat} {l : List Nat} {seen : Array Nat} {wr w' : World} (h : PI w p l seen wr) (hb : Below wr.heap.size wr w') : PI w p l seen w' :=
  ⟨(hb.block _ (lt_of_block h.iter)).trans h.iter, (hb.block _ (lt_of_block h.mp)).trans h.mp, h.bel.trans (hb.mono (Nat.le_of_lt (lt_of_block h.mp))), h.no⟩

/-- What a step of the loop hands out. -/
structure PS (w : World) (p : Nat) (l : List Nat) (seen : Array Nat) (q : Bool) (enc : Int) (arr : Array Value) (wr W : World) : Prop where
  next : (Instr.next (.pointer (some ⟨p + 1, 0, none⟩)) false 0).run Tryd.prog wr = .ok (.tuple #[.bool true, .int .i64 enc, .agg arr]) W
  entry : (Instr.entry (.pointer (some ⟨p + 1, 0, none⟩))).run Tryd.prog W = .ok (.tuple #[.int .i64 enc, .agg arr]) W
  iter : W.heap[p + 1]? = some (.mapIter (some p) 2 (seen.push (bn q)) 2)
  mp : W.heap[p]? = some (.map fEs 2)
  bel : Below p w W
  less : (leftOf fEs (seen.push (bn q))).size < (leftOf fEs seen).size
theorem PS.done {w : World} {p : Nat} {l : List Nat} {seen : Array Nat} {q : Bool} {enc : Int} {arr : Array Value} {wr W w' : World} (h : PS w p l seen q enc arr wr W) (hb : Below W.heap.size W w') (hno : ∀ q, seen.contains (bn q) = true → tryW q l = none) (hq : tryW q l = none) : PI w p l (seen.push (bn q)) w' :=
  ⟨(hb.block _ (lt_of_block h.iter)).trans h.iter, (hb.block _ (lt_of_block h.mp)).trans h.mp, h.bel.trans (hb.mono (Nat.le_of_lt (lt_of_block h.mp))), fun q' hc => by
    rcases contains_push' _ _ _ hc with h1 | h1
    · exact hno q' h1
    · obtain rfl : q' = q := by cases q <;> cases q' <;> simp [bn] at h1 ⊢
      exact hq⟩

theorem pi_next {w : World} {p : Nat} {l : List Nat} {seen : Array Nat} {wr : World} (h : PI w p l seen wr) :
    (((Instr.next (.pointer (some ⟨p + 1, 0, none⟩)) false 0).run Tryd.prog wr = .ok (.tuple #[.bool false]) wr) ∧ tryW false l = none ∧ tryW true l = none) ∨ (∃ W, PS w p l seen false 0 aB wr W) ∨ (∃ W, PS w p l seen true 1 aQ wr W) := by
  have hold : ∀ x ∈ fEs.toList, x.born < 2 := by
    intro x hx; simp [fEs] at hx; rcases hx with rfl | rfl <;> decide
  rcases run_next_at (P := Tryd.prog) wr 0 (p + 1) p 2 2 seen fEs 2 h.iter h.mp hold (Nat.le_refl _) with ⟨h0, hn⟩ | ⟨e, he, w1, hw1, hn⟩
  · refine .inl ⟨hn, h.no false ?_, h.no true ?_⟩
    · cases hc : seen.contains (bn false) with
      | true => rfl
      | false => exfalso; simp only [bn, Bool.false_eq_true, if_false] at hc; unfold leftOf fEs at h0; simp at h0; simp at hc; exact hc h0.1
    · cases hc : seen.contains (bn true) with
      | true => rfl
      | false => exfalso; simp only [bn, if_true] at hc; unfold leftOf fEs at h0; simp at h0; simp at hc; exact hc h0.2
  · have hs := left_shrinks fEs seen e he
    have hin : e ∈ fEs.toList := by unfold leftOf at he; simp at he ⊢; exact he.1
    have hlt : p + 1 < w1.heap.size := by have := lt_of_block h.iter; rcases hw1 with rfl | rfl <;> exact this
    have hB : Below p w w1 := by rcases hw1 with rfl | rfl; exact h.bel; exact h.bel.drew
    have hm : w1.heap[p]? = some (.map fEs 2) := by rcases hw1 with rfl | rfl <;> exact h.mp
    have hnd : (fEs.toList.map (·.born)).Nodup := by decide
    have hI : (setBlock w1 (p + 1) (.mapIter (some p) 2 (seen.push e.born) 2)).heap[p + 1]? = some (.mapIter (some p) 2 (seen.push e.born) 2) := setBlock_at hlt _
    have hM : (setBlock w1 (p + 1) (.mapIter (some p) 2 (seen.push e.born) 2)).heap[p]? = some (.map fEs 2) := (setBlock_other _ (by omega)).trans hm
    have hE := run_entry_at (P := Tryd.prog) _ (p + 1) p 2 seen fEs 2 e hI hM hin hnd
    have hin2 : e = ⟨.int .i64 0, .agg aB, 0⟩ ∨ e = ⟨.int .i64 1, .agg aQ, 1⟩ := by simpa [fEs] using hin
    rcases hin2 with rfl | rfl
    · exact .inr (.inl ⟨_, hn, hE, hI, hM, setBlock_below hB (by omega) _, hs⟩)
    · exact .inr (.inr ⟨_, hn, hE, hI, hM, setBlock_below hB (by omega) _, hs⟩)

def ParsePost (l : List Nat) (w : World) (e : Ending) (w' : World) : Prop := e = .returned (.tuple #[.string (strN (parseR l).1), .int .i64 ((parseR l).2.1 : Int), .int .i64 ((parseR l).2.2 : Int)]) ∧ Below w.heap.size w w'
def stS (n : Nat) : ByteArray := ⟨#[61, 63, 117, 116, 102, 45, 56, 63]⟩ ++ ⟨#[n.toUInt8]⟩ ++ ⟨#[63]⟩

theorem framed_len {q : Bool} {l : List Nat} (h : l.length < 12) : framed q l = false := by unfold framed; rw [decide_eq_false (by omega)]; rfl
theorem framed_start {q : Bool} {l : List Nat} (h : ¬ lows (l.take 10) = lows (startF q)) : framed q l = false := by unfold framed; rw [decide_eq_false h]; simp
theorem framed_end {q : Bool} {l : List Nat} (h : ¬ l.drop (l.length - 2) = [63, 61]) : framed q l = false := by unfold framed; rw [decide_eq_false h]; simp
theorem framed_yes {q : Bool} {l : List Nat} (h0 : 12 ≤ l.length) (h1 : lows (l.take 10) = lows (startF q)) (h2 : l.drop (l.length - 2) = [63, 61]) : framed q l = true := by
  unfold framed; rw [decide_eq_true h0, decide_eq_true h1, decide_eq_true h2]; rfl
theorem bs_inner (s : ByteArray) : bs (s.extract 10 (s.size - 2)) = inner (bs s) := by rw [bs_extract]; unfold inner; rw [bs_length]
theorem tail_eq (s : ByteArray) (h : 2 ≤ s.size) : (s.extract (s.size - 2) s.size = ⟨#[63, 61]⟩) ↔ (bs s).drop ((bs s).length - 2) = [63, 61] := by
  rw [bs_length, ← bs_from]
  constructor
  · intro e; rw [e]; rfl
  · intro e; rw [← strN_bs (s.extract (s.size - 2) s.size), e]; rfl
theorem tail_b (s : ByteArray) (h : 2 ≤ s.size) {b : Bool} (hb : b = decide ((bs s).drop ((bs s).length - 2) = [63, 61])) : ((s.extract (s.size - 2) s.size).toList == ([63, 61] : List UInt8)) = b := by
  rw [hb, Bool.eq_iff_iff, decide_eq_true_eq, beq_iff_eq, ← tail_eq s h]
  constructor
  · intro e; apply ByteArray.ext; apply Array.toList_inj.1; rw [← ByteArray.toList_eq]; exact e
  · intro e; rw [e, ByteArray.toList_eq]
theorem tryW_read {q : Bool} {l : List Nat} (h : ¬ ((readW q (inner l)).2 = 0 ∧ (readW q (inner l)).1 ≠ [] ∧ prt (readW q (inner l)).1 = true)) : tryW q l = none := by
  unfold tryW; rw [if_neg (fun c => h c.2)]
theorem tryW_yes {q : Bool} {l : List Nat} (h0 : framed q l = true) (h : (readW q (inner l)).2 = 0 ∧ (readW q (inner l)).1 ≠ [] ∧ prt (readW q (inner l)).1 = true) : tryW q l = some (readW q (inner l)).1 := by
  unfold tryW; rw [if_pos ⟨h0, h⟩]
theorem start_at (q : Bool) : ∀ i, i < 10 → (startF q).getD i 0 < 128 ∧ afF ((startF q).getD i 0) < 128 ∧ afF (afF ((startF q).getD i 0)) = (startF q).getD i 0 := by
  cases q
  · have : ∀ i : Fin 10, (startF false).getD i.val 0 < 128 ∧ afF ((startF false).getD i.val 0) < 128 ∧ afF (afF ((startF false).getD i.val 0)) = (startF false).getD i.val 0 := by decide
    exact fun i h => this ⟨i, h⟩
  · have : ∀ i : Fin 10, (startF true).getD i.val 0 < 128 ∧ afF ((startF true).getD i.val 0) < 128 ∧ afF (afF ((startF true).getD i.val 0)) = (startF true).getD i.val 0 := by decide
    exact fun i h => this ⟨i, h⟩

theorem bs_stB : bs (⟨#[61, 63, 117, 116, 102, 45, 56, 63]⟩ ++ ⟨#[66]⟩ ++ ⟨#[63]⟩ : ByteArray) = startF false := by decide
theorem stB_size : (⟨#[61, 63, 117, 116, 102, 45, 56, 63]⟩ ++ ⟨#[66]⟩ ++ ⟨#[63]⟩ : ByteArray).size = 10 := by decide
theorem foldB (s : ByteArray) (w : World) (hs : 12 ≤ s.size) (he : Env w) :
    Calls Tryd.prog 42 #[.string (s.extract 0 10), .string (⟨#[61, 63, 117, 116, 102, 45, 56, 63]⟩ ++ ⟨#[66]⟩ ++ ⟨#[63]⟩)] w fun e w' => e = .returned (.bool (decide (lows ((bs s).take 10) = lows (startF false)))) ∧ Below w.heap.size w w' := by
  have := fold_any (s.extract 0 10) (⟨#[61, 63, 117, 116, 102, 45, 56, 63]⟩ ++ ⟨#[66]⟩ ++ ⟨#[63]⟩) w 10 (by rw [ByteArray.size_extract]; omega) stB_size (by omega) he (by rw [bs_stB]; exact start_at false)
  rw [bs_stB, bs_to] at this
  exact this

theorem bs_stQ : bs (⟨#[61, 63, 117, 116, 102, 45, 56, 63]⟩ ++ ⟨#[81]⟩ ++ ⟨#[63]⟩ : ByteArray) = startF true := by decide
theorem stQ_size : (⟨#[61, 63, 117, 116, 102, 45, 56, 63]⟩ ++ ⟨#[81]⟩ ++ ⟨#[63]⟩ : ByteArray).size = 10 := by decide
theorem foldQ (s : ByteArray) (w : World) (hs : 12 ≤ s.size) (he : Env w) :
    Calls Tryd.prog 42 #[.string (s.extract 0 10), .string (⟨#[61, 63, 117, 116, 102, 45, 56, 63]⟩ ++ ⟨#[81]⟩ ++ ⟨#[63]⟩)] w fun e w' => e = .returned (.bool (decide (lows ((bs s).take 10) = lows (startF true)))) ∧ Below w.heap.size w w' := by
  have := fold_any (s.extract 0 10) (⟨#[61, 63, 117, 116, 102, 45, 56, 63]⟩ ++ ⟨#[81]⟩ ++ ⟨#[63]⟩) w 10 (by rw [ByteArray.size_extract]; omega) stQ_size (by omega) he (by rw [bs_stQ]; exact start_at true)
  rw [bs_stQ, bs_to] at this
  exact this

theorem readW_len (s : ByteArray) (hs : s.size ≤ 1000000) (q : Bool) (m : List Nat × Nat) (h : m = readW q (inner (bs s))) : m.1.length ≤ 1000000 := by
  rw [h]; have h1 := (readW_inv q (inner (bs s)) (inner_lt (bs_lt s))).2; have h2 := inner_len (bs s); rw [bs_length] at h2; omega
theorem readW_lt (s : ByteArray) (q : Bool) (m : List Nat × Nat) (h : m = readW q (inner (bs s))) : ∀ x ∈ m.1, x < 256 := by
  rw [h]; exact (readW_inv q (inner (bs s)) (inner_lt (bs_lt s))).1

set_option maxHeartbeats 4000000 in
theorem parse_any (s : ByteArray) (w : World) (hs : s.size ≤ 1000000) (he : Env w) :
    Calls Tryd.prog 20 #[.string s] w (ParsePost (bs s) w) := by
  by_cases h75 : 75 < s.size
  · have PR := Lib.hid (parse_long (l := bs s) (by rw [bs_length]; exact h75))
    clear he
    go_enter Tryd.func20, Tryd.ntmps20
    go_wp2_with fail
    go_ret3
    exact ⟨by rw [PR.out]; rfl, Below.refl _ _⟩
  · have N75 : Hid (¬ 75 < (bs s).length) := Lib.hid (by rw [bs_length]; exact h75)
    obtain ⟨p, hp⟩ : ∃ p, p = w.heap.size := ⟨_, rfl⟩
    have hrg := run_range_map (P := Tryd.prog) (w.alloc (.map fEs 2)) 48 3 46 w.heap.size fEs 2 Tryd.underlying48 (heap_alloc_new w _)
    have e1 : (w.alloc (.map fEs 2)).heap.size = w.heap.size + 1 := by simp
    rw [e1] at hrg
    have P0 : PI w w.heap.size (bs s) #[] ((w.alloc (.map fEs 2)).alloc (.mapIter (some w.heap.size) 2 #[] 2)) :=
      ⟨two_block w _ _, alloc_block (heap_alloc_new w _), below_two _ _, fun q h => by simp at h⟩
    have HE := Lib.hid he; have HP := Lib.hid hp
    have C1 : Hid (∀ w, Calls Tryd.prog 27 #[] w fun e w' => e = .returned (.map (some w.heap.size)) ∧ w.alloc (.map fEs 2) = w') := fun w => forms_any w
    have PP0 := Lib.hid P0
    clear he hp e1 P0
    go_enter Tryd.func20, Tryd.ntmps20
    go_wp2_with (go_at_call 27; refine (C1.out _).mono ?_; rintro e w' ⟨rfl, rfl⟩)
    rw [← HP.out]
    rw [← HP.out] at PP0
    clear hrg C1
    go_loopg [5] 2 (fun k z wr => ∃ seen, k = (leftOf fEs seen).size ∧ PI w p (bs s) seen wr)
    case atStart => exact ⟨#[], by simp [leftOf, fEs], PP0.out⟩
    case round =>
      obtain ⟨seen, rfl, hpi⟩ := hrel
      rcases pi_next hpi with ⟨hn, t1, t2⟩ | ⟨W, hps⟩ | ⟨W, hps⟩
      · have PR := Lib.hid (parse_none N75.out t1 t2)
        have BL : Hid (Below w.heap.size w wr) := Lib.hid (by rw [← HP.out]; exact hpi.bel)
        clear hpi t1 t2
        go_wp2_with fail
        go_ret3
        exact ⟨by rw [PR.out]; rfl, BL.out⟩
      · have hn := hps.next
        have hen := hps.entry
        unfold aB at hn hen
        have HPS := Lib.hid hps; have HPI := Lib.hid hpi
        have BW0 : Hid (Below w.heap.size w W) := Lib.hid (by rw [← HP.out]; exact hps.bel)
        have zW : p + 2 ≤ W.heap.size := lt_of_block hps.iter
        clear hps hpi
        have cont : ∀ w', Below W.heap.size W w' → tryW false (bs s) = none → PI w p (bs s) (seen.push (bn false)) w' := fun w' hb ht => HPS.out.done hb HPI.out.no ht
        have CT := Lib.hid cont
        have hb2 : Below W.heap.size W (W.alloc (.cells aB 46)) := (Below.refl _ _).alloc (Nat.le_refl _) _
        have B2 := Lib.hid hb2
        clear cont hb2
        by_cases h12 : s.size < 12
        · have TN := Lib.hid (tryW_none (framed_len (q := false) (l := bs s) (by rw [bs_length]; exact h12)))
          go_wp2_with fail
          go_roundg ((leftOf fEs (seen.push (bn false))).size)
          case measure => exact HPS.out.less
          case rel => exact ⟨_, rfl, CT.out _ B2.out TN.out⟩
        · have F := Lib.hid (foldB s (W.alloc (.cells aB 46)) (by omega) (HE.out.on (BW0.out.trans (B2.out.mono BW0.out.size))))
          have c1 : (aB)[2]? = some (.func (.func 45) #[] #[]) := rfl
          have C2 : Hid ((W.alloc (.cells aB 46)).heap[W.heap.size]? = some (.cells aB 46 (0, 0))) := Lib.hid (heap_alloc_new W _)
          have S2 : Hid ((W.alloc (.cells aB 46)).heap.size = W.heap.size + 1) := Lib.hid (by simp)
          have C1 := Lib.hid c1
          clear c1
          go_wp2_with fail
          refine F.out.mono ?_
          rintro e w2 ⟨rfl, hb2⟩
          rw [S2.out] at hb2
          have c2 : w2.cell? ⟨W.heap.size, 2, none⟩ = some (.func (.func 45) #[] #[]) := kept_cell hb2 C2.out (Nat.lt_succ_self _) C1.out
          have B3 : Hid (Below W.heap.size W w2) := Lib.hid (B2.out.trans (hb2.mono (by omega)))
          have z2 : W.heap.size + 1 ≤ w2.heap.size := by have := hb2.size; rw [S2.out] at this; exact this
          clear hb2 C2 S2 B2 F hn hen C1
          obtain ⟨b1, hb1⟩ : ∃ b, b = decide (lows ((bs s).take 10) = lows (startF false)) := ⟨_, rfl⟩
          rw [← hb1]
          have HB1 := Lib.hid hb1
          clear hb1
          cases b1
          · have TN := Lib.hid (tryW_none (framed_start (q := false) (l := bs s) (of_decide_eq_false HB1.out.symm)))
            go_wp2_with fail
            go_roundg ((leftOf fEs (seen.push (bn false))).size)
            case measure => exact HPS.out.less
            case rel => exact ⟨_, rfl, CT.out _ B3.out TN.out⟩
          · by_cases hte : (bs s).drop ((bs s).length - 2) = [63, 61]
            rotate_left
            · have TN := Lib.hid (tryW_none (framed_end (q := false) (l := bs s) hte))
              have tl := tail_b s (by omega) (b := false) (by rw [decide_eq_false hte])
              clear hte
              go_wp2_with fail
              go_roundg ((leftOf fEs (seen.push (bn false))).size)
              case measure => exact HPS.out.less
              case rel => exact ⟨_, rfl, CT.out _ B3.out TN.out⟩
            have FR := Lib.hid (framed_yes (q := false) (l := bs s) (by rw [bs_length]; omega) (of_decide_eq_true HB1.out.symm) hte)
            have tl := tail_b s (by omega) (b := true) (by rw [decide_eq_true hte])
            have TL := Lib.hid tl
            clear hte
            obtain ⟨m, hm⟩ : ∃ m, m = readW false (inner (bs s)) := ⟨_, rfl⟩
            have HM := Lib.hid hm
            have RC : Hid (∀ w', Below w2.heap.size w2 w' → Calls Tryd.prog 45 #[.string (s.extract 10 (s.size - 2))] w' fun e w'' => e = .returned (.tuple #[.string (strN m.1), .int .i64 (m.2 : Int)]) ∧ Below w2.heap.size w2 w'') := Lib.hid (fun w' hw' => by
              have hsz := hw'.size
              have := form2_any (s.extract 10 (s.size - 2)) w' (by rw [ByteArray.size_extract]; omega) (HE.out.on ((BW0.out.trans (B3.out.mono BW0.out.size)).trans (hw'.mono (Nat.le_trans BW0.out.size B3.out.size)))).tab
              rw [bs_inner] at this
              refine this.mono ?_
              rintro e w'' ⟨rfl, hb⟩
              refine ⟨?_, hw'.trans (hb.mono hsz)⟩
              rw [hm]; rfl)
            have C2 : Hid (∀ w', Below w2.heap.size w2 w' → w'.cell? ⟨W.heap.size, 2, none⟩ = some (.func (.func 45) #[] #[])) := Lib.hid (fun w' hw' => (hw'.cell (p := ⟨W.heap.size, 2, none⟩) (by show W.heap.size < _; omega)).trans c2)
            have D0 : Hid (Below w2.heap.size w2 w2.drew) := Lib.hid (Below.refl _ _).drew
            clear hm c2
            go_wp2_with fail
            have wq : IntKind.i64.wrap ((s.size : Int) - 2) = (s.size : Int) - 2 := IntWalk.i64_in _ (by omega)
            have WQ := Lib.hid wq
            clear wq tl
            have hlo : (12 : Int) ≤ (s.size : Int) := by omega
            have hhi : (s.size : Int) ≤ 75 := by omega
            have hnn : (0 : Int) ≤ (s.size : Int) - 2 := by omega
            have htn : ((s.size : Int) - 2).toNat = s.size - 2 := by omega
            have HTN := Lib.hid htn
            clear htn
            refine wp_region_quiet (C := fun w' => Below w2.heap.size w2 w') mixed (by kernel_rfl) D0.out ?_
            refine BigFrame.wpQuiet_want (by kernel_rfl) (fun K hK => quiet_run (v := .pointer (some ⟨W.heap.size, 2, none⟩)) (fun w' hw' => ?_) ?_)
            · go_simp
            go_simp; refine hK _ ?_; clear hK K
            refine BigFrame.wpQuiet_want (by kernel_rfl) (fun K hK => quiet_run (v := .func (.func 45) #[] #[]) (fun w' hw' => ?_) ?_)
            · (have c := C2.out w' hw'; go_simp)
            go_simp; refine hK _ ?_; clear hK K
            refine BigFrame.wpQuiet_want (by kernel_rfl) (fun K hK => quiet_run (v := .string s) (fun w' hw' => ?_) ?_)
            · go_simp
            go_simp; refine hK _ ?_; clear hK K
            refine BigFrame.wpQuiet_want (by kernel_rfl) (fun K hK => quiet_run (v := .string (⟨#[61, 63, 117, 116, 102, 45, 56, 63]⟩ ++ ⟨#[66]⟩ ++ ⟨#[63]⟩)) (fun w' hw' => ?_) ?_)
            · go_simp
            go_simp; refine hK _ ?_; clear hK K
            refine BigFrame.wpQuiet_want (by kernel_rfl) (fun K hK => quiet_run (v := .int .i64 10) (fun w' hw' => ?_) ?_)
            · go_simp
            go_simp; refine hK _ ?_; clear hK K
            refine BigFrame.wpQuiet_want (by kernel_rfl) (fun K hK => quiet_run (v := .string s) (fun w' hw' => ?_) ?_)
            · go_simp
            go_simp; refine hK _ ?_; clear hK K
            refine BigFrame.wpQuiet_want (by kernel_rfl) (fun K hK => quiet_run (v := .int .i64 (s.size : Int)) (fun w' hw' => ?_) ?_)
            · go_simp
            go_simp; refine hK _ ?_; clear hK K
            refine BigFrame.wpQuiet_want (by kernel_rfl) (fun K hK => quiet_run (v := .int .i64 ((s.size : Int) - 2)) (fun w' hw' => ?_) ?_)
            · (have c := WQ.out; go_simp)
            go_simp; refine hK _ ?_; clear hK K
            refine BigFrame.wpQuiet_want (by kernel_rfl) (fun K hK => quiet_run (v := .string (s.extract 10 (s.size - 2))) (fun w' hw' => ?_) ?_)
            · (have c := HTN.out; go_simp; intro; omega)
            go_simp; refine hK _ ?_; clear hK K
            refine BigFrame.wpQuiet_want (by kernel_rfl) (fun K hK => ⟨.tuple #[.string (strN m.1), .int .i64 (m.2 : Int)], fun w' hw' => ?_, ?_⟩)
            · unfold Oper.quietAt
              go_simp
              exact (RC.out w' hw')
            go_simp; refine hK _ ?_; clear hK K
            refine BigFrame.wpQuiet_want (by kernel_rfl) (fun K hK => quiet_run (v := .tuple #[.string (strN m.1), .int .i64 (m.2 : Int)]) (fun w' hw' => ?_) ?_)
            · go_simp
            go_simp; refine hK _ ?_; clear hK K
            refine BigFrame.wpQuiet_want (by kernel_rfl) (fun K hK => quiet_run (v := .string (strN m.1)) (fun w' hw' => ?_) ?_)
            · go_simp
            go_simp; refine hK _ ?_; clear hK K
            refine BigFrame.wpQuiet_want (by kernel_rfl) (fun K hK => quiet_run (v := .int .i64 (m.2 : Int)) (fun w' hw' => ?_) ?_)
            · go_simp
            go_simp; refine hK _ ?_; clear hK K
            refine BigFrame.wpQuiet_want (by kernel_rfl) (fun K hK => quiet_run (v := .string (strN m.1)) (fun w' hw' => ?_) ?_)
            · go_simp
            go_simp; refine hK _ ?_; clear hK K
            refine BigFrame.wpQuiet_want (by kernel_rfl) (fun K hK => quiet_run (v := .int .i64 (m.2 : Int)) (fun w' hw' => ?_) ?_)
            · go_simp
            go_simp; refine hK _ ?_; clear hK K
            refine wpQuiet_nil ?_
            intro w3 hw3
            have B4 : Hid (Below W.heap.size W w3) := Lib.hid (B3.out.trans (hw3.mono (by omega)))
            clear hw3 RC C2 D0 HTN WQ
            have nb : ∀ h : m.1 ≠ [], m.1.length ≠ 0 := fun h e => h (List.length_eq_zero_iff.1 e)
            have ml := readW_len s hs false m HM.out
            have mlt := readW_lt s false m HM.out
            obtain ⟨t, ht⟩ : ∃ t, t = strN m.1 := ⟨_, rfl⟩
            have bt : bs t = m.1 := by rw [ht, bs_strN _ mlt]
            have ts : t.size = m.1.length := by rw [ht, strN_size]
            have BT := Lib.hid bt; have TS := Lib.hid ts; have HT := Lib.hid ht; have NB := Lib.hid nb
            rw [← ht]
            clear nb mlt bt ts ht
            by_cases m0 : m.2 = 0
            rotate_left
            · have TN := Lib.hid (tryW_read (q := false) (l := bs s) (by rw [← HM.out]; exact fun h => m0 h.1))
              have q0 : ((m.2 : Int) == 0) = false := int_ne (by omega)
              go_wp2_with fail
              go_roundg ((leftOf fEs (seen.push (bn false))).size)
              case measure => exact HPS.out.less
              case rel => exact ⟨_, rfl, CT.out _ B4.out TN.out⟩
            have q0 : ((m.2 : Int) == 0) = true := int_eq (by omega)
            by_cases m1 : m.1 = []
            · have TN := Lib.hid (tryW_read (q := false) (l := bs s) (by rw [← HM.out]; exact fun h => h.2.1 m1))
              have t0 : t = ⟨#[]⟩ := str_emp (by rw [TS.out, m1]; rfl)
              subst t0
              clear m1
              go_wp2_with fail
              go_roundg ((leftOf fEs (seen.push (bn false))).size)
              case measure => exact HPS.out.less
              case rel => exact ⟨_, rfl, CT.out _ B4.out TN.out⟩
            have n0 := str_ne (s := t) (by rw [TS.out]; exact NB.out m1)
            have PC := Lib.hid (isprt_any t w3 (by unfold maxLen; rw [TS.out]; omega))
            rw [BT.out] at PC
            have M1 := Lib.hid m1
            obtain ⟨b, hb⟩ : ∃ b, b = prt m.1 := ⟨_, rfl⟩
            rw [← hb] at PC
            have HB := Lib.hid hb
            clear hb m1
            go_wp2_with fail
            refine PC.out.mono ?_
            rintro e w4 ⟨rfl, hb4⟩
            have B5 : Hid (Below W.heap.size W w4) := Lib.hid (B4.out.trans (hb4.mono B4.out.size))
            clear hb4 PC
            cases b
            · have TN := Lib.hid (tryW_read (q := false) (l := bs s) (by rw [← HM.out]; exact fun h => by rw [← HB.out] at h; cases h.2.2))
              go_wp2_with fail
              go_roundg ((leftOf fEs (seen.push (bn false))).size)
              case measure => exact HPS.out.less
              case rel => exact ⟨_, rfl, CT.out _ B5.out TN.out⟩
            · have TY := Lib.hid (parse_one false N75.out (tryW_yes (q := false) (l := bs s) FR.out (by rw [← HM.out]; exact ⟨m0, M1.out, HB.out.symm⟩)))
              go_wp2_with fail
              go_ret3
              exact ⟨by rw [TY.out, ← HM.out, ← HT.out]; rfl, BW0.out.trans (B5.out.mono BW0.out.size)⟩
      · have hn := hps.next
        have hen := hps.entry
        unfold aQ at hn hen
        have HPS := Lib.hid hps; have HPI := Lib.hid hpi
        have BW0 : Hid (Below w.heap.size w W) := Lib.hid (by rw [← HP.out]; exact hps.bel)
        have zW : p + 2 ≤ W.heap.size := lt_of_block hps.iter
        clear hps hpi
        have cont : ∀ w', Below W.heap.size W w' → tryW true (bs s) = none → PI w p (bs s) (seen.push (bn true)) w' := fun w' hb ht => HPS.out.done hb HPI.out.no ht
        have CT := Lib.hid cont
        have hb2 : Below W.heap.size W (W.alloc (.cells aQ 46)) := (Below.refl _ _).alloc (Nat.le_refl _) _
        have B2 := Lib.hid hb2
        clear cont hb2
        by_cases h12 : s.size < 12
        · have TN := Lib.hid (tryW_none (framed_len (q := true) (l := bs s) (by rw [bs_length]; exact h12)))
          go_wp2_with fail
          go_roundg ((leftOf fEs (seen.push (bn true))).size)
          case measure => exact HPS.out.less
          case rel => exact ⟨_, rfl, CT.out _ B2.out TN.out⟩
        · have F := Lib.hid (foldQ s (W.alloc (.cells aQ 46)) (by omega) (HE.out.on (BW0.out.trans (B2.out.mono BW0.out.size))))
          have c1 : (aQ)[2]? = some (.func (.func 48) #[] #[]) := rfl
          have C2 : Hid ((W.alloc (.cells aQ 46)).heap[W.heap.size]? = some (.cells aQ 46 (0, 0))) := Lib.hid (heap_alloc_new W _)
          have S2 : Hid ((W.alloc (.cells aQ 46)).heap.size = W.heap.size + 1) := Lib.hid (by simp)
          have C1 := Lib.hid c1
          clear c1
          go_wp2_with fail
          refine F.out.mono ?_
          rintro e w2 ⟨rfl, hb2⟩
          rw [S2.out] at hb2
          have c2 : w2.cell? ⟨W.heap.size, 2, none⟩ = some (.func (.func 48) #[] #[]) := kept_cell hb2 C2.out (Nat.lt_succ_self _) C1.out
          have B3 : Hid (Below W.heap.size W w2) := Lib.hid (B2.out.trans (hb2.mono (by omega)))
          have z2 : W.heap.size + 1 ≤ w2.heap.size := by have := hb2.size; rw [S2.out] at this; exact this
          clear hb2 C2 S2 B2 F hn hen C1
          obtain ⟨b1, hb1⟩ : ∃ b, b = decide (lows ((bs s).take 10) = lows (startF true)) := ⟨_, rfl⟩
          rw [← hb1]
          have HB1 := Lib.hid hb1
          clear hb1
          cases b1
          · have TN := Lib.hid (tryW_none (framed_start (q := true) (l := bs s) (of_decide_eq_false HB1.out.symm)))
            go_wp2_with fail
            go_roundg ((leftOf fEs (seen.push (bn true))).size)
            case measure => exact HPS.out.less
            case rel => exact ⟨_, rfl, CT.out _ B3.out TN.out⟩
          · by_cases hte : (bs s).drop ((bs s).length - 2) = [63, 61]
            rotate_left
            · have TN := Lib.hid (tryW_none (framed_end (q := true) (l := bs s) hte))
              have tl := tail_b s (by omega) (b := false) (by rw [decide_eq_false hte])
              clear hte
              go_wp2_with fail
              go_roundg ((leftOf fEs (seen.push (bn true))).size)
              case measure => exact HPS.out.less
              case rel => exact ⟨_, rfl, CT.out _ B3.out TN.out⟩
            have FR := Lib.hid (framed_yes (q := true) (l := bs s) (by rw [bs_length]; omega) (of_decide_eq_true HB1.out.symm) hte)
            have tl := tail_b s (by omega) (b := true) (by rw [decide_eq_true hte])
            have TL := Lib.hid tl
            clear hte
            obtain ⟨m, hm⟩ : ∃ m, m = readW true (inner (bs s)) := ⟨_, rfl⟩
            have HM := Lib.hid hm
            have RC : Hid (∀ w', Below w2.heap.size w2 w' → Calls Tryd.prog 48 #[.string (s.extract 10 (s.size - 2))] w' fun e w'' => e = .returned (.tuple #[.string (strN m.1), .int .i64 (m.2 : Int)]) ∧ Below w2.heap.size w2 w'') := Lib.hid (fun w' hw' => by
              have hsz := hw'.size
              have := readQ_any (s.extract 10 (s.size - 2)) w' (by rw [ByteArray.size_extract]; omega)
              rw [bs_inner] at this
              refine this.mono ?_
              rintro e w'' ⟨rfl, hb⟩
              refine ⟨?_, hw'.trans (hb.mono hsz)⟩
              rw [hm]; rfl)
            have C2 : Hid (∀ w', Below w2.heap.size w2 w' → w'.cell? ⟨W.heap.size, 2, none⟩ = some (.func (.func 48) #[] #[])) := Lib.hid (fun w' hw' => (hw'.cell (p := ⟨W.heap.size, 2, none⟩) (by show W.heap.size < _; omega)).trans c2)
            have D0 : Hid (Below w2.heap.size w2 w2.drew) := Lib.hid (Below.refl _ _).drew
            clear hm c2
            go_wp2_with fail
            have wq : IntKind.i64.wrap ((s.size : Int) - 2) = (s.size : Int) - 2 := IntWalk.i64_in _ (by omega)
            have WQ := Lib.hid wq
            clear wq tl
            have hlo : (12 : Int) ≤ (s.size : Int) := by omega
            have hhi : (s.size : Int) ≤ 75 := by omega
            have hnn : (0 : Int) ≤ (s.size : Int) - 2 := by omega
            have htn : ((s.size : Int) - 2).toNat = s.size - 2 := by omega
            have HTN := Lib.hid htn
            clear htn
            refine wp_region_quiet (C := fun w' => Below w2.heap.size w2 w') mixed (by kernel_rfl) D0.out ?_
            refine BigFrame.wpQuiet_want (by kernel_rfl) (fun K hK => quiet_run (v := .pointer (some ⟨W.heap.size, 2, none⟩)) (fun w' hw' => ?_) ?_)
            · go_simp
            go_simp; refine hK _ ?_; clear hK K
            refine BigFrame.wpQuiet_want (by kernel_rfl) (fun K hK => quiet_run (v := .func (.func 48) #[] #[]) (fun w' hw' => ?_) ?_)
            · (have c := C2.out w' hw'; go_simp)
            go_simp; refine hK _ ?_; clear hK K
            refine BigFrame.wpQuiet_want (by kernel_rfl) (fun K hK => quiet_run (v := .string s) (fun w' hw' => ?_) ?_)
            · go_simp
            go_simp; refine hK _ ?_; clear hK K
            refine BigFrame.wpQuiet_want (by kernel_rfl) (fun K hK => quiet_run (v := .string (⟨#[61, 63, 117, 116, 102, 45, 56, 63]⟩ ++ ⟨#[81]⟩ ++ ⟨#[63]⟩)) (fun w' hw' => ?_) ?_)
            · go_simp
            go_simp; refine hK _ ?_; clear hK K
            refine BigFrame.wpQuiet_want (by kernel_rfl) (fun K hK => quiet_run (v := .int .i64 10) (fun w' hw' => ?_) ?_)
            · go_simp
            go_simp; refine hK _ ?_; clear hK K
            refine BigFrame.wpQuiet_want (by kernel_rfl) (fun K hK => quiet_run (v := .string s) (fun w' hw' => ?_) ?_)
            · go_simp
            go_simp; refine hK _ ?_; clear hK K
            refine BigFrame.wpQuiet_want (by kernel_rfl) (fun K hK => quiet_run (v := .int .i64 (s.size : Int)) (fun w' hw' => ?_) ?_)
            · go_simp
            go_simp; refine hK _ ?_; clear hK K
            refine BigFrame.wpQuiet_want (by kernel_rfl) (fun K hK => quiet_run (v := .int .i64 ((s.size : Int) - 2)) (fun w' hw' => ?_) ?_)
            · (have c := WQ.out; go_simp)
            go_simp; refine hK _ ?_; clear hK K
            refine BigFrame.wpQuiet_want (by kernel_rfl) (fun K hK => quiet_run (v := .string (s.extract 10 (s.size - 2))) (fun w' hw' => ?_) ?_)
            · (have c := HTN.out; go_simp; intro; omega)
            go_simp; refine hK _ ?_; clear hK K
            refine BigFrame.wpQuiet_want (by kernel_rfl) (fun K hK => ⟨.tuple #[.string (strN m.1), .int .i64 (m.2 : Int)], fun w' hw' => ?_, ?_⟩)
            · unfold Oper.quietAt
              go_simp
              exact (RC.out w' hw')
            go_simp; refine hK _ ?_; clear hK K
            refine BigFrame.wpQuiet_want (by kernel_rfl) (fun K hK => quiet_run (v := .tuple #[.string (strN m.1), .int .i64 (m.2 : Int)]) (fun w' hw' => ?_) ?_)
            · go_simp
            go_simp; refine hK _ ?_; clear hK K
            refine BigFrame.wpQuiet_want (by kernel_rfl) (fun K hK => quiet_run (v := .string (strN m.1)) (fun w' hw' => ?_) ?_)
            · go_simp
            go_simp; refine hK _ ?_; clear hK K
            refine BigFrame.wpQuiet_want (by kernel_rfl) (fun K hK => quiet_run (v := .int .i64 (m.2 : Int)) (fun w' hw' => ?_) ?_)
            · go_simp
            go_simp; refine hK _ ?_; clear hK K
            refine BigFrame.wpQuiet_want (by kernel_rfl) (fun K hK => quiet_run (v := .string (strN m.1)) (fun w' hw' => ?_) ?_)
            · go_simp
            go_simp; refine hK _ ?_; clear hK K
            refine BigFrame.wpQuiet_want (by kernel_rfl) (fun K hK => quiet_run (v := .int .i64 (m.2 : Int)) (fun w' hw' => ?_) ?_)
            · go_simp
            go_simp; refine hK _ ?_; clear hK K
            refine wpQuiet_nil ?_
            intro w3 hw3
            have B4 : Hid (Below W.heap.size W w3) := Lib.hid (B3.out.trans (hw3.mono (by omega)))
            clear hw3 RC C2 D0 HTN WQ
            have nb : ∀ h : m.1 ≠ [], m.1.length ≠ 0 := fun h e => h (List.length_eq_zero_iff.1 e)
            have ml := readW_len s hs true m HM.out
            have mlt := readW_lt s true m HM.out
            obtain ⟨t, ht⟩ : ∃ t, t = strN m.1 := ⟨_, rfl⟩
            have bt : bs t = m.1 := by rw [ht, bs_strN _ mlt]
            have ts : t.size = m.1.length := by rw [ht, strN_size]
            have BT := Lib.hid bt; have TS := Lib.hid ts; have HT := Lib.hid ht; have NB := Lib.hid nb
            rw [← ht]
            clear nb mlt bt ts ht
            by_cases m0 : m.2 = 0
            rotate_left
            · have TN := Lib.hid (tryW_read (q := true) (l := bs s) (by rw [← HM.out]; exact fun h => m0 h.1))
              have q0 : ((m.2 : Int) == 0) = false := int_ne (by omega)
              go_wp2_with fail
              go_roundg ((leftOf fEs (seen.push (bn true))).size)
              case measure => exact HPS.out.less
              case rel => exact ⟨_, rfl, CT.out _ B4.out TN.out⟩
            have q0 : ((m.2 : Int) == 0) = true := int_eq (by omega)
            by_cases m1 : m.1 = []
            · have TN := Lib.hid (tryW_read (q := true) (l := bs s) (by rw [← HM.out]; exact fun h => h.2.1 m1))
              have t0 : t = ⟨#[]⟩ := str_emp (by rw [TS.out, m1]; rfl)
              subst t0
              clear m1
              go_wp2_with fail
              go_roundg ((leftOf fEs (seen.push (bn true))).size)
              case measure => exact HPS.out.less
              case rel => exact ⟨_, rfl, CT.out _ B4.out TN.out⟩
            have n0 := str_ne (s := t) (by rw [TS.out]; exact NB.out m1)
            have PC := Lib.hid (isprt_any t w3 (by unfold maxLen; rw [TS.out]; omega))
            rw [BT.out] at PC
            have M1 := Lib.hid m1
            obtain ⟨b, hb⟩ : ∃ b, b = prt m.1 := ⟨_, rfl⟩
            rw [← hb] at PC
            have HB := Lib.hid hb
            clear hb m1
            go_wp2_with fail
            refine PC.out.mono ?_
            rintro e w4 ⟨rfl, hb4⟩
            have B5 : Hid (Below W.heap.size W w4) := Lib.hid (B4.out.trans (hb4.mono B4.out.size))
            clear hb4 PC
            cases b
            · have TN := Lib.hid (tryW_read (q := true) (l := bs s) (by rw [← HM.out]; exact fun h => by rw [← HB.out] at h; cases h.2.2))
              go_wp2_with fail
              go_roundg ((leftOf fEs (seen.push (bn true))).size)
              case measure => exact HPS.out.less
              case rel => exact ⟨_, rfl, CT.out _ B5.out TN.out⟩
            · have TY := Lib.hid (parse_one true N75.out (tryW_yes (q := true) (l := bs s) FR.out (by rw [← HM.out]; exact ⟨m0, M1.out, HB.out.symm⟩)))
              go_wp2_with fail
              go_ret3
              exact ⟨by rw [TY.out, ← HM.out, ← HT.out]; rfl, BW0.out.trans (B5.out.mono BW0.out.size)⟩
end Go.Proofs.YtbgggeobpiaamaaDoor
