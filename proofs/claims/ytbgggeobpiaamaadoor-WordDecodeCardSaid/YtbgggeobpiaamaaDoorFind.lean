/- Find. -/
import Derived.Test.YtbgggeobpiaamaaDoorTok
import Derived.Test.YtbgggeobpiaamaaDoorParse
namespace Go.Proofs.YtbgggeobpiaamaaDoor
open Go.RowKit Go.Shelf
attribute [local go_sem] Oper.semAt_some
set_option linter.unusedVariables false
set_option maxRecDepth 100000

/-- The cells of places. -/
def plC (xs : List (Nat × Nat)) : List Value := xs.flatMap fun x => [.int .i64 (x.1 : Int), .int .i64 (x.2 : Int)]
theorem plC_snoc (xs : List (Nat × Nat)) (x : Nat × Nat) : plC (xs ++ [x]) = plC xs ++ [.int .i64 (x.1 : Int), .int .i64 (x.2 : Int)] := by simp [plC]
def FindPost (l : List Nat) (w : World) (e : Ending) (w' : World) : Prop :=
  ∃ v, e = .returned v ∧ w'.ownsRow w.heap.size 36 2 v (findR l).length (plC (findR l)) ∧ Below w.heap.size w w'
/-- The places among the first tokens. -/
def flT (l : List Nat) {n : Nat} (pre : List (Tk n)) : List (Nat × Nat) := (pre.map (·.1)).filter (okTok l)
theorem flT_hit (l : List Nat) {n : Nat} (pre : List (Tk n)) (x : Tk n) (h : okTok l x.1 = true) : flT l (pre ++ [x]) = flT l pre ++ [x.1] := by simp [flT, h]
theorem flT_miss (l : List Nat) {n : Nat} (pre : List (Tk n)) (x : Tk n) (h : okTok l x.1 = false) : flT l (pre ++ [x]) = flT l pre := by simp [flT, h]
theorem flT_len (l : List Nat) {n : Nat} (pre : List (Tk n)) : (flT l pre).length ≤ pre.length := by have := List.length_filter_le (okTok l) (pre.map (·.1)); simpa [flT] using this
theorem infoPl : (Tryd.prog.info? 36).map (fun i => (i.zero, i.size, i.bytes)) = some (some (.agg #[.int .i64 0, .int .i64 0]), 2, 16) := by kernel_rfl
/-- A block of cells lies as it lay wherever no cells turn. -/
theorem block_own {β : Type} (B : Nat) (cs : β → Array Value) (t : TypeId) : Own (fun s W => W.heap[B]? = some (.cells (cs s) t (0, 0))) := fun s X Y row hs hg hrow =>
  (hg.block B (lt_of_block hs) (fun e' => by obtain ⟨o, ho, hc⟩ := hrow B e'.symm; rw [hs] at ho; cases ho; cases hc)).trans hs
theorem keeps_below {W w2 : World} (hb : Below W.heap.size W w2) (B : Nat) : KeepsFrom B W w2 := ⟨hb.size, fun k o _ hk _ => (hb.block k (lt_of_block hk)).trans hk⟩
theorem boxed_below {W w2 : World} {B : Nat} {t : TypeId} {v : Value} (h : Boxed W B t v) (hb : Below W.heap.size W w2) : Boxed w2 B t v := (hb.block B h.lt).trans h
theorem owns_below {W w2 : World} {base e size n : Nat} {v : Value} {xs : List Value} (h : W.ownsRow base e size v n xs) (hb : Below W.heap.size W w2) : w2.ownsRow base e size v n xs := by
  rcases h.2 with ⟨rfl, h0⟩ | ⟨g, cap, cur, rfl, hg, hgb, r⟩
  · exact ⟨h.1, .inl ⟨rfl, h0⟩⟩
  · exact ⟨h.1, .inr ⟨g, cap, cur, rfl, hg, (hb.block g (lt_of_block hgb)).trans hgb, r⟩⟩
/-- What holds between two rounds. -/
def FI (w : World) (p : Nat) (s : ByteArray) (pre : List (Tk s.size)) (W : World) : Prop :=
  (∃ v, Boxed W (p + 1) 31 v ∧ W.ownsRow p 36 2 v (flT (bs s) pre).length (plC (flT (bs s) pre)) ∧ True) ∧ (Boxed W p 9 (.string s) ∧ (Boxed W (p + 2) 9 (.string s) ∧ Below p w W))
theorem FI.own (w : World) (p : Nat) (s : ByteArray) (hp : p ≤ w.heap.size) (B : Nat) (hB : p ≤ B) : OwnFrom B (FI w p s) :=
  OwnFrom.and (Own.from (holdsRow_own p (p + 1) 31 36 2 (fun pre => (flT (bs s) pre).length) (fun pre => plC (flT (bs s) pre)) (fun _ _ => True)) _)
    (OwnFrom.and (Own.from (boxed_own p 9 (fun _ => .string s)) _) (OwnFrom.and (Own.from (boxed_own (p + 2) 9 (fun _ => .string s)) _) (ownFrom_below hp hB)))
theorem FI.on {w : World} {p : Nat} {s : ByteArray} {pre : List (Tk s.size)} {W W' : World} (h : FI w p s pre W) (hb : Below W.heap.size W W') : FI w p s pre W' := by
  obtain ⟨⟨v, h1, h2, _⟩, h3, h4, h5⟩ := h
  exact ⟨⟨v, boxed_below h1 hb, owns_below h2 hb, trivial⟩, boxed_below h3 hb, boxed_below h4 hb, h5.trans (hb.mono (Nat.le_of_lt h3.lt))⟩

set_option maxHeartbeats 4000000 in
theorem find_any (s : ByteArray) (w : World) (hs : s.size ≤ 1000000) (he : Env w) :
    Calls Tryd.prog 16 #[.string s] w (FindPost (bs s) w) := by
  by_cases hl : 16384 < s.size
  · have F0 : Hid (findR (bs s) = []) := Lib.hid (by unfold findR; rw [if_pos (by rw [bs_length]; exact hl)])
    clear he
    go_enter Tryd.func16, Tryd.ntmps16
    go_wp2_with fail
    go_ret
    exact ⟨_, rfl, by rw [F0.out]; exact World.ownsRow_nil _ _ _ _, (Below.refl _ _).alloc (Nat.le_refl _) _⟩
  · have F0 : Hid (findR (bs s) = (toks (bs s)).filter (okTok (bs s))) := Lib.hid (by unfold findR; rw [if_neg (by rw [bs_length]; exact hl)])
    have HE := Lib.hid he
    obtain ⟨i0, hi, hz0, hz1, hz2⟩ := info_parts infoPl
    have d10 : decide ((16384 : Int) < (s.size : Int)) = false := by simp; omega
    clear he
    refine (callsIn_wide (n := 5)).1 ?_
    refine callsIn_of_wp_marks Tryd.func16 rfl trivial ?_ rfl
    simp only [Tryd.ntmps16, List.size_toArray, List.length_cons, List.length_nil, Nat.reduceAdd, Nat.reduceSub, Array.replicate_succ, Array.replicate_zero, List.push_toArray, List.append_toArray, List.nil_append, List.cons_append]
    gi_wp2_with (refine ⟨trivial, ?_⟩; gi_at_call 37; refine (tok_in Fence.wide _ trivial rfl _ _).mono ?_; rintro e w' ⟨rfl, rfl⟩)
    obtain ⟨p, hp⟩ : ∃ p, p = w.heap.size := ⟨_, rfl⟩
    obtain ⟨W0, hW0⟩ : ∃ W0, (((w.alloc (.cells #[.string s] 9)).alloc (.cells #[.slice none 0 0] 31)).alloc (.cells #[.string s] 9)) = W0 := ⟨_, rfl⟩
    have z0 : W0.heap.size = p + 3 := by rw [← hW0, hp]; simp
    have i0' : FI w p s [] W0 := by
      rw [← hW0, hp]
      refine ⟨⟨.slice none 0 0, ?_, World.ownsRow_nil _ _ _ _, trivial⟩, ?_, ?_, ((((Below.refl _ w).alloc (Nat.le_refl _) _).alloc (by simp) _).alloc (by simp; omega) _)⟩
      · have := (Boxed.new (w.alloc (.cells #[.string s] 9)) 31 (.slice none 0 0)).alloc (.cells #[.string s] 9)
        rwa [World.size_alloc] at this
      · exact ((Boxed.new w 9 (.string s)).alloc _).alloc _
      · have := Boxed.new ((w.alloc (.cells #[.string s] 9)).alloc (.cells #[.slice none 0 0] 31)) 9 (.string s)
        rw [World.size_alloc, World.size_alloc] at this
        exact this
    rw [hW0, ← hp]
    have hc0 : W0.cell? ⟨p + 2, 0, none⟩ = some (.string s) := i0'.2.2.1.cell
    have HP := Lib.hid hp
    clear hW0 hp
    refine wpIn_rangeFunc_ownH (F := Fence.wide) (n := 5) rfl (by omega) (gf := 63) (lb := #[.pointer (some ⟨p + 2, 0, none⟩)]) rfl trivial (enters_of Tryd.func63 (by kernel_rfl) rfl)
      (tok_stops Fence.wide 4 trivial rfl (by omega) (p + 2) s hs W0 (by omega) hc0) (fun h k => Eq.trans k h) ?keep (Below.refl _ _) (fun _ => rfl)
      (FI w p s) (fun _ _ _ => False) (FI.own w p s (by rw [HP.out]; exact Nat.le_refl _) _ (by omega)) (fun _ _ _ _ _ hs _ _ => hs) i0'
      (fun x a' W => ∃ Bx, (p + 2 < Bx ∧ W.heap[Bx]? = some (.cells #[.int .i64 (x.1.1 : Int), .int .i64 (x.1.2 : Int)] 36 (0, 0))) ∧ a' = { tmps := #[.string s, .pointer (some ⟨p, 0, none⟩), .slice none 0 0, .pointer (some ⟨p + 1, 0, none⟩), .pointer (some ⟨Bx, 0, none⟩), undef, undef, undef, .string s, .int .i64 (s.size : Int), .bool false, .string s, .func (.func 63) #[] #[.pointer (some ⟨p + 2, 0, none⟩)], .agg #[.int .i64 (x.1.1 : Int), .int .i64 (x.1.2 : Int)], undef, undef, undef, undef, undef, undef, undef, undef, undef, undef, undef, undef, undef, undef, undef, undef, undef, undef], defers := [] })
      ?ax ?assign ?body ?done ?stop
    case keep =>
      intro W l o o' hl _ _ _
      show (W.putObj l o').heap[p + 2]? = W.heap[p + 2]?
      exact (grownBy_putObj' W l o').block _ (by have := lt_of_block ‹_›; omega) (fun e => by cases e; omega)
    case ax =>
      intro x a' _ W W' row hh hg hr
      obtain ⟨Bx, ⟨h1, h2⟩, h3⟩ := hh
      exact ⟨Bx, ⟨h1, block_own Bx (fun _ : Unit => #[.int .i64 (x.1.1 : Int), .int .i64 (x.1.2 : Int)]) 36 () W W' row h2 hg (fun r e => (hr r e).2)⟩, h3⟩
    case assign =>
      rintro l pre x W K hfi hK
      unfold tkV
      gi_wp2
      refine hK _ _ (keeps_below ((Below.refl _ W).alloc (Nat.le_refl _) _) _) ?_ (hfi.on ((Below.refl _ W).alloc (Nat.le_refl _) _)) ⟨W.heap.size, ⟨hfi.2.2.1.lt, heap_alloc_new W _⟩, rfl⟩
      exact Below.heap_alloc W _ _ hfi.2.2.1.lt
    case body =>
      rintro l pre x a' W hlW ⟨r, hr⟩ hfi ⟨Bx, ⟨hBx, hbl⟩, rfl⟩ hlt
      obtain ⟨⟨a, b⟩, hab, hbn⟩ := x
      simp only at hab hbn hbl ⊢
      have cs := hfi.2.1.cell
      have c0 : W.cell? ⟨Bx, 0, none⟩ = some (.int .i64 (a : Int)) := cell_of_row W Bx 0 _ _ _ hbl
      have c1 : W.cell? ⟨Bx, 1, none⟩ = some (.int .i64 (b : Int)) := cell_of_row W Bx 1 _ _ _ hbl
      have hx : (s.extract a b).size ≤ 1000000 := by rw [ByteArray.size_extract]; omega
      have hbs : bs (s.extract a b) = cut (bs s) a b := by rw [bs_extract]; rfl
      have EW : Env W := HE.out.on (by rw [← HP.out]; exact hfi.2.2.2)
      have PC := Lib.hid (parse_any (s.extract a b) W hx EW)
      rw [hbs] at PC
      have HF := Lib.hid hfi; have HBL := Lib.hid hbl
      clear hx hbs EW hfi hbl hr
      obtain ⟨m, hm⟩ : ∃ m, m = parseR (cut (bs s) a b) := ⟨_, rfl⟩
      have okv : okTok (bs s) (a, b) = decide (m.2.2 = 0) := by rw [hm]; rfl
      have OK := Lib.hid okv
      unfold ParsePost at PC
      rw [← hm] at PC
      clear okv hm
      gi_wp2_with fail
      refine ⟨trivial, ?_⟩
      refine (CallsIn.inRound l (callsIn_wide.2 PC.out)).mono ?_
      rintro e w2 ⟨rfl, hb2⟩
      have FI2 := Lib.hid (HF.out.on hb2)
      have KB2 : Hid (KeepB (p + 2) W w2) := Lib.hid (hb2.block _ HF.out.2.2.1.lt)
      have KF2 := Lib.hid (keeps_below hb2 W0.heap.size)
      have BL2 : w2.heap[Bx]? = some (.cells #[.int .i64 (a : Int), .int .i64 (b : Int)] 36 (0, 0)) := (hb2.block _ (lt_of_block HBL.out)).trans HBL.out
      clear hb2 PC c0 c1 cs
      by_cases m0 : m.2.2 = 0
      · have q0 : ((m.2.2 : Int) == 0) = true := int_eq (by omega)
        have HIT : Hid (okTok (bs s) (a, b) = true) := Lib.hid (by rw [OK.out, decide_eq_true m0])
        have c0 : w2.cell? ⟨Bx, 0, none⟩ = some (.int .i64 (a : Int)) := cell_of_row w2 Bx 0 _ _ _ BL2
        have c1 : w2.cell? ⟨Bx, 1, none⟩ = some (.int .i64 (b : Int)) := cell_of_row w2 Bx 1 _ _ _ BL2
        have zB := lt_of_block BL2
        obtain ⟨⟨v, hv, hrow, _⟩, hbs, hbt, hbel⟩ := FI2.out
        have cv := hv.cell
        have fl := flT_len (bs s) pre
        obtain ⟨k, hk⟩ : ∃ k, k = (flT (bs s) pre).length := ⟨_, rfl⟩
        rw [← hk] at hrow fl
        have HK := Lib.hid hk; have HROW := Lib.hid hrow; have HV := Lib.hid hv; have HBEL := Lib.hid hbel; have HBT := Lib.hid hbt; have HBS := Lib.hid hbs
        clear hk hrow hv hbel hbt hbs FI2 BL2
        gi_wp2_with (gi_at_builtin; refine wpListIn_append_own _ rfl _ _ 31 rfl p 36 i0 (.agg #[.int .i64 0, .int .i64 0]) 2 16 Tryd.underlying31 hi hz0 hz1 hz2 rfl (by decide) _ _ _ rfl (HROW.out.alloc _) ⟨w2.heap.size, 0, none⟩ 1 1 [.int .i64 (a : Int), .int .i64 (b : Int)] rfl rfl (World.news_of_block (cs := #[.int .i64 (a : Int), .int .i64 (b : Int)]) (t := 36) (fr := (0, 0)) (heap_alloc_new w2 _)) (by simp [Value.oneCell']) (by unfold maxLen; omega) (by omega) (by have := HBEL.out.size; simp; omega) ?_; intro v' w1 hown' hgrow _; obtain ⟨g', cap', rfl⟩ := ownsRow_succ hown'; obtain ⟨hv1, hv2, hr2, hk2, hb2⟩ := HV.out.appended (by decide) HROW.out (Nat.le_of_lt HBS.out.lt) (by omega) hown' hgrow; have hc1 := hv1.cell; have hf1 := hv1.frozen)
        have nr1 := HBT.out.not_row (by decide) HROW.out
        have nr2 := HBS.out.not_row (by decide) HROW.out
        have bt' : Boxed (w1.setCell ⟨p + 1, 0, none⟩ (.slice (some ⟨g', 0, none⟩) (k + 1) cap')) (p + 2) 9 (.string s) := ((HBT.out.alloc _).kept hgrow nr1).other (by omega) _
        have bs' : Boxed (w1.setCell ⟨p + 1, 0, none⟩ (.slice (some ⟨g', 0, none⟩) (k + 1) cap')) p 9 (.string s) := ((HBS.out.alloc _).kept hgrow nr2).other (by omega) _
        refine ⟨KF2.out.trans (hk2.from _), bt'.trans HF.out.2.2.1.symm, ⟨⟨_, hv2, ?_, trivial⟩, bs', bt', HBEL.out.trans hb2⟩⟩
        rw [flT_hit (bs s) pre _ HIT.out, plC_snoc, List.length_append, ← HK.out]
        exact hr2
      · have q0 : ((m.2.2 : Int) == 0) = false := int_ne (by omega)
        have MISS : Hid (okTok (bs s) (a, b) = false) := Lib.hid (by rw [OK.out, decide_eq_false m0])
        gi_wp2
        exact ⟨KF2.out, KB2.out, by unfold FI at *; rw [flT_miss (bs s) pre _ MISS.out]; exact FI2.out⟩
    case done =>
      rintro D ys W hD hys hfi hK
      obtain ⟨⟨v, hv, hrow, _⟩, _, _, hB⟩ := hfi
      have hc := hv.cell
      have hfe : flT (bs s) ys = findR (bs s) := by rw [F0.out, ← hys]; rfl
      rw [hfe] at hrow
      have HROW := Lib.hid hrow; have HBB := Lib.hid hB
      clear hfe hrow hv hys hB
      gi_wp2
      refine ⟨by simp, .inl ⟨_, _, rfl, run_takeDeferred hK, ?_⟩⟩
      exact ⟨_, results_tmp rfl _ _ _, v, rfl, by rw [← HP.out]; exact ownsRow_putObj HROW.out _ hK rfl, by rw [← HP.out]; exact HBB.out.trans (belowK_b (w := w) (by rw [HP.out]; exact Nat.le_refl _) W D _ _ (by rw [← HP.out]; omega) hK rfl rfl)⟩
    case stop =>
      rintro D c pre W _ _ h _
      exact h.elim
end Go.Proofs.YtbgggeobpiaamaaDoor
