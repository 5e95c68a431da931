/- (*Encoder).Write. -/
import Derived.Test.YtochlfmajkkddaaDoorEncr
namespace Go.Proofs.YtochlfmajkkddaaDoor
open Go.RowKit Go.Maps
set_option linter.unusedVariables false

theorem step_copy_run {P : Program} {ops : Array Oper} {o : Oper} {a : Act} {w : World} {K : Act → World → Prop} {Q : Exit → Act → World → Prop} {E : Prop} (hgd : o.guard = none) (d s : Operand) (dT sT : TypeId)
    (ho : o.op = .call { callee := .builtin .copy, args := #[d, s], argTypes := #[dT, sT] }) (v1 v2 : Value) (hd : a.eval d = v1) (hs : a.eval s = v2) (v' : Value) (w' : World)
    (hr : (Builtin.copy_ #[dT, sT] o.type #[v1, v2]).run P w = .ok v' w') (h : K (a.put o.dst v') w') :
    if Region.wanted o (yielded ops a.tmps) = true then Oper.wp P o a w K Q else E := by
  have hw : Region.wanted o (yielded ops a.tmps) = true := by simp [Region.wanted, hgd]
  rw [if_pos hw]
  unfold Oper.wp execOp
  simp only [ho, resolve, invoke, builtin, Sem.run_bind, Sem.run_pure, Result.andThen_ok, List.map_toArray, List.map_cons, List.map_nil, hd, hs, hr]
  exact h

theorem run_copy_zero {P : Program} (w : World) (dT sT ty elem : TypeId) (a : Addr) (dLen dCap : Nat) (sp : Option Addr) (c : Nat) (hu : P.underlying dT = some (.slice elem)) (hs : (P.info? elem).map (·.size) = some 1) :
    (Builtin.copy_ #[dT, sT] ty #[.slice (some a) dLen dCap, .slice sp 0 c]).run P w = .ok (.int .i64 0) w := by
  cases hq : P.info? elem with
  | none => simp [hq] at hs
  | some i =>
    cases sp <;> simp [Builtin.copy_, run_underlying hu, Builtin.lenOf, Builtin.firstCells, sizeOf, typeInfo, hq, storeCells, loadCells, loadCellsFrom, goInt]

theorem info5s : (Tryd.prog.info? 5).map (·.size) = some 1 := by kernel_rfl

/-- What Write leaves. -/
def WrPost (w : World) (b n r0 r1 : Nat) (l : List Nat) (e : Ending) (w' : World) : Prop :=
  e = .returned (.tuple #[.string (strN (encF ((restOf n r0 r1 ++ l).take ((n % 3 + l.length) / 3 * 3)))), .int .i64 0]) ∧
  (∃ q0 q1, En w' b (n + l.length) q0 q1 false ∧ q0 < 256 ∧ q1 < 256 ∧ restOf (n + l.length) q0 q1 = (restOf n r0 r1 ++ l).drop ((n % 3 + l.length) / 3 * 3)) ∧
  (∀ k, k < w.heap.size → k ≠ b → w'.heap[k]? = w.heap[k]?) ∧ Below b w w'

/-- The rest behind a copy of what is left over. -/
theorem rest_copy {r0 r1 n m : Nat} {t : List Nat} (ht : t.length = (n + m) % 3) (h0 : r0 < 256) (h1 : r1 < 256) (hl : ∀ x ∈ t, x < 256) : ∃ q0 q1, t ++ [r0, r1].drop t.length = [q0, q1] ∧ q0 < 256 ∧ q1 < 256 ∧ restOf (n + m) q0 q1 = t := by
  match t, ht, hl with
  | [], ht, _ => exact ⟨r0, r1, rfl, h0, h1, by unfold restOf; rw [← ht]; rfl⟩
  | [x], ht, hl => exact ⟨x, r1, rfl, hl x (by simp), h1, by unfold restOf; rw [← ht]; rfl⟩
  | [x, y], ht, hl => exact ⟨x, y, rfl, hl x (by simp), hl y (by simp), by unfold restOf; rw [← ht]; rfl⟩
  | x :: y :: z :: r, ht, _ => simp at ht; omega

set_option maxHeartbeats 1000000 in
theorem ewrite_any (w : World) (b n r0 r1 : Nat) (a : Option Addr) (cap : Nat) (l : List Nat) (h : En w b n r0 r1 false) (h0 : r0 < 256) (h1 : r1 < 256) (hr : Rd w a l) (hz : a = none → cap = 0) (hn : n + l.length ≤ 131072) (ht : Tab w) (hb0 : b ≠ 0) :
    Calls Tryd.prog 22 #[.pointer (some ⟨b, 0, none⟩), .slice a l.length cap] w (WrPost w b n r0 r1 l) := by
  obtain ⟨m, hm⟩ : ∃ m, m = l.length := ⟨_, rfl⟩
  obtain ⟨p, hp⟩ : ∃ p, p = n % 3 := ⟨_, rfl⟩
  have h3 := h.c3
  have hc := h.c0
  have hrl : (restOf n r0 r1).length = p := by rw [rest_len, hp]
  have ep : (n : Int) % 3 = (p : Int) := by omega
  have etm : (n : Int).tmod 3 = (p : Int) := by rw [Int.tmod_eq_emod_of_nonneg (by omega)]; exact ep
  have ltb := lt_of_block h
  -- the world at Concat
  obtain ⟨w1, hw1⟩ : ∃ w1, w1 = (w.alloc (.cells #[.slice (some ⟨b, 1, none⟩) p 2, .slice a m cap] 22)).drew := ⟨_, rfl⟩
  have b1 : Below w.heap.size w w1 := by rw [hw1]; exact ((Below.refl _ _).alloc (Nat.le_refl _) _).drew
  have hB1 : w1.heap[w.heap.size]? = some (.cells #[.slice (some ⟨b, 1, none⟩) p 2, .slice a m cap] 22 (0, 0)) := by rw [hw1]; exact heap_alloc_new w _
  have C1 := concat2 w1 w.heap.size (some ⟨b, 1, none⟩) a p m 2 cap (restOf n r0 r1) l (by rw [cellB hB1]; rfl) (by rw [cellB hB1]; rfl) (lt_of_block hB1) hrl hm.symm ((h.rd h0 h1).below b1) (hr.below b1) (fun e => by cases e) hz (by omega) (by omega)
  have E1 := Lib.hid (h.below b1)
  have HC := Lib.hid C1; have B1 := Lib.hid b1; have T1 := Lib.hid (ht.below b1 ht.size); have HW1 := Lib.hid hw1; have HRL := Lib.hid hrl; have HM := Lib.hid hm; have HR := Lib.hid hr.lt; have HPP := Lib.hid hp; have RLT := Lib.hid (h.rd h0 h1).lt; have HE := Lib.hid h
  have hmn : n + m ≤ 131072 := by omega
  have p0 : (0 : Int) ≤ (p : Int) := by omega
  have p2 : (p : Int) ≤ 2 := by omega
  have hp2 : p ≤ 2 := by omega
  have ew : IntKind.i64.wrap ((n : Int) % 3) = (p : Int) := by rw [ep]; exact IntWalk.i64_in _ (by omega)
  rw [← hm]
  clear C1 hw1 hrl hm hr hB1 b1 hz ht hp h
  have HCC : Hid (∃ w1', w1' = w1) := ⟨_, rfl⟩
  go_enter Tryd.func22, Tryd.ntmps22
  go_wp2_with fail
  go_region_held3 (fun w' => w'.cell? ⟨b, 0, none⟩ = some (.int .i64 (n : Int))) (first | go_keep | exact HE.out.c0 | exact E2.out.c0) (first | (go_at_call 39; rw [← HW1.out]; refine HC.out.mono ?_; rintro e w2 ⟨v, rfl, hown, hbl⟩; have E2 := Lib.hid (E1.out.below hbl); have OW := Lib.hid hown; have BL := Lib.hid hbl; obtain ⟨ao, co, rfl⟩ := own_shape hown; clear hown hbl))
  all_goals clear HCC
  have e2c := E2.out.c0
  have hN : p + m ≤ 131074 := by omega
  obtain ⟨wh, hwh⟩ : ∃ x, x = (p + m) / 3 * 3 := ⟨_, rfl⟩
  have ewh : ((p : Int) + (m : Int)) / 3 * 3 = (wh : Int) := by omega
  have hwl : wh ≤ p + m := by omega
  obtain ⟨rm, hrm⟩ : ∃ x, x = p + m - wh := ⟨_, rfl⟩
  have hr2 : rm ≤ 2 := by omega
  have WH := Lib.hid hwh; have RM := Lib.hid hrm
  -- the list and its rest
  obtain ⟨A, hA⟩ : ∃ A, A = restOf n r0 r1 ++ l := ⟨_, rfl⟩
  have hAl : A.length = p + m := by rw [hA, List.length_append, HRL.out, ← HM.out]
  have hA256 : ∀ x ∈ A, x < 256 := by
    intro x hx
    rw [hA] at hx
    rcases List.mem_append.1 hx with h | h
    · exact RLT.out x h
    · exact HR.out x h
  have htl : (A.drop wh).length = (n + m) % 3 := by rw [List.length_drop, hAl]; have := HPP.out; omega
  obtain ⟨q0, q1, hq, hq0, hq1, hqr⟩ := rest_copy (r0 := r0) (r1 := r1) htl h0 h1 (fun x hx => hA256 x (List.mem_of_mem_drop hx))
  have OW2 := OW.out
  rw [← hA] at OW2
  -- what the copy does
  have hbw2 : b < w2.heap.size := lt_of_block E2.out
  have hneb : (Value.slice ao (p + m) co).ownBlock ≠ some b := fun e => by
    have h5 := (OW2.lt b e).1
    have h6 := B1.out.size
    omega
  have hcopy : ∃ w3 x, (∀ sp c, (rm = 0 ∨ ∃ g, ao = some ⟨g, 0, none⟩ ∧ sp = some ⟨g, wh, none⟩) → (Builtin.copy_ #[22, 22] 3 #[.slice (some ⟨b, 1, none⟩) 2 2, .slice sp rm c]).run Tryd.prog w2.drew = .ok (.int .i64 x) w3) ∧
      En w3 b n q0 q1 false ∧ (∀ k, k ≠ b → w3.heap[k]? = w2.heap[k]?) ∧ w3.heap.size = w2.heap.size ∧ w3.os = w2.os ∧ w3.tape = w2.tape ∧ w3.output = w2.output ∧ w3.ownsRow w1.heap.size 5 1 (.slice ao (p + m) co) (p + m) (A.map U) := by
    by_cases hr0 : rm = 0
    · have hnil : A.drop wh = [] := List.eq_nil_of_length_eq_zero (by rw [List.length_drop, hAl]; omega)
      rw [hnil] at hq
      simp only [List.length_nil, List.drop_zero, List.nil_append, List.cons.injEq, and_true] at hq
      obtain ⟨rfl, rfl⟩ := hq
      refine ⟨w2.drew, 0, fun sp c _ => ?_, E2.out, fun k _ => rfl, rfl, rfl, rfl, rfl, OW2⟩
      rw [hr0]
      exact run_copy_zero w2.drew 22 22 3 5 ⟨b, 1, none⟩ 2 2 sp c Tryd.underlying22 info5s
    · have hdl : ((A.drop wh).map U).length = rm := by rw [List.length_map, List.length_drop, hAl, hrm]
      have hcells : ((#[Value.int .i64 n, U r0, U r1, .bool false] : Array Value).toList.take 1 ++ (A.drop wh).map U ++ (#[Value.int .i64 n, U r0, U r1, .bool false] : Array Value).toList.drop (1 + ((A.drop wh).map U).length)).toArray = #[Value.int .i64 n, U q0, U q1, .bool false] := by
        have hq' : (A.drop wh).map U ++ [U r0, U r1].drop (A.drop wh).length = [U q0, U q1] := by
          have h8 := congrArg (List.map U) hq
          rw [List.map_append] at h8
          have h9 : List.map U ([r0, r1].drop (A.drop wh).length) = [U r0, U r1].drop (A.drop wh).length := List.map_drop
          rw [h9] at h8
          exact h8
        have h5 : (A.drop wh).length ≤ 2 := by rw [List.length_drop, hAl]; omega
        have h6 : ([Value.int .i64 n, U r0, U r1, .bool false]).drop (1 + ((A.drop wh).map U).length) = [U r0, U r1].drop (A.drop wh).length ++ [.bool false] := by
          rw [List.length_map]
          rcases (by omega : (A.drop wh).length = 0 ∨ (A.drop wh).length = 1 ∨ (A.drop wh).length = 2) with e | e | e <;> rw [e] <;> rfl
        show ([Value.int .i64 n] ++ (A.drop wh).map U ++ ([Value.int .i64 n, U r0, U r1, .bool false]).drop (1 + ((A.drop wh).map U).length)).toArray = _
        rw [h6, List.append_assoc, ← List.append_assoc ((A.drop wh).map U), hq']
        rfl
      refine ⟨w2.drew.setRow b #[Value.int .i64 n, U q0, U q1, .bool false], rm, fun sp c hsp => ?_, setRow_heap w2.drew b _ _ _ _ E2.out, fun k hk => setRow_other w2.drew b k _ hk, by simp [World.setRow], rfl, rfl, rfl, OW2.kept (w' := w2.drew.setRow b #[Value.int .i64 n, U q0, U q1, .bool false]) (row := some b) ⟨rfl, rfl, rfl, by simp [World.setRow], fun k _ hk => setRow_other w2.drew b k _ (fun e => hk (by rw [e]))⟩ (.inr hneb)⟩
      rcases hsp with e | ⟨g, hao, rfl⟩
      · exact absurd e hr0
      · subst hao
        have := run_copy_row (P := Tryd.prog) w2.drew 22 22 3 5 b 1 2 2 ⟨g, wh, none⟩ rm c #[Value.int .i64 n, U r0, U r1, .bool false] 43 ((A.drop wh).map U) Tryd.underlying22 info5s E2.out (by rw [hdl]; exact (Nat.min_eq_left hr2).symm) ?_ (by rw [hdl]; simp; omega) ?_
        · rw [hcells] at this
          rw [this, hdl]
          rfl
        · intro j v hv
          have hj : j < rm := by rw [← hdl]; exact (List.getElem?_eq_some_iff.1 hv).1
          have hadd : (⟨g, wh, none⟩ : Addr).add j = ⟨g, wh + j, none⟩ := by unfold Addr.add; split <;> simp_all
          have h7 := OW2.cellAt (wh + j) (by omega)
          rw [List.map_drop, List.getElem?_drop] at hv
          rw [hadd]
          exact h7.trans hv
        · intro u hu
          obtain ⟨y, _, rfl⟩ := List.mem_map.1 hu
          rfl
  obtain ⟨w3, xx, hrun, E3, hk3, hs3, ho3, htp3, hout3, OW3⟩ := hcopy
  have c30 := E3.c0
  have f30 := freeB E3 0
  -- the source's address
  have hform : rm = 0 ∨ ∃ g, ao = some ⟨g, 0, none⟩ := by
    rcases OW2.2 with ⟨hv, h0⟩ | ⟨g, cap', cur, hv, _⟩
    · left; omega
    · right
      simp only [Value.slice.injEq] at hv
      exact ⟨g, hv.1⟩
  have hco : p + m ≤ co := by
    rcases OW2.2 with ⟨hv, h0⟩ | ⟨g, cap', cur, hv, _, _, hc, _⟩
    · simp only [Value.slice.injEq] at hv; omega
    · simp only [Value.slice.injEq] at hv; omega
  have hcom : co ≤ maxLen := by
    rcases OW2.2 with ⟨hv, h0⟩ | ⟨g, cap', cur, hv, _, _, _, hc, _⟩
    · simp only [Value.slice.injEq] at hv; rw [hv.2.2]; exact Nat.zero_le _
    · simp only [Value.slice.injEq] at hv; rw [hv.2.2]; exact hc
  unfold maxLen at hcom
  have erm : (p : Int) + (m : Int) - (wh : Int) = (rm : Int) := by omega
  have HRUN := Lib.hid hrun; have HE3 := Lib.hid E3; have HK3 := Lib.hid hk3; have HS3 := Lib.hid hs3; have HO3 := Lib.hid (show w3.os = w2.os ∧ w3.tape = w2.tape ∧ w3.output = w2.output from ⟨ho3, htp3, hout3⟩); have HOW3 := Lib.hid OW3; have HA' := Lib.hid hA; have HAL := Lib.hid hAl; have H256 := Lib.hid hA256; have HQR := Lib.hid hqr
  clear hrun E3 hk3 hs3 ho3 htp3 hout3 OW3 OW2 hA hAl hA256 hqr hq htl hwh hrm
  have i0 : (0 : Int) ≤ (wh : Int) := by omega
  have i1 : (wh : Int) ≤ (p : Int) + (m : Int) := by omega
  have i2 : (p : Int) + (m : Int) ≤ (co : Int) := by omega
  have i3 : (wh : Int) ≤ ((p + m : Nat) : Int) := by omega
  have i4 : ((p + m : Nat) : Int) ≤ (co : Int) := by omega
  have i5 : (wh : Int) ≤ (co : Int) := by omega
  have ermn : p + m - wh = rm := RM.out.symm
  -- the world at encode
  have e4 : En (w3.setCell ⟨b, 0, none⟩ (.int .i64 ((n + m : Nat) : Int))) b (n + m) q0 q1 false := setB HE3.out 0 _
  have ow4 := ownsRow_setCell_other (a := ⟨b, 0, none⟩) HOW3.out hneb (.int .i64 ((n + m : Nat) : Int))
  have hb4 : ∀ k, k ≠ b → (w3.setCell ⟨b, 0, none⟩ (.int .i64 ((n + m : Nat) : Int))).heap[k]? = w2.heap[k]? := fun k hk => (otherB w3 b 0 k _ hk).trans (HK3.out k hk)
  have hs4 : (w3.setCell ⟨b, 0, none⟩ (.int .i64 ((n + m : Nat) : Int))).heap.size = w2.heap.size := by simp [World.setCell, HS3.out]
  have ho4 : (w3.setCell ⟨b, 0, none⟩ (.int .i64 ((n + m : Nat) : Int))).os = w2.os ∧ (w3.setCell ⟨b, 0, none⟩ (.int .i64 ((n + m : Nat) : Int))).tape = w2.tape ∧ (w3.setCell ⟨b, 0, none⟩ (.int .i64 ((n + m : Nat) : Int))).output = w2.output := HO3.out
  have t2 : Tab w2 := T1.out.below BL.out T1.out.size
  have t4 : Tab (w3.setCell ⟨b, 0, none⟩ (.int .i64 ((n + m : Nat) : Int))) := ⟨by rw [hs4]; exact t2.size, fun x hx => (World.cell?_of_block (a := ⟨0, x, none⟩) (hb4 _ (fun e => hb0 e.symm))).trans (t2.cell x hx)⟩
  have enm : (n : Int) + (m : Int) = ((n + m : Nat) : Int) := by omega
  generalize hw4 : w3.setCell ⟨b, 0, none⟩ (.int .i64 ((n + m : Nat) : Int)) = w4 at *
  have r4 := (rd_own ow4 H256.out).take wh
  have htk : (A.take wh).length = wh := by rw [List.length_take, HAL.out]; omega
  have C4 := encode_any w4 ao co (A.take wh) (by rw [htk]; omega) r4 t4
  rw [htk] at C4
  have HC4 := Lib.hid C4; have E4 := Lib.hid e4; have HB4 := Lib.hid hb4; have HS4 := Lib.hid hs4; have HO4 := Lib.hid ho4; have HW4 : Hid (w3.setCell ⟨b, 0, none⟩ (.int .i64 ((n : Int) + (m : Int))) = w4) := by rw [enm]; exact hw4
  clear C4 e4 ow4 hb4 hs4 ho4 t2 t4 r4 htk hw4 enm
  go_wp2_with fail
  have hcase : (co = wh ∧ rm = 0) ∨ co ≠ wh := by omega
  have key : (co = wh → (Builtin.copy_ #[22, 22] 3 #[.slice (some ⟨b, 1, none⟩) 2 2, .slice ao rm 0]).run Tryd.prog w2.drew = .ok (.int .i64 xx) w3) ∧
      (Builtin.copy_ #[22, 22] 3 #[.slice (some ⟨b, 1, none⟩) 2 2, .slice (Option.map (fun x => x.add wh) ao) rm (co - wh)]).run Tryd.prog w2.drew = .ok (.int .i64 xx) w3 := by
    refine ⟨fun h => HRUN.out _ _ (.inl (by omega)), HRUN.out _ _ ?_⟩
    rcases hform with h | ⟨g, rfl⟩
    · exact .inl h
    · refine .inr ⟨g, rfl, ?_⟩
      simp only [Option.map_some, Option.some.injEq]
      unfold Addr.add
      split <;> simp_all
  have KEY := Lib.hid key
  clear key hform
  rcases hcase with ⟨hcw, hz0⟩ | hcw
  · have hr1 := KEY.out.1 hcw
    clear hz0
    subst hcw
    go_region
    all_goals go_wp2_with (go_at_call 28; rw [HW4.out]; refine HC4.out.mono ?_; rintro e w5 ⟨rfl, hb5⟩; have HB5 := Lib.hid hb5; clear hb5)
    all_goals go_ret2
    all_goals
      refine ⟨?_, ⟨q0, q1, ?_, hq0, hq1, ?_⟩, fun k hk h1 => ?_, ?_⟩
      · rw [← HM.out, ← HPP.out, ← HA'.out, ← WH.out]; rfl
      · rw [← HM.out]; exact E4.out.below HB5.out
      · rw [← HM.out, HQR.out, ← HPP.out, ← HA'.out, ← WH.out]
      · have h5 : k < w1.heap.size := Nat.lt_of_lt_of_le hk B1.out.size
        have h6 : k < w4.heap.size := by rw [HS4.out]; exact Nat.lt_of_lt_of_le h5 BL.out.size
        rw [HB5.out.block k h6, HB4.out k h1, BL.out.block k h5, B1.out.block k hk]
      · have h7 : Below b w w2 := (B1.out.mono (by omega)).trans (BL.out.mono (by have := B1.out.size; omega))
        have h8 : Below b w2 w4 := ⟨HO4.out.1, HO4.out.2.1, HO4.out.2.2, by rw [HS4.out]; exact Nat.le_refl _, fun k hk => HB4.out k (by omega)⟩
        exact (h7.trans h8).trans (HB5.out.mono (by rw [HS4.out]; omega))
  · have hr1 := KEY.out.2
    go_region
    all_goals go_wp2_with (go_at_call 28; rw [HW4.out]; refine HC4.out.mono ?_; rintro e w5 ⟨rfl, hb5⟩; have HB5 := Lib.hid hb5; clear hb5)
    all_goals go_ret2
    all_goals
      refine ⟨?_, ⟨q0, q1, ?_, hq0, hq1, ?_⟩, fun k hk h1 => ?_, ?_⟩
      · rw [← HM.out, ← HPP.out, ← HA'.out, ← WH.out]; rfl
      · rw [← HM.out]; exact E4.out.below HB5.out
      · rw [← HM.out, HQR.out, ← HPP.out, ← HA'.out, ← WH.out]
      · have h5 : k < w1.heap.size := Nat.lt_of_lt_of_le hk B1.out.size
        have h6 : k < w4.heap.size := by rw [HS4.out]; exact Nat.lt_of_lt_of_le h5 BL.out.size
        rw [HB5.out.block k h6, HB4.out k h1, BL.out.block k h5, B1.out.block k hk]
      · have h7 : Below b w w2 := (B1.out.mono (by omega)).trans (BL.out.mono (by have := B1.out.size; omega))
        have h8 : Below b w2 w4 := ⟨HO4.out.1, HO4.out.2.1, HO4.out.2.2, by rw [HS4.out]; exact Nat.le_refl _, fun k hk => HB4.out k (by omega)⟩
        exact (h7.trans h8).trans (HB5.out.mono (by rw [HS4.out]; omega))

end Go.Proofs.YtochlfmajkkddaaDoor
