/- Walk of the statement Base64Concatenation. -/
import Derived.Test.YtochlfmajkkddaaDoorLawRt
import Derived.Laws.AppendOwnNone
namespace Go.Proofs.YtochlfmajkkddaaDoor
open Go.RowKit Go.Maps
set_option linter.unusedVariables false

/-- 'append(v, y...)' where v is the call's own and y reads as a list of bytes, nil or not. -/
theorem wpList_append_rd {P : Program} (w : World) {ops : Array Oper} {rest : List Oper} {o : Oper} {a : Act} {Q : Exit → Act → World → Prop} (hgd : o.guard = none) (s x : Operand) (t : TypeId)
    (ho : o.op = .call { callee := .builtin .append, args := #[s, x], argTypes := #[t, t] })
    (base : Nat) (e : TypeId) (i : TypeInfo) (z : Value) (bytes : Nat) (ht : P.underlying t = some (.slice e)) (hi : P.info? e = some i) (hz : i.zero = some z)
    (hsize : i.size = 1) (hby : i.bytes = bytes) (hzs : z.cells.size = 1)
    (v : Value) (n : Nat) (xs : List Nat) (hs : a.eval s = v) (hown : w.ownsRow base e 1 v n (xs.map U))
    (ao : Option Addr) (m c : Nat) (ys : List Nat) (hm : ys.length = m) (hx : a.eval x = .slice ao m c) (hr : Rd w ao ys) (hnil : ao = none → c = 0)
    (h63 : n + m ≤ maxLen) (hbytes : (n + m) * bytes ≤ 140737488355328) (hbase : base ≤ w.heap.size)
    (h : ∀ v' w', w'.ownsRow base e 1 v' (n + m) ((xs ++ ys).map U) → w.grownBy w' v.ownBlock → wpList P ops Q rest (a.put o.dst v') w') : wpList P ops Q (o :: rest) a w := by
  subst hm
  cases ao with
  | none =>
    have h0 : ys = [] := by
      rcases Nat.eq_zero_or_pos ys.length with h0 | h0
      · exact List.eq_nil_of_length_eq_zero h0
      · obtain ⟨b, off, hb, _⟩ := hr.at_ h0; cases hb
    subst h0
    obtain rfl := hnil rfl
    exact wpList_append_own_none hgd s x t ho base e i 1 ht hi v n _ hs hown hx (h v w (by simpa using hown) (World.grownBy.refl _ _))
  | some ad =>
    refine wpList_append_own w hgd s x t ho base e i z 1 bytes ht hi hz hsize hby hzs (by decide) v n (xs.map U) hs hown ad ys.length c (ys.map U) hx (by simp) ?_ ?_ h63 hbytes hbase ?_
    · intro j u hu
      have hj : j < ys.length := by have := (List.getElem?_eq_some_iff.1 hu).1; simpa using this
      obtain ⟨b, off, hb, _, hc⟩ := hr.at_ (by omega)
      cases hb
      have hadd : (⟨b, off, none⟩ : Addr).add j = ⟨b, off + j, none⟩ := by unfold Addr.add; split <;> simp_all
      rw [hadd, hc j hj]
      rw [List.getElem?_map, List.getElem?_eq_getElem hj] at hu
      exact hu
    · intro u hu
      obtain ⟨y, _, rfl⟩ := List.mem_map.1 hu
      rfl
    · intro v' w' h2 h3 _
      exact h v' w' (by rw [List.map_append]; exact h2) h3

theorem law_concat_long (w : World) (a b : Option Addr) (la lb ca cb : Nat) (hl : 600 < la ∨ 600 < lb) (hma : la ≤ maxLen) (hmb : lb ≤ maxLen) (ht : Tab w) :
    Calls Tryd.prog 5 #[.slice a la ca, .slice b lb cb] w fun e w' => e = .returned (.bool true) ∧ Below w.heap.size w w' := by
  unfold maxLen at hma hmb
  have K1 := Lib.hid (known_any w ht)
  have TB := Lib.hid ht
  clear ht
  by_cases hla : 600 < la
  all_goals
    go_enter Tryd.func5, Tryd.ntmps5
    go_wp2_with fail
    refine K1.out.mono ?_
    rintro e w1 ⟨rfl, hb1⟩
    have K2 := Lib.hid (known_any w1 (TB.out.below hb1 TB.out.size))
    have HB1 := Lib.hid hb1
    clear hb1
    go_wp2_with fail
    refine K2.out.mono ?_
    rintro e w2 ⟨rfl, hb2⟩
    have HB2 : Hid (Below w.heap.size w w2) := HB1.out.trans (hb2.mono HB1.out.size)
    clear hb2
    go_wp2_with fail
    go_ret
    exact ⟨rfl, HB2.out⟩

theorem Rd.take {w : World} {a : Option Addr} {l : List Nat} (h : Rd w a l) (k : Nat) : Rd w a (l.take k) := by
  refine ⟨fun x hx => h.lt x (List.mem_of_mem_take hx), fun h0 => ?_⟩
  simp only [List.length_take] at h0
  obtain ⟨b, off, hb, hbw, hc⟩ := h.at_ (by omega)
  refine ⟨b, off, hb, hbw, fun i hi => ?_⟩
  simp only [List.length_take] at hi
  rw [hc i (by omega), List.getElem_take]

theorem law_concat (w : World) (a : Option Addr) (ca : Nat) (l : List Nat) (hma : l.length ≤ maxLen) (hra : Rd w a l) (hna : a = none → ca = 0) (hca : l.length ≤ ca) (hcam : ca ≤ maxLen)
    (b : Option Addr) (cb : Nat) (m : List Nat) (hmb : m.length ≤ maxLen) (hrb : Rd w b m) (hnb : b = none → cb = 0) (hcb : m.length ≤ cb) (hcbm : cb ≤ maxLen) (ht : Tab w) :
    Calls Tryd.prog 5 #[.slice a l.length ca, .slice b m.length cb] w fun e w' => e = .returned (.bool true) ∧ Below w.heap.size w w' := by
  by_cases hl : 600 < l.length ∨ 600 < m.length
  · exact law_concat_long w a b l.length m.length ca cb hl hma hmb ht
  unfold maxLen at hcam
  obtain ⟨i0, hi0, hz0, hz1, hz2⟩ := info_parts info5
  obtain ⟨p, hp⟩ : ∃ p, p = l.length := ⟨_, rfl⟩
  obtain ⟨q, hq⟩ : ∃ q, q = m.length := ⟨_, rfl⟩
  have hp6 : p ≤ 600 := by omega
  have hq6 : q ≤ 600 := by omega
  obtain ⟨k, hk⟩ : ∃ k, k = p - p % 3 := ⟨_, rfl⟩
  have ek : (p : Int) - (p : Int) % 3 = (k : Int) := by omega
  have hkc : k ≤ ca := by omega
  have hk6 : k ≤ 600 := by omega
  have htl : (l.take k).length = k := by rw [List.length_take]; omega
  have h3 : (l.take k).length % 3 = 0 := by rw [htl]; omega
  have hra' := hra.take k
  have hcat := enc_append (l.take k) m hra'.lt hrb.lt h3
  have E1 : Hid (∀ w1, Tab w1 → Rd w1 a (l.take k) → Calls Tryd.prog 13 #[.slice a k ca] w1 fun e w' => e = .returned (.tuple #[.string (strN (encF (l.take k))), .int .i64 0]) ∧ Below w1.heap.size w1 w') := fun w1 h1 h2 => by
    have := encodeE_any w1 a ca (l.take k) (by omega) h2 h1
    rw [htl] at this
    exact this
  have E2 : Hid (∀ w1, Tab w1 → Rd w1 b m → Calls Tryd.prog 13 #[.slice b q cb] w1 fun e w' => e = .returned (.tuple #[.string (strN (encF m)), .int .i64 0]) ∧ Below w1.heap.size w1 w') := fun w1 h1 h2 => by rw [hq]; exact encodeE_any w1 b cb m (by omega) h2 h1
  have hsz1 : (strN (encF (l.take k))).size ≤ 10000 := by rw [strN_size, encF_len _ hra'.lt, htl]; omega
  have hsz2 : (strN (encF m)).size ≤ 10000 := by rw [strN_size, encF_len _ hrb.lt, ← hq]; omega
  have HS : Hid (strN (encF (l.take k)) ++ strN (encF m) = strN (encF (l.take k ++ m))) := by rw [hcat]; exact strN_append _ _
  have hlt : ∀ x ∈ l.take k ++ m, x < 256 := fun x hx => by rcases List.mem_append.1 hx with h | h; exact hra'.lt x h; exact hrb.lt x h
  have K1 := Lib.hid (known_any w ht)
  have TB := Lib.hid ht; have RA := Lib.hid hra'; have RB := Lib.hid hrb; have HTL := Lib.hid htl; have HLT := Lib.hid hlt; have HQ := Lib.hid hq; have NA := Lib.hid hna; have NB := Lib.hid hnb
  rw [← hp, ← hq]
  clear hk ht hra hrb hra' hcat h3 htl hlt hp hq hna hnb hl hma hmb hca hcb hcbm
  generalize encF (l.take k) = SA at *
  generalize encF m = SB at *
  go_enter Tryd.func5, Tryd.ntmps5
  go_wp2_with fail
  refine K1.out.mono ?_
  rintro e w1 ⟨rfl, hb1⟩
  have C1 := Lib.hid (E1.out w1 (TB.out.below hb1 TB.out.size) (RA.out.below hb1))
  have HB1 := Lib.hid hb1
  clear hb1
  go_wp2_with fail
  refine C1.out.mono ?_
  rintro e w2 ⟨rfl, hb2⟩
  have hb2' : Below w.heap.size w w2 := HB1.out.trans (hb2.mono HB1.out.size)
  have C2 := Lib.hid (E2.out w2 (TB.out.below hb2' TB.out.size) (RB.out.below hb2'))
  have HB2 := Lib.hid hb2'
  clear hb2 hb2'
  go_wp2_with fail
  refine C2.out.mono ?_
  rintro e w3 ⟨rfl, hb3⟩
  have hb3' : Below w.heap.size w w3 := HB2.out.trans (hb3.mono HB2.out.size)
  have HB3 := Lib.hid hb3'
  clear hb3 hb3'
  have hs3 : w.heap.size ≤ w3.heap.size := HB3.out.size
  have own0 : (w3.alloc (.cells #[] 5)).ownsRow w.heap.size 5 1 (.slice (some ⟨w3.heap.size, 0, none⟩) 0 0) 0 (([] : List Nat).map U) := World.ownsRow_made w3 #[] 0 hs3 (Nat.zero_le _) rfl
  have bA : Below w.heap.size w (w3.alloc (.cells #[] 5)) := HB3.out.alloc hs3 _
  have OW0 := Lib.hid own0; have BA := Lib.hid bA
  clear own0 bA
  go_wp2_with (first | (at_builtin; refine wpList_append_rd _ rfl (.tmp 43) (.tmp 44) _ rfl w.heap.size 5 i0 _ 1 Tryd.underlying22 hi0 hz0 hz1 hz2 rfl _ 0 [] rfl OW0.out a k ca (l.take k) HTL.out rfl (RA.out.below BA.out) NA.out (by unfold maxLen; omega) (by omega) BA.out.size ?_; intro v1 w4 hown1 hgrow1; have BB : Hid (Below w.heap.size w w4) := BA.out.grown hgrow1 BA.out.size (fun j hj => (OW0.out.lt j hj).1); have OW1 := Lib.hid hown1; clear hown1 hgrow1) | (at_builtin; refine wpList_append_rd _ rfl (.tmp 45) (.tmp 46) _ rfl w.heap.size 5 i0 _ 1 Tryd.underlying22 hi0 hz0 hz1 hz2 rfl _ (0 + k) ([] ++ l.take k) rfl OW1.out b q cb m HQ.out.symm rfl (RB.out.below BB.out) NB.out (by unfold maxLen; omega) (by omega) BB.out.size ?_; intro v2 w5 hown2 hgrow2; have BC : Hid (Below w.heap.size w w5) := BB.out.grown hgrow2 BB.out.size (fun j hj => (OW1.out.lt j hj).1); have OW2 := Lib.hid hown2; clear hown2 hgrow2))
  obtain ⟨a2, cap2, rfl⟩ := own_shape OW2.out
  have ow := OW2.out
  rw [Nat.zero_add, List.nil_append] at ow
  have hln : (l.take k ++ m).length = 0 + k + q := by rw [List.length_append, HTL.out, ← HQ.out]; omega
  have C3 := encodeE_any w5 a2 cap2 (l.take k ++ m) (by rw [hln]; omega) (rd_own ow HLT.out) (TB.out.below BC.out TB.out.size)
  rw [hln] at C3
  refine C3.mono ?_
  rintro e w6 ⟨rfl, hb6⟩
  have HB6 : Hid (Below w.heap.size w w6) := BC.out.trans (hb6.mono BC.out.size)
  have hss := HS.out
  clear hb6 C3 ow hln
  go_wp2_with fail
  go_ret
  exact ⟨by simp, HB6.out⟩

end Go.Proofs.YtochlfmajkkddaaDoor
