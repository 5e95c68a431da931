/- Encode. -/
import Derived.Test.YtbgggeobpiaamaaDoorPlain
import Derived.Test.YtbgggeobpiaamaaDoorLibJ
import Derived.Test.YtbgggeobpiaamaaDoorFind
namespace Go.Proofs.YtbgggeobpiaamaaDoor
open Go.RowKit
set_option linter.unusedVariables false
set_option maxRecDepth 100000

theorem infoS : (Tryd.prog.info? 9).map (fun i => (i.zero, i.size, i.bytes)) = some (some (.string ⟨#[]⟩), 1, 16) := by kernel_rfl
/-- The cells of words. -/
def wsC (ws : List (List Nat)) : List Value := ws.map fun x => .string (strN x)
theorem join_strN (ws : List (List Nat)) : (⟨(Lib.join ((ws.map strN).map (·.data.toList)) (ByteArray.mk #[32]).data.toList).toArray⟩ : ByteArray) = strN (joinF ws) := by
  unfold strN joinF Lib.join
  congr 2
  simp only [List.map_map]
  have : ∀ ws : List (List Nat), List.intercalate ([32] : List UInt8) (ws.map (fun l => l.map UInt8.ofNat)) = (List.intercalate [32] ws).map UInt8.ofNat := by
    intro ws
    induction ws with
    | nil => rfl
    | cons a ws ih =>
      cases ws with
      | nil => simp [List.intercalate]
      | cons b ws =>
        simp only [List.intercalate, List.map_cons, List.intersperse_cons_cons, List.flatten_cons, List.map_append] at ih ⊢
        rw [ih]; rfl
  rw [← this]
  rfl
theorem join_len (ws : List (List Nat)) (h : ∀ x ∈ ws, x.length ≤ 75) : (joinF ws).length ≤ 76 * ws.length := by
  unfold joinF
  induction ws with
  | nil => simp
  | cons a ws ih =>
    have ha := h a (by simp)
    have ih' := ih (fun x hx => h x (by simp [hx]))
    cases ws with
    | nil => simp [List.intercalate]; omega
    | cons b ws =>
      simp only [List.intercalate, List.intersperse_cons_cons, List.flatten_cons, List.length_append, List.length_cons] at ih' ⊢
      simp at *
      omega
theorem join_any (ws : List (List Nat)) (v : Value) (w : World) (B : Nat) (hne : ws ≠ []) (hl : ws.length ≤ 100000) (h75 : ∀ x ∈ ws, x.length ≤ 75) (ho : w.ownsRow B 9 1 v ws.length (wsC ws)) :
    Calls Tryd.prog 39 #[v, .string ⟨#[32]⟩] w fun e w' => e = .returned (.string (strN (joinF ws))) ∧ Below w.heap.size w w' := by
  rcases ho.2 with ⟨_, h0⟩ | ⟨g, cap, cur, rfl, hg, hb, hc, hm, _⟩
  · exact absurd (List.length_eq_zero_iff.1 h0) hne
  · have hcells : ∀ (j : Nat) x, (ws.map strN)[j]? = some x → w.cell? ⟨g, 0 + j, none⟩ = some (.string x) := by
      intro j x hx
      have := ho.cells (g := g) rfl j (.string x) (by
        unfold wsC
        rw [List.getElem?_map] at hx ⊢
        cases hj : ws[j]? with
        | none => rw [hj] at hx; cases hx
        | some y => rw [hj] at hx; simp at hx; simp [hx])
      have e : (⟨g, 0, none⟩ : Addr).add j = ⟨g, 0 + j, none⟩ := by unfold Addr.add; split <;> simp_all
      rw [← e]; exact this
    have hjl := join_len ws h75
    have := lb_strings_Join g 0 cap (ws.map strN) ⟨#[32]⟩ w hcells (lt_of_block hb) (by simp; omega) (by simpa using hc) (by
      have e := congrArg ByteArray.size (join_strN ws)
      rw [strN_size] at e
      simp only [ByteArray.size, List.size_toArray] at e
      rw [e]; omega)
    rw [join_strN, List.length_map] at this
    exact this

def EncPost (enc : Int) (l : List Nat) (w : World) (e : Ending) (w' : World) : Prop := e = .returned (.tuple #[.string (strN (encR enc l).1), .int .i64 ((encR enc l).2 : Int)]) ∧ Below w.heap.size w w'
theorem wordsF_len {enc : Int} (he : enc = 0 ∨ enc = 1) : ∀ (n : Nat) (l : List Nat), l.length ≤ n → prt l = true → (∀ x ∈ l, x < 256) → (wordsF enc l).length ≤ l.length ∧ ∀ x ∈ wordsF enc l, x.length ≤ 75 := by
  intro n
  induction n with
  | zero =>
    intro l hl _ _
    obtain rfl : l = [] := List.length_eq_zero_iff.1 (by omega)
    simp [wordsF, wdN]
  | succ n ih =>
    intro l hl hp hlt
    by_cases h0 : l = []
    · subst h0; simp [wordsF, wdN]
    · rw [wordsF_step he h0 hp hlt]
      have hpos := lgF_pos he h0 hp hlt
      have hle := lgF_le enc l
      obtain ⟨a, b⟩ := ih (l.drop (lgF enc l)) (by rw [List.length_drop]; omega) (lgF_prt hp) (fun x hx => hlt x (List.mem_of_mem_drop hx))
      rw [List.length_drop] at a
      refine ⟨by simp; omega, fun x hx => ?_⟩
      rcases List.mem_cons.1 hx with rfl | hx
      · exact wdAt_len enc l _ hlt
      · exact b x hx

theorem encodeN_any (s : ByteArray) (enc : Int) (w : World) (h : enc ≠ 0 ∧ enc ≠ 1) :
    Calls Tryd.prog 18 #[.string s, .int .i64 enc] w (EncPost enc (bs s) w) := by
  have R : Hid (encR enc (bs s) = ([], 2)) := Lib.hid (by unfold encR; rw [if_pos h])
  have q0 : (enc != 0) = true := int_neq h.1
  have q1 : (enc != 1) = true := int_neq h.2
  clear h
  go_enter Tryd.func18, Tryd.ntmps18
  go_wp2_with fail
  go_ret2
  exact ⟨by rw [R.out]; rfl, Below.refl _ _⟩

set_option maxHeartbeats 2000000 in
theorem encode01_any (s : ByteArray) (enc : Int) (w : World) (hs : s.size ≤ maxLen) (h01 : enc = 0 ∨ enc = 1) (he : Env w) :
    Calls Tryd.prog 18 #[.string s, .int .i64 enc] w (EncPost enc (bs s) w) := by
  have N01 : Hid (¬ (enc ≠ 0 ∧ enc ≠ 1)) := Lib.hid (by omega)
  have H01 := Lib.hid h01
  unfold maxLen at hs
  have qq : ((enc != 0) = false ∧ (enc == 0) = true) ∨ ((enc != 0) = true ∧ (enc != 1) = false) := by
    rcases h01 with rfl | rfl
    · exact .inl ⟨rfl, rfl⟩
    · exact .inr ⟨rfl, rfl⟩
  clear h01
  by_cases hl : 4096 < s.size
  · have R : Hid (encR enc (bs s) = ([], 5)) := Lib.hid (by unfold encR; rw [if_neg N01.out, if_pos (by rw [bs_length]; exact hl)])
    clear he
    rcases qq with ⟨q0, q1⟩ | ⟨q0, q1⟩
    all_goals
      go_enter Tryd.func18, Tryd.ntmps18
      go_wp2_with fail
      go_ret2
      exact ⟨by rw [R.out]; rfl, Below.refl _ _⟩
  · have P1 := Lib.hid (isprt_any s w (by unfold maxLen; omega))
    have HE := Lib.hid he
    clear he
    obtain ⟨b, hb⟩ : ∃ b, b = prt (bs s) := ⟨_, rfl⟩
    rw [← hb] at P1
    have NL : Hid (¬ 4096 < (bs s).length) := Lib.hid (by rw [bs_length]; exact hl)
    have HBB := Lib.hid hb
    clear hb
    cases b
    · have R : Hid (encR enc (bs s) = ([], 6)) := Lib.hid (by unfold encR; rw [if_neg N01.out, if_neg NL.out, if_pos HBB.out.symm])
      rcases qq with ⟨q0, q1⟩ | ⟨q0, q1⟩
      all_goals
        go_enter Tryd.func18, Tryd.ntmps18
        go_wp2_with (go_at_call 28; refine P1.out.mono ?_; rintro e w1 ⟨rfl, hb1⟩)
        go_ret2
        exact ⟨by rw [R.out]; rfl, hb1⟩
    · have P2 : Hid (∀ w', Below w.heap.size w w' → Calls Tryd.prog 19 #[.string s] w' fun e w'' => e = .returned (.bool (plain (bs s))) ∧ Below w'.heap.size w' w'') := fun w' hb => plain_any s w' (by omega) (HE.out.on hb)
      obtain ⟨c, hc⟩ : ∃ c, c = plain (bs s) := ⟨_, rfl⟩
      rw [← hc] at P2
      have HC := Lib.hid hc
      clear hc
      cases c
      · have R : Hid (encR enc (bs s) = (joinF (wordsF enc (bs s)), 0)) := Lib.hid (by unfold encR; rw [if_neg N01.out, if_neg NL.out, if_neg (by rw [← HBB.out]; decide), if_neg (by rw [← HC.out]; decide)])
        obtain ⟨i0, hi0, hz0, hz1, hz2⟩ := info_parts infoS
        have WL := Lib.hid (wordsF_len H01.out (bs s).length (bs s) (Nat.le_refl _) HBB.out.symm (bs_lt s))
        have NE : Hid (bs s ≠ []) := Lib.hid (fun e => by have := HC.out; rw [e] at this; exact absurd this (by decide))
        rcases qq with ⟨q0, q1⟩ | ⟨q0, q1⟩
        all_goals
          go_enter Tryd.func18, Tryd.ntmps18
          go_wp2_with (first | (go_at_call 28; refine P1.out.mono ?_; rintro e w1 ⟨rfl, hb1⟩) | (go_at_call 19; refine (P2.out _ hb1).mono ?_; rintro e w2 ⟨rfl, hb2⟩))
          have BB : Hid (Below w.heap.size w w2) := Lib.hid (hb1.trans (hb2.mono hb1.size))
          clear hb1 hb2 P1 P2
          go_loopg [0, 6] s.size (fun k v0 v6 wr => ∃ (t : ByteArray) (acc : List (List Nat)), k = t.size ∧ acc.length + t.size ≤ s.size ∧ v0 = .string t ∧ Hid (prt (bs t) = true) ∧ Hid (wordsF enc (bs s) = acc ++ wordsF enc (bs t)) ∧ wr.ownsRow w.heap.size 9 1 v6 acc.length (wsC acc) ∧ Below w.heap.size w wr)
          case atStart => exact ⟨s, [], rfl, by simp, rfl, Lib.hid HBB.out.symm, Lib.hid (by simp), World.ownsRow_nil _ _ _ _, BB.out⟩
          case round =>
            obtain ⟨t, acc, rfl, hacc, rfl, hpt, hws, hown, hbw⟩ := hrel
            have HO := Lib.hid hown; have HB := Lib.hid hbw
            have hsz := hbw.size
            clear hown hbw
            by_cases h0 : t.size = 0
            · obtain rfl := str_emp h0
              have hw : wordsF enc (bs s) = acc := by rw [hws.out]; simp [bs, wordsF, wdN]
              have hne : acc ≠ [] := by rw [← hw, wordsF_step H01.out NE.out HBB.out.symm (bs_lt s)]; simp
              have J := Lib.hid (join_any acc u6 wr w.heap.size hne (by have := hacc; omega) (by rw [← hw]; exact WL.out.2) HO.out)
              have HW := Lib.hid hw
              clear hw hne h0
              go_wp2_with fail
              refine J.out.mono ?_
              rintro e w3 ⟨rfl, hb3⟩
              have B3 : Hid (Below w.heap.size w w3) := Lib.hid (HB.out.trans (hb3.mono HB.out.size))
              clear hb3 J
              go_wp2_with fail
              go_ret2
              exact ⟨by rw [R.out, HW.out]; rfl, B3.out⟩
            · have n0 := str_ne h0
              have hne := bs_ne h0
              have L := Lib.hid (longest_any t enc wr (by omega) (vld_prt hpt.out) (HE.out.on HB.out))
              unfold LgPost at L
              have hst := wordsF_step H01.out hne hpt.out (bs_lt t)
              have hpos := lgF_pos H01.out hne hpt.out (bs_lt t)
              have hle := lgF_le enc (bs t)
              have hpd := lgF_prt (enc := enc) hpt.out
              rw [bs_length] at hle
              obtain ⟨m, hm⟩ : ∃ m, m = lgF enc (bs t) := ⟨_, rfl⟩
              rw [← hm] at L hst hpos hle hpd
              obtain ⟨x, hx⟩ : ∃ x, x = lgW enc (bs t) := ⟨_, rfl⟩
              rw [← hx] at L hst
              have ST := Lib.hid hst; have PD := Lib.hid hpd
              clear hst hpd hm hx hne
              go_wp2_with fail
              refine L.out.mono ?_
              rintro e w3 ⟨rfl, hb3⟩
              have HO3 := Lib.hid (owns_below HO.out hb3)
              have B3 : Hid (Below w.heap.size w w3) := Lib.hid (HB.out.trans (hb3.mono HB.out.size))
              have z3 := B3.out.size
              clear hb3 L HO HB
              go_wp2_with (at_builtin; refine wpList_append_own _ rfl _ _ _ rfl w.heap.size 9 i0 _ 1 16 Tryd.underlying66 hi0 hz0 hz1 hz2 rfl (by omega) u6 acc.length (wsC acc) rfl (HO3.out.alloc _) ⟨w3.heap.size, 0, none⟩ 1 1 [.string (strN x)] rfl rfl (World.news_of_block (cs := #[.string (strN x)]) (t := 9) (fr := (0, 0)) (heap_alloc_new w3 _)) (by simp [Value.oneCell']) (by unfold maxLen; omega) (by omega) (by simp; omega) ?_; intro v' w4 hown4 hgrow _)
              have F1 : Hid (w4.ownsRow w.heap.size 9 1 v' (acc ++ [x]).length (wsC (acc ++ [x]))) := Lib.hid (by unfold wsC at *; rw [List.length_append, List.map_append]; exact hown4)
              have F2 : Hid (Below w.heap.size w w4) := Lib.hid (Below.grown (B3.out.alloc z3 _) hgrow (by simp; omega) (fun k hk => (HO3.out.lt k hk).1))
              clear hown4 hgrow
              go_wp2_with fail
              go_roundg ((t.extract m t.size).size)
              case measure => rw [ByteArray.size_extract]; omega
              case rel => exact ⟨t.extract m t.size, acc ++ [x], rfl, by rw [ByteArray.size_extract]; simp; omega, rfl, Lib.hid (by rw [bs_from]; exact PD.out), Lib.hid (by rw [hws.out, ST.out, bs_from]; simp), F1.out, F2.out⟩
      · have R : Hid (encR enc (bs s) = (bs s, 0)) := Lib.hid (by unfold encR; rw [if_neg N01.out, if_neg NL.out, if_neg (by rw [← HBB.out]; decide), if_pos HC.out.symm])
        rcases qq with ⟨q0, q1⟩ | ⟨q0, q1⟩
        all_goals
          go_enter Tryd.func18, Tryd.ntmps18
          go_wp2_with (first | (go_at_call 28; refine P1.out.mono ?_; rintro e w1 ⟨rfl, hb1⟩) | (go_at_call 19; refine (P2.out _ hb1).mono ?_; rintro e w2 ⟨rfl, hb2⟩))
          go_ret2
          exact ⟨by rw [R.out]; simp only [strN_bs]; rfl, hb1.trans (hb2.mono hb1.size)⟩

theorem encode_word (s : ByteArray) (enc : Int) (w : World) (hs : s.size ≤ maxLen) (he : Env w) :
    Calls Tryd.prog 18 #[.string s, .int .i64 enc] w (EncPost enc (bs s) w) := by
  by_cases h : enc = 0 ∨ enc = 1
  · exact encode01_any s enc w hs h he
  · exact encodeN_any s enc w (by omega)
end Go.Proofs.YtbgggeobpiaamaaDoor
