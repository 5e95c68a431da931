/- Walk of the statement Base64Pieces. -/
import Derived.Test.YtochlfmajkkddaaDoorEncw
import Derived.Test.YtochlfmajkkddaaDoorLawCat
import Derived.Deep.Matrix
namespace Go.Proofs.YtochlfmajkkddaaDoor
open Go.RowKit Go.Maps
set_option linter.unusedVariables false

/-- A slice of slices of bytes that is read: of each piece its address, its capacity, its bytes. -/
structure Rds (w : World) (a : Option Addr) (l : List (Option Addr × Nat × List Nat)) : Prop where
  at_ : 0 < l.length → ∃ b off, a = some ⟨b, off, none⟩ ∧ b < w.heap.size ∧ ∀ i (h : i < l.length), w.cell? ⟨b, off + i, none⟩ = some (.slice l[i].1 l[i].2.2.length l[i].2.1)
  each : ∀ x ∈ l, Rd w x.1 x.2.2 ∧ (x.1 = none → x.2.1 = 0) ∧ x.2.2.length ≤ maxLen

/-- All bytes of the first pieces. -/
def dn (l : List (Option Addr × Nat × List Nat)) (k : Nat) : List Nat := (l.take k).flatMap fun x => x.2.2
theorem dn_zero (l : List (Option Addr × Nat × List Nat)) : dn l 0 = [] := rfl
theorem dn_succ (l : List (Option Addr × Nat × List Nat)) (k : Nat) (h : k < l.length) : dn l (k + 1) = dn l k ++ l[k].2.2 := by
  unfold dn
  rw [List.take_succ_eq_append_getElem h, List.flatMap_append]
  simp
theorem dn_lt {w : World} {a : Option Addr} {l : List (Option Addr × Nat × List Nat)} (h : Rds w a l) (k : Nat) : ∀ x ∈ dn l k, x < 256 := by
  intro x hx
  obtain ⟨y, hy, hxy⟩ := List.mem_flatMap.1 hx
  exact (h.each y (List.mem_of_mem_take hy)).1.lt x hxy

/-- The bytes that have been turned into text, and those that wait. -/
def wholeOf (D : List Nat) : List Nat := D.take (D.length / 3 * 3)
def waits (D : List Nat) : List Nat := D.drop (D.length / 3 * 3)
theorem whole_len (D : List Nat) : (wholeOf D).length = D.length / 3 * 3 := by unfold wholeOf; rw [List.length_take]; omega
theorem whole_lt {D : List Nat} (h : ∀ x ∈ D, x < 256) : ∀ x ∈ wholeOf D, x < 256 := fun x hx => h x (List.mem_of_mem_take hx)
theorem waits_lt {D : List Nat} (h : ∀ x ∈ D, x < 256) : ∀ x ∈ waits D, x < 256 := fun x hx => h x (List.mem_of_mem_drop hx)
theorem pie_parts (D l : List Nat) : wholeOf (D ++ l) = wholeOf D ++ (waits D ++ l).take ((D.length % 3 + l.length) / 3 * 3) ∧ waits (D ++ l) = (waits D ++ l).drop ((D.length % 3 + l.length) / 3 * 3) := by
  have e : D ++ l = wholeOf D ++ (waits D ++ l) := by unfold wholeOf waits; rw [← List.append_assoc, List.take_append_drop]
  have hn : (D ++ l).length / 3 * 3 = (wholeOf D).length + (D.length % 3 + l.length) / 3 * 3 := by rw [whole_len, List.length_append]; omega
  constructor
  · show (D ++ l).take ((D ++ l).length / 3 * 3) = _
    rw [hn]
    conv => lhs; rw [e]
    rw [List.take_length_add_append]
  · show (D ++ l).drop ((D ++ l).length / 3 * 3) = _
    rw [hn]
    conv => lhs; rw [e]
    rw [List.drop_length_add_append]
theorem pie_enc (D l : List Nat) (hD : ∀ x ∈ D, x < 256) (hl : ∀ x ∈ l, x < 256) : encF (wholeOf (D ++ l)) = encF (wholeOf D) ++ encF ((waits D ++ l).take ((D.length % 3 + l.length) / 3 * 3)) := by
  rw [(pie_parts D l).1]
  refine enc_append _ _ (whole_lt hD) (fun x hx => ?_) (by rw [whole_len]; omega)
  rcases List.mem_append.1 (List.mem_of_mem_take hx) with h | h
  · exact waits_lt hD x h
  · exact hl x h
theorem pie_close (D : List Nat) (hD : ∀ x ∈ D, x < 256) : encF (wholeOf D) ++ encF (waits D) = encF D := by
  rw [← enc_append _ _ (whole_lt hD) (waits_lt hD) (by rw [whole_len]; omega)]
  unfold wholeOf waits
  rw [List.take_append_drop]
theorem pie_len (D : List Nat) (hD : ∀ x ∈ D, x < 256) : (strN (encF (wholeOf D))).size = D.length / 3 * 4 := by
  rw [strN_size, encF_len _ (whole_lt hD), whole_len]
  omega

/-- An owned row of bytes behind a step that writes block b alone and makes new ones. -/
theorem own_step {w w' : World} {base n b T : Nat} {v : Value} {xs : List Value} {cs : Array Value} {fz : Nat × Nat} (h : w.ownsRow base 5 1 v n xs) (hT : w.heap[b]? = some (.cells cs T fz)) (hne : T ≠ 5)
    (hk : ∀ k, k < w.heap.size → k ≠ b → w'.heap[k]? = w.heap[k]?) (hb : Below b w w') : w'.ownsRow base 5 1 v n xs :=
  h.kept (w' := w') (row := some b) ⟨hb.os, hb.tape, hb.output, hb.size, fun k h1 h2 => hk k h1 (fun e => h2 (by rw [e]))⟩ (.inr (own_ne h hT hne))

/-- What holds at the head of each round: so many pieces are done. -/
def PieR (w : World) (b n : Nat) (l : List (Option Addr × Nat × List Nat)) (k : Nat) (al out i : Value) (wr : World) : Prop :=
  ∃ j q0 q1, j ≤ n ∧ k = n - j ∧ i = .int .i64 (j : Int) ∧ out = .string (strN (encF (wholeOf (dn l j)))) ∧ En wr b (dn l j).length q0 q1 false ∧ q0 < 256 ∧ q1 < 256 ∧ restOf (dn l j).length q0 q1 = waits (dn l j) ∧
    wr.ownsRow w.heap.size 5 1 al (dn l j).length ((dn l j).map U) ∧ (dn l j).length ≤ 200 * j ∧ Below w.heap.size w wr

theorem law_pieces_long (w : World) (a : Option Addr) (len cap : Nat) (hl : 30 < len) (hm : len ≤ maxLen) (ht : Tab w) :
    Calls Tryd.prog 10 #[.slice a len cap] w fun e w' => e = .returned (.bool true) ∧ Below w.heap.size w w' := by
  unfold maxLen at hm
  have K1 := Lib.hid (known_any w ht)
  have TB := Lib.hid ht
  clear ht
  go_enter Tryd.func10, Tryd.ntmps10
  go_wp2_with fail
  refine K1.out.mono ?_
  rintro e w1 ⟨rfl, hb1⟩
  have K2 := Lib.hid (known_any w1 (TB.out.below hb1 TB.out.size))
  have HB1 := Lib.hid hb1
  clear hb1
  go_wp2_with fail
  refine K2.out.mono ?_
  rintro e w2 ⟨rfl, hb2⟩
  have HB2 : Hid (Below w.heap.size w w2) := HB1.out.trans (hb2.mono HB1.out.size)
  clear hb2
  go_wp2_with fail
  go_ret
  exact ⟨rfl, HB2.out⟩

set_option maxHeartbeats 2000000 in
theorem law_pieces (w : World) (a : Option Addr) (cap : Nat) (l : List (Option Addr × Nat × List Nat)) (hm : l.length ≤ maxLen) (hr : Rds w a l) (ht : Tab w) :
    Calls Tryd.prog 10 #[.slice a l.length cap] w fun e w' => e = .returned (.bool true) ∧ Below w.heap.size w w' := by
  by_cases hl : 30 < l.length
  · exact law_pieces_long w a l.length cap hl hm ht
  obtain ⟨i0, hi0, hz0, hz1, hz2⟩ := info_parts info5
  obtain ⟨n, hn⟩ : ∃ n, n = l.length := ⟨_, rfl⟩
  have hn30 : n ≤ 30 := by omega
  have K1 := Lib.hid (known_any w ht)
  have p0 : 0 < w.heap.size := by have := ht.size; omega
  have TB := Lib.hid ht; have RS := Lib.hid hr; have HN := Lib.hid hn
  rw [← hn]
  clear hm hr ht hl hn
  go_enter Tryd.func10, Tryd.ntmps10
  go_wp2_with fail
  refine K1.out.mono ?_
  rintro e w1 ⟨rfl, hb1⟩
  have HB1 := Lib.hid hb1
  have s1 := hb1.size
  clear hb1
  go_wp2_with fail
  refine (new_any w1).mono ?_
  rintro e w2 ⟨rfl, hw2⟩
  have E2 : Hid (En w2 w1.heap.size 0 0 0 false) := Lib.hid (by rw [hw2]; exact heap_alloc_new w1 _)
  have HB2 : Hid (Below w.heap.size w w2) := Lib.hid (by rw [hw2]; exact HB1.out.alloc s1 _)
  clear hw2 HB1 K1
  obtain ⟨b, hb⟩ : ∃ b, b = w1.heap.size := ⟨_, rfl⟩
  rw [← hb] at E2 s1
  rw [← hb]
  clear hb
  go_wp2_with fail
  go_loopg [4, 5, 6] n (fun k al out i wr => PieR w b n l k al out i wr)
  case atStart => exact ⟨0, 0, 0, by omega, by omega, rfl, congrArg Value.string (by rw [dn_zero]; decide), E2.out, by omega, by omega, (by rw [dn_zero]; decide), World.ownsRow_nil _ _ _ _, by simp [dn_zero], HB2.out⟩
  case round =>
    obtain ⟨j, q0, q1, hj, rfl, rfl, rfl, hE, h0, h1, hrest, hown, hlen, hbel⟩ := hrel
    clear E2 HB2
    obtain ⟨D, hD⟩ : ∃ D, D = dn l j := ⟨_, rfl⟩
    rw [← hD] at hE hrest hown hlen ⊢
    have hD256 : ∀ x ∈ D, x < 256 := by rw [hD]; exact dn_lt RS.out j
    obtain ⟨m, hm⟩ : ∃ m, m = D.length := ⟨_, rfl⟩
    rw [← hm] at hE hrest hown hlen
    obtain ⟨aa, ca, rfl⟩ := own_shape hown
    have BE := Lib.hid hbel; have OW := Lib.hid hown; have EE := Lib.hid hE; have RE := Lib.hid hrest; have HD := Lib.hid hD; have LT := Lib.hid hD256; have HM := Lib.hid hm
    have sr := hbel.size
    clear hbel hown hE hrest hD hD256 hm
    by_cases hlt : j < n
    · have hjl : j < l.length := by rw [← HN.out]; exact hlt
      obtain ⟨b0, off, rfl, hb0, hcell⟩ := RS.out.at_ (by omega)
      have hc : wr.cell? ⟨b0, off + j, none⟩ = _ := (BE.out.cell (by exact hb0)).trans (hcell j hjl)
      have hep := RS.out.each l[j] (List.getElem_mem hjl)
      have hds := dn_succ l j hjl
      rw [← HD.out] at hds
      generalize l[j] = pp at *
      obtain ⟨pa, pc, pl⟩ := pp
      obtain ⟨hrp, hpn, hpm⟩ := hep
      simp only at hc hds hrp hpn hpm
      obtain ⟨pm, hpl⟩ : ∃ pm, pm = pl.length := ⟨_, rfl⟩
      rw [← hpl] at hc hpm
      have PL := Lib.hid hpl; have DS := Lib.hid hds; have RP := Lib.hid hrp; have PN := Lib.hid hpn
      have HC := Lib.hid hcell
      unfold maxLen at hpm
      clear hpl hds hrp hpn hcell
      by_cases h200 : 200 < pm
      · go_wp2_with fail
        go_ret
        exact ⟨rfl, BE.out⟩
      have T1 := TB.out.below BE.out p0
      have C1 := ewrite_any wr b m q0 q1 pa pc pl EE.out h0 h1 (RP.out.below BE.out) PN.out (by rw [← PL.out]; omega) T1 (by omega)
      unfold WrPost at C1
      rw [← PL.out] at C1
      have HC1 := Lib.hid C1
      clear C1 T1
      go_wp2_with fail
      refine HC1.out.mono ?_
      rintro e w3 ⟨rfl, ⟨r0, r1, hE3, g0, g1, hrest3⟩, hk3, hb3⟩
      have hn3 : (Value.slice aa m ca).ownBlock ≠ some b := own_ne OW.out EE.out (by decide)
      have ow3 := own_step OW.out EE.out (by decide) hk3 hb3
      have HB3 : Hid (Below w.heap.size w w3) := Lib.hid (BE.out.trans (hb3.mono s1))
      have hc3 : w3.cell? ⟨b0, off + j, none⟩ = some (.slice pa pm pc) := (hb3.cell (by show b0 < b; omega)).trans hc
      have RP3 : Hid (Rd w3 pa pl) := Lib.hid (RP.out.below HB3.out)
      have hs : strN (encF (wholeOf D)) ++ strN (encF ((restOf m q0 q1 ++ pl).take ((m % 3 + pm) / 3 * 3))) = strN (encF (wholeOf (D ++ pl))) := by
        rw [strN_append, pie_enc D pl LT.out RP.out.lt, RE.out, HM.out, PL.out]
      have hrw : restOf (m + pm) r0 r1 = waits (D ++ pl) := by
        rw [hrest3, (pie_parts D pl).2, RE.out, HM.out, PL.out]
      have h256 : ∀ x ∈ D ++ pl, x < 256 := fun x hx => by
        rcases List.mem_append.1 hx with h | h
        · exact LT.out x h
        · exact RP.out.lt x h
      have z0 : (strN (encF (wholeOf D))).size ≤ 100000 := by rw [pie_len D LT.out, ← HM.out]; omega
      have z1 : (strN (encF (wholeOf (D ++ pl)))).size = (m + pm) / 3 * 4 := by rw [pie_len _ h256, List.length_append, ← HM.out, ← PL.out]
      obtain ⟨sw, hsw⟩ : ∃ sw, sw = strN (encF ((restOf m q0 q1 ++ pl).take ((m % 3 + pm) / 3 * 3))) := ⟨_, rfl⟩
      rw [← hsw] at hs ⊢
      have z2 : sw.size ≤ 100000 := by
        have h5 := congrArg ByteArray.size hs
        rw [ByteArray.size_append, z1] at h5
        omega
      obtain ⟨S0, hS0⟩ : ∃ S0, S0 = strN (encF (wholeOf D)) := ⟨_, rfl⟩
      obtain ⟨S1, hS1⟩ : ∃ S1, S1 = strN (encF (wholeOf (D ++ pl))) := ⟨_, rfl⟩
      rw [← hS0] at hs z0 ⊢
      rw [← hS1] at hs z1
      have E3 := Lib.hid hE3; have OW3 := Lib.hid ow3; have HRW := Lib.hid hrw; have HS1 := Lib.hid hS1
      have z3 : (S1.size : Int) = ((m : Int) + (pm : Int)) / 3 * 4 := by rw [z1]; omega
      clear hE3 ow3 hrest3 hk3 hb3 hrw hsw hS0 hS1 h256 hc z1
      go_wp2_with (at_builtin; refine wpList_append_rd _ rfl (.tmp 45) (.tmp 49) _ rfl w.heap.size 5 i0 _ 1 Tryd.underlying22 hi0 hz0 hz1 hz2 rfl _ m D rfl OW3.out pa pm pc pl PL.out.symm rfl RP3.out PN.out (by unfold maxLen; omega) (by omega) HB3.out.size ?_; intro v4 w4 hown4 hgrow4; have E4 : Hid (En w4 b (m + pm) r0 r1 false) := Lib.hid (own_kept_block hgrow4 E3.out (own_ne OW3.out E3.out (by decide))); have HB4 : Hid (Below w.heap.size w w4) := Lib.hid (HB3.out.grown hgrow4 HB3.out.size (fun k hk => (OW3.out.lt k hk).1)); have OW4 := Lib.hid hown4; obtain ⟨a4, c4, rfl⟩ := own_shape hown4; clear hown4 hgrow4)
      refine (elen_any w4 b (m + pm) r0 r1 false E4.out).mono ?_
      rintro e w5 ⟨rfl, hw5⟩
      subst hw5
      have epm : ((m + pm : Nat) : Int) = (m : Int) + (pm : Int) := by omega
      rw [epm]
      clear epm
      go_wp2_with fail
      go_roundg (n - (j + 1))
      case measure => omega
      case rel =>
        have hl5 : (D ++ pl).length = m + pm := by rw [List.length_append, ← HM.out, ← PL.out]
        refine ⟨j + 1, r0, r1, by omega, rfl, by go_num, ?_, ?_, g0, g1, ?_, ?_, ?_, HB4.out⟩
        · rw [DS.out, HS1.out]
        · rw [DS.out, hl5]; exact E4.out
        · rw [DS.out, hl5]; exact HRW.out
        · rw [DS.out, hl5]; exact OW4.out
        · rw [DS.out, hl5]; omega
    · have hjn : j = n := by omega
      subst hjn
      have T1 := TB.out.below BE.out p0
      have C1 := Lib.hid (eclose_any wr b m q0 q1 EE.out h0 h1 (by omega) T1 (by omega))
      clear T1
      go_wp2_with fail
      refine C1.out.mono ?_
      rintro e w3 ⟨rfl, hE3, hk3, hb3⟩
      have ow3 := own_step OW.out EE.out (by decide) hk3 hb3
      have HB3 : Hid (Below w.heap.size w w3) := Lib.hid (BE.out.trans (hb3.mono s1))
      have hs : strN (encF (wholeOf D)) ++ strN (encF (restOf m q0 q1)) = strN (encF D) := by rw [strN_append, RE.out, pie_close D LT.out]
      have z0 : (strN (encF (wholeOf D))).size ≤ 100000 := by rw [pie_len D LT.out, ← HM.out]; omega
      have z1 : (strN (encF D)).size ≤ 100000 := by rw [strN_size, encF_len D LT.out, ← HM.out]; omega
      have C2 := rencode_any w3 aa ca D (by rw [← HM.out]; omega) (rd_own ow3 LT.out)
      rw [← HM.out] at C2
      have HC2 := Lib.hid C2
      obtain ⟨sw, hsw⟩ : ∃ sw, sw = strN (encF (restOf m q0 q1)) := ⟨_, rfl⟩
      rw [← hsw] at hs ⊢
      have z2 : sw.size ≤ 100000 := by
        have h5 := congrArg ByteArray.size hs
        rw [ByteArray.size_append] at h5
        omega
      obtain ⟨S0, hS0⟩ : ∃ S0, S0 = strN (encF (wholeOf D)) := ⟨_, rfl⟩
      obtain ⟨S1, hS1⟩ : ∃ S1, S1 = strN (encF D) := ⟨_, rfl⟩
      rw [← hS0] at hs z0 ⊢
      rw [← hS1] at hs z1 HC2
      have E3 := Lib.hid hE3
      have s3 := HB3.out.size
      clear hE3 ow3 hk3 hb3 hsw hS0 hS1 C1 C2
      go_wp2_with fail
      refine HC2.out.mono ?_
      rintro e w4 ⟨rfl, hw4⟩
      subst hw4
      go_wp2_with fail
      have E4 : Hid (En (w3.alloc (.cells #[.int .u8 1] 5)) b m q0 q1 true) := Lib.hid (alloc_block E3.out)
      refine (ewrite_closed _ b m q0 q1 _ E4.out).mono ?_
      rintro e w5 ⟨rfl, hw5⟩
      have HB5 : Hid (Below w.heap.size w w5) := Lib.hid (by rw [← hw5]; exact HB3.out.alloc s3 _)
      rw [hw5] at E4
      clear hw5
      go_wp2_with fail
      refine (eclose_closed w5 b m q0 q1 E4.out).mono ?_
      rintro e w6 ⟨rfl, hw6⟩
      subst hw6
      go_wp2_with fail
      refine (elen_any w5 b m q0 q1 true E4.out).mono ?_
      rintro e w6 ⟨rfl, hw6⟩
      subst hw6
      go_wp2_with fail
      go_ret
      exact ⟨by simp, HB5.out⟩

end Go.Proofs.YtochlfmajkkddaaDoor
