/- What a card's proof asks of a content that came in: its cells, its lists, its sizes. -/
import Derived.Test.YtohmdledkhgdaaaGreatDoorRows
import Derived.Test.YtohmdledkhgdaaaGreatDoorLo28
import Derived.ProofKit
import Derived.ShutString
import Derived.ChangeOld
import Derived.Below
import Derived.SizedLaws
import Derived.Deep.DeepHandedRow
import Derived.Deep.Slices
import Derived.Test.YtohmdledkhgdaaaGreatDoorCards
import Derived.Test.YtohmdledkhgdaaaGreatDoorTie
import Derived.LaidSub
import Derived.Lay
import Derived.LaidMore
namespace Go.Proofs.YtohmdledkhgdaaaGreatDoor
open Go.ChangeShapes Go.WideShapes Go.ChangeAt Go.RowKit
open Go.ChangeMaps (open_string shut_string)
set_option linter.unusedVariables false
set_option maxRecDepth 100000
theorem own : ownKnob Tryz.prog.godebug = none := by kernel_rfl
theorem laidOut : laidOutB Tryz.prog = true := by kernel_rfl
theorem opc_c : Tryz.prog.cellsOf 28 = 75 := by kernel_rfl
theorem opc_id : Tryz.prog.cellsOf 26 = 32 := by kernel_rfl
theorem opc_16 : Tryz.prog.cellsOf 22 = 16 := by kernel_rfl
theorem opc_u8 : Tryz.prog.cellsOf 5 = 1 := by kernel_rfl
theorem opc_i : Tryz.prog.cellsOf 3 = 1 := by kernel_rfl
theorem opc_s : Tryz.prog.cellsOf 9 = 1 := by kernel_rfl
theorem opc_ss : Tryz.prog.cellsOf 23 = 1 := by kernel_rfl
theorem opc_is : Tryz.prog.cellsOf 24 = 1 := by kernel_rfl
theorem okWide_c {w : World} {r : Reach} {base : Nat} {v : Value} (h : Value.okWide Tryz.prog w r base 28 v) : ∃ cs, v = .agg cs := by
  simp only [Value.okWide, Tryz.underlying28] at h
  obtain ⟨cs, h1, _⟩ := h
  exact ⟨cs, h1⟩
theorem opc_weights_all {H : Type} {P : Program} {e : TypeId} : ∀ {ds : List (DataW H)} {d : DataW H}, d ∈ ds → ∀ n ∈ d.weights P e, n ∈ DataW.weightsAll P e ds
  | d0 :: ds, d, hd, n, hn => by
    simp only [DataW.weightsAll, List.mem_append]
    rcases List.mem_cons.1 hd with rfl | hd
    · exact .inl hn
    · exact .inr (opc_weights_all hd n hn)
theorem opc_weights_elems {H : Type} {P : Program} {t e : TypeId} (hu : P.underlying t = some (.slice e)) {el sp : List (DataW H)} {d : DataW H} (hd : d ∈ el) : ∀ n ∈ d.weights P e, n ∈ (DataW.slice el sp).weights P t := by
  intro n hn
  simp only [DataW.weights, hu, List.mem_cons, List.mem_append]
  exact .inr (.inl (opc_weights_all hd n hn))
section
variable {H : Type} {enc : TypeId × Value → H} {w : World} {base : Nat} {spare : Nat → Bool} {held : Bool} {fuel : Nat} {cs : List Value} {x : DataW H × List MemPlace}
theorem opc_bytes {t : TypeId} {n : Nat} (ht : Tryz.prog.underlying t = some (.array n 5)) (hc : Tryz.prog.cellsOf t = n) (h : DataW.trod enc Tryz.prog w base spare held fuel t cs = some x) : ∃ l : List Nat, l.length = n ∧ (∀ x ∈ l, x < 256) ∧ cs = l.map U := by
  obtain ⟨xs, m, _, _, hlen, hxl, hi⟩ := DataW.trod_array ht h
  rw [hc] at hlen
  have each : ∀ i (hi' : i < cs.length), ∃ n : Nat, n < 256 ∧ cs[i] = U n := by
    intro i hi'
    have h1 := hi i (by omega)
    rw [opc_u8, Nat.mul_one, List.drop_eq_getElem_cons hi', List.getElem?_eq_getElem (by omega)] at h1
    obtain ⟨n, hn, _, hw⟩ := DataW.trod_int Tryz.underlying5 h1
    simp only [List.take_succ_cons, List.take_zero, List.cons.injEq, and_true] at hn
    have hb : 0 ≤ n ∧ n ≤ 255 := by
      simp [Lit.wf, IntKind.min, IntKind.max, IntKind.signed, IntKind.bits] at hw
      omega
    exact ⟨n.toNat, by omega, by rw [hn, U]; congr 1; omega⟩
  have key : ∀ cs : List Value, (∀ i (hi' : i < cs.length), ∃ n : Nat, n < 256 ∧ cs[i] = U n) → ∃ l : List Nat, (∀ x ∈ l, x < 256) ∧ cs = l.map U := by
    intro cs
    induction cs with
    | nil => exact fun _ => ⟨[], by simp, rfl⟩
    | cons c cs ih =>
      intro h
      obtain ⟨l, hl, e⟩ := ih (fun i hi' => by have := h (i + 1) (by simpa using hi'); rw [List.getElem_cons_succ] at this; exact this)
      obtain ⟨n, hn, e'⟩ := h 0 (by simp)
      simp only [List.getElem_cons_zero] at e'
      exact ⟨n :: l, by simpa using ⟨hn, hl⟩, by rw [e', e]; rfl⟩
  obtain ⟨l, hl, e⟩ := key cs each
  exact ⟨l, by rw [e, List.length_map] at hlen; exact hlen, hl, e⟩
theorem opc_strs (h : DataW.trod enc Tryz.prog w base spare held fuel 23 cs = some x) (hw : ∀ n ∈ x.1.weights Tryz.prog 23, n ≤ reachBytes) :
    ∃ v gs, cs = [v] ∧ SRow w v gs ∧ gs.length ≤ reach ∧ ∀ g ∈ gs, g.size ≤ reach := by
  rcases Go.Deep.open_slice1 Tryz.underlying23 opc_s h with ⟨rfl, _⟩ | ⟨a, len, cap, m, n, V, D, Pl, rfl, hb, hl, hm, hmm, rfl, hx⟩
  · exact ⟨_, [], rfl, ⟨none, 0, rfl, Nat.le_refl _, fun h => absurd rfl h⟩, by simp, fun _ h => by cases h⟩
  have hlm : len ≤ m := by rw [hmm]; split <;> omega
  have each : ∀ i, i < len → ∃ g : ByteArray, w.cell? (a.add i) = some (.string g) ∧ g.size ≤ reach := by
    intro i hi
    obtain ⟨h1, h2⟩ := hx i (by omega)
    obtain ⟨t, e3, ex3, _⟩ := DataW.trod_string Tryz.underlying9 h2
    simp only [List.cons.injEq, and_true] at e3
    refine ⟨t, by rw [h1, e3], ?_⟩
    have := hw t.data.toList.length (opc_weights_elems Tryz.underlying23 (List.mem_map.2 ⟨i, List.mem_range.2 hi, rfl⟩) _ (by
      have : D i = .lit (.string t.data.toList) := by injection ex3
      rw [this]
      simp [DataW.weights]))
    have e : t.data.toList.length = t.size := rfl
    rw [e] at this
    unfold reachBytes at this
    unfold reach
    omega
  obtain ⟨y, hy⟩ := Go.Deep.choose_lt each
  have hlen : len ≤ reach := by
    have := hw _ (by simp only [DataW.weights, Tryz.underlying23]; exact List.mem_cons_self ..)
    rw [show Tryz.prog.bytesOf 9 = 16 by kernel_rfl] at this
    simp at this
    unfold reachBytes at this
    unfold reach
    omega
  refine ⟨_, (List.range len).map y, rfl, ⟨some a, cap, by simp, by simpa using hl, fun hne => ?_⟩, by simpa using hlen, fun g hg => ?_⟩
  · have h0 : 0 < len := by
      rcases Nat.eq_zero_or_pos len with h | h
      · subst h; exact absurd rfl hne
      · exact h
    obtain ⟨b, off, spot⟩ := a
    have hc0 := (hy 0 h0).1
    have hspot : spot = none := by simpa [Addr.add] using World.cell?_spot hc0
    subst hspot
    refine ⟨b, off, rfl, by simpa [Addr.add] using World.block_lt_of_cell? w _ hc0, fun i hi => ?_⟩
    simp at hi
    have := (hy i hi).1
    have hadd : (⟨b, off, none⟩ : Addr).add i = ⟨b, off + i, none⟩ := by unfold Addr.add; split <;> simp_all
    rw [hadd] at this
    rw [this]; simp
  · obtain ⟨i, hi', rfl⟩ := List.mem_map.1 hg
    exact (hy i (List.mem_range.1 hi')).2
theorem opc_ids (h : DataW.trod enc Tryz.prog w base spare held fuel 24 cs = some x) (hw : ∀ n ∈ x.1.weights Tryz.prog 24, n ≤ reachBytes) :
    ∃ v ids, cs = [v] ∧ IRow w v ids ∧ ids.length ≤ reach ∧ ∀ l ∈ ids, IdOk l := by
  rcases Go.Deep.open_slice Tryz.underlying24 h with ⟨rfl, _⟩ | ⟨a, len, cap, m, n, D, Pl, rfl, hb, hl, hm, hmm, rfl, hx⟩
  · exact ⟨_, [], rfl, ⟨none, 0, rfl, Nat.le_refl _, fun h => absurd rfl h⟩, by simp, fun _ h => by cases h⟩
  have hlm : len ≤ m := by rw [hmm]; split <;> omega
  have each : ∀ i, i < len → ∃ l : List Nat, IdOk l ∧ ∀ k u, (idA l)[k]? = some u → w.cell? (a.add (i * 32 + k)) = some u := by
    intro i hi
    obtain ⟨cs', h1, h2⟩ := hx i (by omega)
    rw [opc_id] at h1
    obtain ⟨l, hl1, hl2, rfl⟩ := opc_bytes Tryz.underlying26 opc_id h2
    refine ⟨l, ⟨hl1, hl2⟩, fun k u hu => ?_⟩
    obtain ⟨_, hcl, hat⟩ := World.cells?_some h1
    have hk : k < 32 := by
      have := (Array.getElem?_eq_some_iff.1 hu).1
      rw [idA_size, hl1] at this
      exact this
    have := hat k hk
    have hadd : (a.add (i * 32)).add k = a.add (i * 32 + k) := by
      unfold Addr.add
      split <;> split <;> simp_all <;> omega
    rw [hadd] at this
    rw [this]
    simpa [idA] using hu
  obtain ⟨y, hy⟩ := Go.Deep.choose_lt each
  have hlen : len ≤ reach := by
    have := hw _ (by simp only [DataW.weights, Tryz.underlying24]; exact List.mem_cons_self ..)
    rw [show Tryz.prog.bytesOf 26 = 32 by kernel_rfl] at this
    simp at this
    unfold reachBytes at this
    unfold reach
    omega
  refine ⟨_, (List.range len).map y, rfl, ⟨some a, cap, by simp, by simpa using hl, fun hne => ?_⟩, by simpa using hlen, fun l hg => ?_⟩
  · have h0 : 0 < len := by
      rcases Nat.eq_zero_or_pos len with h | h
      · subst h; exact absurd rfl hne
      · exact h
    obtain ⟨b, off, spot⟩ := a
    have hl0 := (hy 0 h0).1
    have hc0 := (hy 0 h0).2 0 ((idA (y 0))[0]'(by rw [idA_size, hl0.len]; decide)) (Array.getElem?_eq_getElem _)
    have hspot : spot = none := by simpa [Addr.add] using World.cell?_spot hc0
    subst hspot
    refine ⟨b, off, rfl, by simpa [Addr.add] using World.block_lt_of_cell? w _ hc0, fun i hi k u hu => ?_⟩
    simp at hi
    simp at hu
    have := (hy i hi).2 k u hu
    have hadd : (⟨b, off, none⟩ : Addr).add (i * 32 + k) = ⟨b, off + i * 32 + k, none⟩ := by unfold Addr.add; split <;> simp_all <;> omega
    rw [hadd] at this
    exact this
  · obtain ⟨i, hi', rfl⟩ := List.mem_map.1 hg
    exact (hy i (List.mem_range.1 hi')).1
theorem opc_str (h : DataW.trod enc Tryz.prog w base spare held fuel 9 cs = some x) (hw : ∀ n ∈ x.1.weights Tryz.prog 9, n ≤ reachBytes) : ∃ s : ByteArray, cs = [.string s] ∧ s.size ≤ reach := by
  obtain ⟨t, e3, ex3, _⟩ := DataW.trod_string Tryz.underlying9 h
  refine ⟨t, e3, ?_⟩
  have := hw t.data.toList.length (by rw [ex3]; simp [DataW.weights])
  have e : t.data.toList.length = t.size := rfl
  rw [e] at this
  unfold reachBytes at this
  unfold reach
  omega
theorem opc_content (h : DataW.trod enc Tryz.prog w base spare held fuel 28 cs = some x) (hw : ∀ n ∈ x.1.weights Tryz.prog 28, n ≤ reachBytes) :
    ∃ (c : Cn) (gv rv : Value), cs = (c.cells gv rv).toList ∧ CnArg w c gv rv := by
  obtain ⟨xs, m, _, hx, hlen, hxl, hf⟩ := DataW.trod_struct Tryz.underlying28 h
  rw [opc_c] at hlen
  have hl14 : xs.length = 14 := hxl
  have W : ∀ (j : Nat) (t : TypeId) (hj : j < xs.length), ((Tryz.prog.underlying 28).bind fun u => match u with | .struct fs => (fs.toList.map (·.type))[j]? | _ => none) = some t → ∀ n ∈ (xs[j]'hj).1.weights Tryz.prog t, n ≤ reachBytes := by
    intro j t hj ht n hn
    refine hw n ?_
    rw [hx]
    simp only [DataW.weights, Tryz.underlying28]
    rw [Tryz.underlying28] at ht
    exact DataW.weights_mem_each (j := j) ht (by rw [List.getElem?_map, List.getElem?_eq_getElem hj]; rfl) n hn
  have f0 : DataW.trod enc Tryz.prog w base spare held m 9 ((cs.drop 0).take (Tryz.prog.cellsOf 9)) = xs[0]? := hf 0 _ rfl
  have f1 : DataW.trod enc Tryz.prog w base spare held m 22 ((cs.drop 1).take (Tryz.prog.cellsOf 22)) = xs[1]? := hf 1 _ rfl
  have f2 : DataW.trod enc Tryz.prog w base spare held m 3 ((cs.drop 17).take (Tryz.prog.cellsOf 3)) = xs[2]? := hf 2 _ rfl
  have f3 : DataW.trod enc Tryz.prog w base spare held m 23 ((cs.drop 18).take (Tryz.prog.cellsOf 23)) = xs[3]? := hf 3 _ rfl
  have f4 : DataW.trod enc Tryz.prog w base spare held m 9 ((cs.drop 19).take (Tryz.prog.cellsOf 9)) = xs[4]? := hf 4 _ rfl
  have f5 : DataW.trod enc Tryz.prog w base spare held m 24 ((cs.drop 20).take (Tryz.prog.cellsOf 24)) = xs[5]? := hf 5 _ rfl
  have f6 : DataW.trod enc Tryz.prog w base spare held m 26 ((cs.drop 21).take (Tryz.prog.cellsOf 26)) = xs[6]? := hf 6 _ rfl
  have f7 : DataW.trod enc Tryz.prog w base spare held m 9 ((cs.drop 53).take (Tryz.prog.cellsOf 9)) = xs[7]? := hf 7 _ rfl
  have f8 : DataW.trod enc Tryz.prog w base spare held m 9 ((cs.drop 54).take (Tryz.prog.cellsOf 9)) = xs[8]? := hf 8 _ rfl
  have f9 : DataW.trod enc Tryz.prog w base spare held m 3 ((cs.drop 55).take (Tryz.prog.cellsOf 3)) = xs[9]? := hf 9 _ rfl
  have f10 : DataW.trod enc Tryz.prog w base spare held m 3 ((cs.drop 56).take (Tryz.prog.cellsOf 3)) = xs[10]? := hf 10 _ rfl
  have f11 : DataW.trod enc Tryz.prog w base spare held m 22 ((cs.drop 57).take (Tryz.prog.cellsOf 22)) = xs[11]? := hf 11 _ rfl
  have f12 : DataW.trod enc Tryz.prog w base spare held m 3 ((cs.drop 73).take (Tryz.prog.cellsOf 3)) = xs[12]? := hf 12 _ rfl
  have f13 : DataW.trod enc Tryz.prog w base spare held m 9 ((cs.drop 74).take (Tryz.prog.cellsOf 9)) = xs[13]? := hf 13 _ rfl
  have g (j : Nat) (hj : j < 14) : xs[j]? = some (xs[j]'(by omega)) := List.getElem?_eq_getElem _
  rw [g 0 (by decide), opc_s] at f0
  rw [g 1 (by decide), opc_16] at f1
  rw [g 2 (by decide), opc_i] at f2
  rw [g 3 (by decide), opc_ss] at f3
  rw [g 4 (by decide), opc_s] at f4
  rw [g 5 (by decide), opc_is] at f5
  rw [g 6 (by decide), opc_id] at f6
  rw [g 7 (by decide), opc_s] at f7
  rw [g 8 (by decide), opc_s] at f8
  rw [g 9 (by decide), opc_i] at f9
  rw [g 10 (by decide), opc_i] at f10
  rw [g 11 (by decide), opc_16] at f11
  rw [g 12 (by decide), opc_i] at f12
  rw [g 13 (by decide), opc_s] at f13
  obtain ⟨s0, e0, z0⟩ := opc_str f0 (W 0 _ (by omega) rfl)
  obtain ⟨l1, a1, b1, e1⟩ := opc_bytes Tryz.underlying22 opc_16 f1
  obtain ⟨n2, e2, _, w2⟩ := DataW.trod_int Tryz.underlying3 f2
  obtain ⟨v3, gs, e3, r3, z3, y3⟩ := opc_strs f3 (W 3 _ (by omega) rfl)
  obtain ⟨s4, e4, z4⟩ := opc_str f4 (W 4 _ (by omega) rfl)
  obtain ⟨v5, ids, e5, r5, z5, y5⟩ := opc_ids f5 (W 5 _ (by omega) rfl)
  obtain ⟨l6, a6, b6, e6⟩ := opc_bytes Tryz.underlying26 opc_id f6
  obtain ⟨s7, e7, z7⟩ := opc_str f7 (W 7 _ (by omega) rfl)
  obtain ⟨s8, e8, z8⟩ := opc_str f8 (W 8 _ (by omega) rfl)
  obtain ⟨n9, e9, _, w9⟩ := DataW.trod_int Tryz.underlying3 f9
  obtain ⟨n10, e10, _, w10⟩ := DataW.trod_int Tryz.underlying3 f10
  obtain ⟨l11, a11, b11, e11⟩ := opc_bytes Tryz.underlying22 opc_16 f11
  obtain ⟨n12, e12, _, w12⟩ := DataW.trod_int Tryz.underlying3 f12
  obtain ⟨s13, e13, z13⟩ := opc_str f13 (W 13 _ (by omega) rfl)
  refine ⟨⟨s0, l1, n2, gs, s4, ids, l6, s7, s8, n9, n10, l11, n12, s13⟩, v3, v5, ?_, ⟨⟨⟨a1, b1⟩, ⟨a11, b11⟩, ⟨a6, b6⟩, y5, w2, w9, w10, w12⟩, z0, z4, z7, z8, z13, z3, y3, z5, r3, r5⟩⟩
  have cut : ∀ (i k : Nat), cs.drop i = (cs.drop i).take k ++ cs.drop (i + k) := fun i k => by
    have := (List.take_append_drop k (cs.drop i)).symm
    rwa [List.drop_drop] at this
  have s : cs = cs.drop 0 := rfl
  rw [s, cut 0 1, cut 1 16, cut 17 1, cut 18 1, cut 19 1, cut 20 1, cut 21 32, cut 53 1, cut 54 1, cut 55 1, cut 56 1, cut 57 16, cut 73 1, cut 74 1, e0, e1, e2, e3, e4, e5, e6, e7, e8, e9, e10, e11, e12, e13]
  rw [show cs.drop (74 + 1) = [] from List.drop_of_length_le (by omega)]
  simp [Cn.cells]
end
end Go.Proofs.YtohmdledkhgdaaaGreatDoor
/- What a card's proof asks: the listed variables give what the walks read of them; a witness. -/
namespace Go.Proofs.YtohmdledkhgdaaaGreatDoor
open Go.ChangeShapes Go.WideShapes Go.ChangeAt Go.RowKit
open Go.ChangeMaps (open_string shut_string)
set_option linter.unusedVariables false
set_option maxRecDepth 100000
/-- The list of every row of this seat. -/
def laidL : List (String × DataW Unit) := [("math/bits.deBruijn32tab", Rows.laid_math_bits_deBruijn32tab), ("math/bits.deBruijn64tab", Rows.laid_math_bits_deBruijn64tab), ("internal/strconv.uint64pow10", Rows.laid_internal_strconv_uint64pow10), ("unicode/utf8.acceptRanges", Rows.laid_unicode_utf8_acceptRanges), ("bulletin/base64.alphabet", Rows.laid_bulletin_base64_alphabet), ("bulletin/sha256.constants", Rows.laid_bulletin_sha256_constants), ("bulletin/canonical.formWords", Rows.laid_bulletin_canonical_formWords), ("unicode/utf8.first", Rows.laid_unicode_utf8_first)]
theorem plainL : (laidL.all fun x => x.2.handleName?.isNone) = true := by kernel_rfl
theorem laid_plain {W : World} (h : laidMetH Tryz.prog laidL W) : laidMet Tryz.prog laidL W := by rwa [MakeChecks.laidMetH_plain _ _ _ plainL] at h
theorem filtA : (laidL.filter fun x => x.1 == "bulletin/base64.alphabet") = [("bulletin/base64.alphabet", Lib.tabData .u8 (alph.map fun n : Nat => (n : Int)))] := by kernel_rfl
theorem filtP : (laidL.filter fun x => x.1 == "internal/strconv.uint64pow10") = [("internal/strconv.uint64pow10", Lib.tabData .u64 Lib.pow10Tab)] := by kernel_rfl
theorem filtK : (laidL.filter fun x => x.1 == "bulletin/sha256.constants") = [("bulletin/sha256.constants", Lib.tabData .u32 ((List.range 64).map fun c => ((shK.getD c 0 : Nat) : Int)))] := by kernel_rfl
theorem filtW : (laidL.filter fun x => x.1 == "bulletin/canonical.formWords") = [("bulletin/canonical.formWords", .agg (fWords.map fun l => .lit (.string (l.map UInt8.ofNat))))] := by kernel_rfl
theorem gTab : Tryz.prog.globalNamed "bulletin/base64.alphabet" = some 3 := by kernel_rfl
theorem gPow : Tryz.prog.globalNamed "internal/strconv.uint64pow10" = some 4 := by kernel_rfl
theorem gSha : Tryz.prog.globalNamed "bulletin/sha256.constants" = some 1 := by kernel_rfl
theorem gFw : Tryz.prog.globalNamed "bulletin/canonical.formWords" = some 0 := by kernel_rfl
theorem tab_of {W : World} (h : laidMet Tryz.prog laidL W) : Tab W := by
  have h1 := h.filter (fun x => x.1 == "bulletin/base64.alphabet")
  rw [filtA] at h1
  have ht : Lib.TabIs Tryz.prog W "bulletin/base64.alphabet" .u8 (alph.map fun n : Nat => (n : Int)) := Lib.tabIs_of_head (rest := []) gTab (show (Tryz.prog.globals[3]?).map (·.type) = some 177 by kernel_rfl) Tryz.underlying177 Tryz.underlying5 (by kernel_rfl) (by kernel_rfl) h1
  have hc : ∀ g, g < 64 → W.cell? ⟨3, g, none⟩ = some (U (al g)) := fun g hg => by
    have := ht.cell gTab g (by simp [alph]; omega)
    rw [this]
    have hl : g < alph.length := by simp [alph]; omega
    simp [U, al, List.getD, List.getElem?_eq_getElem hl]
  exact ⟨World.block_lt_of_cell? W _ (hc 0 (by omega)), hc⟩
theorem pow_of {W : World} (h : laidMet Tryz.prog laidL W) : Lib.TabIs Tryz.prog W "internal/strconv.uint64pow10" .u64 Lib.pow10Tab := by
  have h1 := h.filter (fun x => x.1 == "internal/strconv.uint64pow10")
  rw [filtP] at h1
  exact Lib.tabIs_of_head (rest := []) gPow (show (Tryz.prog.globals[4]?).map (·.type) = some 276 by kernel_rfl) Tryz.underlying276 Tryz.underlying122 (by kernel_rfl) (by kernel_rfl) h1
theorem sha_of {W : World} (h : laidMet Tryz.prog laidL W) : ∀ i, i < 64 → W.cell? ⟨1, i, none⟩ = some (.int .u32 ((shK.getD i 0 : Nat) : Int)) := by
  have h1 := h.filter (fun x => x.1 == "bulletin/sha256.constants")
  rw [filtK] at h1
  have ht : Lib.TabIs Tryz.prog W "bulletin/sha256.constants" .u32 ((List.range 64).map fun c => ((shK.getD c 0 : Nat) : Int)) := Lib.tabIs_of_head (rest := []) gSha (show (Tryz.prog.globals[1]?).map (·.type) = some 170 by kernel_rfl) Tryz.underlying170 Tryz.underlying127 (by kernel_rfl) (by kernel_rfl) h1
  intro c hc
  have := ht.cell gSha c (by simp; omega)
  rw [this]
  simp [List.getD, hc]
theorem cells_of_words {H : Type} {enc : TypeId × Value → H} {W : World} {base : Nat} {sp : Nat → Bool} {held : Bool} {fuel : Nat} {cs : List Value} {ws : List (List UInt8)} {p : List MemPlace}
    (h : DataW.trod enc Tryz.prog W base sp held fuel 101 cs = some (.agg (ws.map fun l => .lit (.string l)), p)) : cs = ws.map fun l => .string ⟨l.toArray⟩ := by
  obtain ⟨xs, m, _, hx, hlen, hxl, hi⟩ := DataW.trod_array Tryz.underlying101 h
  rw [show Tryz.prog.cellsOf 101 = 11 by kernel_rfl] at hlen
  simp only [Prod.mk.injEq, DataW.agg.injEq] at hx
  have hws : ws.length = 11 := by
    have := congrArg List.length hx.1
    simp at this
    omega
  refine List.ext_getElem (by simp [hlen, hws]) fun i h1 h2 => ?_
  have h3 := hi i (by omega)
  rw [show Tryz.prog.cellsOf 9 = 1 by kernel_rfl, Nat.mul_one, List.drop_eq_getElem_cons h1, List.getElem?_eq_getElem (by omega)] at h3
  obtain ⟨t, e3, ex3, _⟩ := DataW.trod_string Tryz.underlying9 h3
  simp only [List.take_succ_cons, List.take_zero, List.cons.injEq, and_true] at e3
  have h4 : (ws.map fun l => (DataW.lit (.string l) : DataW H))[i]? = (xs.map (·.1))[i]? := by rw [hx.1]
  rw [List.getElem?_map, List.getElem?_map, List.getElem?_eq_getElem (by omega), List.getElem?_eq_getElem (by omega)] at h4
  simp only [Option.map_some, Option.some.injEq] at h4
  rw [ex3] at h4
  simp only [DataW.lit.injEq, Lit.string.injEq] at h4
  rw [e3, List.getElem_map, h4]
theorem words_at : ∀ i, i < 11 → ((fWords.map fun l => (l.map UInt8.ofNat : List UInt8)).map fun l => (Value.string ⟨l.toArray⟩))[i]? = some (.string (strN (fWords.getD i []))) := by
  intro i hi
  rcases (by omega : i = 0 ∨ i = 1 ∨ i = 2 ∨ i = 3 ∨ i = 4 ∨ i = 5 ∨ i = 6 ∨ i = 7 ∨ i = 8 ∨ i = 9 ∨ i = 10) with rfl | rfl | rfl | rfl | rfl | rfl | rfl | rfl | rfl | rfl | rfl <;> kernel_rfl
theorem fw_of {W : World} (h : laidMet Tryz.prog laidL W) : ∀ i, i < 11 → W.cell? ⟨0, i, none⟩ = some (.string (strN (fWords.getD i []))) := by
  have h1 := h.filter (fun x => x.1 == "bulletin/canonical.formWords")
  rw [filtW] at h1
  obtain ⟨ps, ⟨g', t', cs, fuel, p, q, hg', ht', hvar, hd, _, _⟩, _⟩ := h1
  obtain rfl := Option.some.inj (gFw.symm.trans hg')
  obtain rfl := Option.some.inj ((show (Tryz.prog.globals[0]?).map (·.type) = some 101 by kernel_rfl).symm.trans ht')
  have hc := cells_of_words (ws := fWords.map fun l => l.map UInt8.ofNat) (by rw [List.map_map]; exact hd)
  intro i hi
  have := World.var?_cell gFw hvar i
  rw [this]
  have e := words_at i hi
  rw [← hc] at e
  simpa using e
theorem mx_of {W : World} (h : W.ShapedOpen Tryz.prog) : ∃ m, W.cell? ⟨2, 0, none⟩ = some (.int .i64 m) :=
  Go.Proofs.cell_of_shapedOpen_int (zero := #[.int .i64 0]) (t := 3) h (of_decide_eq_true (by kernel_rfl)) (by kernel_rfl) rfl (by kernel_rfl) (by kernel_rfl) Tryz.underlying3
theorem last_row : (((begin Tryz.prog (fun _ _ => 0) default).world.heap[8]?).bind Obj.row?).isSome = true := by kernel_rfl
theorem size_of {W : World} (h : W.ShapedOpen Tryz.prog) : 9 ≤ W.heap.size := by
  obtain ⟨⟨zero, t⟩, hz⟩ := Option.isSome_iff_exists.1 last_row
  obtain ⟨cs, hh, _, _⟩ := h.1 8 zero t (of_decide_eq_true (by kernel_rfl)) hz
  exact lt_of_block hh
theorem env_of {W : World} (h : laidMetH Tryz.prog laidL W) (hs : W.ShapedOpen Tryz.prog) : Env W :=
  ⟨tab_of (laid_plain h), pow_of (laid_plain h), mx_of hs, sha_of (laid_plain h), fw_of (laid_plain h), size_of hs⟩
/-- The witness: every listed variable laid by the kit's function. -/
theorem witness {H : Type} {enc : TypeId × Value → H} {os : Os} {f : FuncId} {fn : Func} {s : OpenSpec} {conds : List PathCond} {apart : Bool} (args : Array Value)
    (hsh : ((World.laidAll Tryz.prog os laidL).forCall (fun _ _ => 0) ⟨#[], args, []⟩).Shaped Tryz.prog)
    (hok : Input.okWideB Tryz.prog ((World.laidAll Tryz.prog os laidL).forCall (fun _ _ => 0) ⟨#[], args, []⟩) f ⟨#[], args, []⟩ = true)
    (hrow : s.preRow enc Tryz.prog fn conds apart laidL ((World.laidAll Tryz.prog os laidL).forCall (fun _ _ => 0) ⟨#[], args, []⟩).memory args) :
    ∃ (w : World) (tape : Tape) (i : Input), w.os = os ∧ (w.forCall tape i).Shaped Tryz.prog ∧ i.vars = [] ∧ Input.okWide Tryz.prog (w.forCall tape i) .any w.heap.size f i ∧
      s.preRow enc Tryz.prog fn conds apart laidL (w.forCall tape i).memory i.args ∧ ({} : Assume).holds Tryz.prog (lone (Frame.enter Tryz.prog f i.args .normal) [] (w.forCall tape i)) :=
  ⟨World.laidAll Tryz.prog os laidL, fun _ _ => 0, ⟨#[], args, []⟩, World.laidAll_os _ _ _, hsh, (Input.okWide_of_okWideB (base := 0) hok).1, (Input.okWide_of_okWideB hok).2, hrow, by
    simp only [Assume.holds]
    exact ⟨by simp, by simp, by simp, by simp, by simp⟩⟩
theorem fits (os : Os) : (World.holding Tryz.prog os ⟨#[], #[], []⟩).layFits Tryz.prog laidL [] = true := by kernel_rfl
theorem ifaces (os : Os) : (World.holding Tryz.prog os ⟨#[], #[], []⟩).layIfaces Tryz.prog laidL (World.laidAll Tryz.prog os laidL) = true := by kernel_rfl
/-- A content that came in. -/
theorem content_open {W : World} {base : Nat} {v : Value} {H : Type} {enc : TypeId × Value → H} {d : DataW H} {p : List MemPlace} (hv : Value.okWide Tryz.prog W .any base 28 v) (h : DataW.Trod enc Tryz.prog W 0 (fun _ => true) true 28 v d p)
    (hw : ∀ n ∈ d.weights Tryz.prog 28, n ≤ reachBytes) : ∃ (c : Cn) (gv rv : Value), v = .agg (c.cells gv rv) ∧ CnArg W c gv rv := by
  obtain ⟨cs, rfl⟩ := okWide_c hv
  obtain ⟨m, hm⟩ := h
  obtain ⟨c, gv, rv, h1, h2⟩ := opc_content hm hw
  exact ⟨c, gv, rv, by rw [show cs = c.cells gv rv from Array.toList_inj.1 (by simpa [Value.cells] using h1)], h2⟩
/-- The content of zeroes: the witness's argument. -/
def zeroC : Array Value := cn0.cells (.slice none 0 0) (.slice none 0 0)
end Go.Proofs.YtohmdledkhgdaaaGreatDoor
/- bulletinref01.plain, Digits (printed by gen_rdigits.py). -/
namespace Go.Proofs.YtohmdledkhgdaaaGreatDoor
open Go.RowKit
set_option linter.unusedVariables false
set_option maxRecDepth 100000
theorem exec_bs1 {P : Program} {o : Oper} {a : Act} (w : World) {t e : TypeId} {x : Operand} {v : Value} (ho : o.op = .buildSlice t 1 #[(0, x)]) (hx : a.eval x = v) (h : (Instr.buildSlice t 1 #[(0, v)]).run P w = .ok (.slice (some ⟨w.heap.size, 0, none⟩) 1 1) (w.alloc (.cells #[v] e))) : (execOp a.eval o).run P w = .ok (.value (.slice (some ⟨w.heap.size, 0, none⟩) 1 1)) (w.alloc (.cells #[v] e)) := by
  unfold execOp
  rw [ho]
  simp only [List.map_toArray, List.map_cons, List.map_nil, hx]
  rw [Sem.run_bind, h]
  rfl
end Go.Proofs.YtohmdledkhgdaaaGreatDoor
/- Walk of the reference's Encode and Size. -/
namespace Go.Proofs.YtohmdledkhgdaaaGreatDoor
open Go.RowKit Go.Maps
set_option linter.unusedVariables false
set_option maxRecDepth 100000
/-- The letters as a string. -/
def alphS : ByteArray := ⟨#[65, 66, 67, 68, 69, 70, 71, 72, 73, 74, 75, 76, 77, 78, 79, 80, 81, 82, 83, 84, 85, 86, 87, 88, 89, 90, 97, 98, 99, 100, 101, 102, 103, 104, 105, 106, 107, 108, 109, 110, 111, 112, 113, 114, 115, 116, 117, 118, 119, 120, 121, 122, 48, 49, 50, 51, 52, 53, 54, 55, 56, 57, 43, 47]⟩
end Go.Proofs.YtohmdledkhgdaaaGreatDoor
/- bulletinref18.public (printed by gen_rpub.py). -/
namespace Go.Proofs.YtohmdledkhgdaaaGreatDoor
open Go.RowKit
set_option linter.unusedVariables false
set_option maxRecDepth 100000
theorem digI_len21 {n : Int} (h : 0 ≤ n) : (digI n).length ≤ 21 := by rw [digI_pos h]; exact digN_len 20 _
theorem encF17 {l : List Nat} (h : ∀ x ∈ l, x < 256) (hl : l.length = 17) : (encF l).length ≤ 1000 := by
  rw [encF_len l h, hl]; decide
theorem built_I : ∀ l : List Value, l.length = 32 → Tryz.prog.builtSlice 120 1 [(0, .agg l.toArray)] = some l.toArray
  | [a0, a1, a2, a3, a4, a5, a6, a7, a8, a9, a10, a11, a12, a13, a14, a15, a16, a17, a18, a19, a20, a21, a22, a23, a24, a25, a26, a27, a28, a29, a30, a31], _ => by kernel_rfl
theorem fold_I : ∀ (l : List Value), l.length = 32 → Array.foldl (fun (cs : Array Value) (x : Value × Nat) => cs.setIfInBounds x.snd x.fst) #[Value.int .u8 0, Value.int .u8 0, Value.int .u8 0, Value.int .u8 0, Value.int .u8 0, Value.int .u8 0, Value.int .u8 0, Value.int .u8 0, Value.int .u8 0, Value.int .u8 0, Value.int .u8 0, Value.int .u8 0, Value.int .u8 0, Value.int .u8 0, Value.int .u8 0, Value.int .u8 0, Value.int .u8 0, Value.int .u8 0, Value.int .u8 0, Value.int .u8 0, Value.int .u8 0, Value.int .u8 0, Value.int .u8 0, Value.int .u8 0, Value.int .u8 0, Value.int .u8 0, Value.int .u8 0, Value.int .u8 0, Value.int .u8 0, Value.int .u8 0, Value.int .u8 0, Value.int .u8 0] l.toArray.zipIdx 0 l.toArray.size = l.toArray
  | [a0, a1, a2, a3, a4, a5, a6, a7, a8, a9, a10, a11, a12, a13, a14, a15, a16, a17, a18, a19, a20, a21, a22, a23, a24, a25, a26, a27, a28, a29, a30, a31], _ => by kernel_rfl
theorem infoRI : (Tryz.prog.info? 120).map (fun i => (i.zero, i.size, i.bytes)) = some (some (.agg (idA zero32)), 32, 32) := by kernel_rfl
theorem size_ri : (Tryz.prog.info? 120).map (·.size) = some 32 := by kernel_rfl
theorem idCells_snoc (l : List (List Nat)) (x : List Nat) : idCells (l ++ [x]) = idCells l ++ x.map U := by simp [idCells]
theorem ownT_row {T : TypeId} {w : World} {base : Nat} {v : Value} {l : List (List Nat)} (ho : ∀ x ∈ l, IdOk x) (h : w.ownsRow base T 32 v l.length (idCells l)) : IRow w v l := by
  rcases h.2 with ⟨rfl, h0⟩ | ⟨g, cap, cur, rfl, hb, hg, hc, _, hs, ht⟩
  · exact ⟨none, 0, by rw [h0], by rw [h0]; exact Nat.le_refl _, fun hne => absurd (List.length_eq_zero_iff.1 h0) hne⟩
  · refine ⟨some ⟨g, 0, none⟩, cap, rfl, hc, fun _ => ⟨g, 0, rfl, lt_of_block hg, fun j hj k u hu => ?_⟩⟩
    have hk : k < 32 := by
      have := (Array.getElem?_eq_some_iff.1 hu).1
      rw [idA_size, (ho _ (List.getElem_mem hj)).len] at this
      exact this
    rw [Nat.zero_add, cell_of_row w g _ _ _ _ hg]
    have e1 : (cur.toList.take (l.length * 32))[j * 32 + k]? = some u := by
      rw [ht, idCells_at l j k hj ho hk]
      unfold idA at hu
      rw [List.getElem?_toArray] at hu
      exact hu
    rw [List.getElem?_take, if_pos (by omega)] at e1
    simpa using e1
set_option maxHeartbeats 2000000 in
theorem rlist_any (w : World) (v : Value) (ids : List (List Nat)) (hr : IRow w v ids) (hn : ids.length ≤ 1000000) (hok : ∀ x ∈ ids, IdOk x) :
    Calls Tryz.prog 31 #[v] w fun e w' => ∃ v', e = .returned v' ∧ IRow w' v' ids ∧ Below w.heap.size w w' := by
  obtain ⟨i0, hi0, hz0, hz1, hz2⟩ := info_parts infoRI
  obtain ⟨a, cap, rfl, hc, r⟩ := hr
  obtain ⟨n, hnn⟩ : ∃ n, n = ids.length := ⟨_, rfl⟩
  have HN := Lib.hid hnn; have R := Lib.hid r; have OK := Lib.hid hok
  rw [← hnn] at hn ⊢
  clear hnn r hc hok
  go_enter Tryz.func31, Tryz.ntmps31
  go_wp2_with fail
  go_loopg [3, 4] n (fun k s i wr => ∃ j : Nat, j ≤ n ∧ k = n - j ∧ i = .int .i64 (j : Int) ∧ Hid (wr.ownsRow w.heap.size 120 32 s j (idCells (ids.take j))) ∧ Hid (Below w.heap.size w wr))
  case atStart => exact ⟨0, by omega, rfl, rfl, Lib.hid (World.ownsRow_nil _ _ _ _), Lib.hid (Below.refl _ _)⟩
  case round =>
    obtain ⟨j, hj, rfl, rfl, ho, hbw⟩ := hrel
    by_cases hlt : j < n
    · have hl : j < ids.length := by rw [← HN.out]; exact hlt
      obtain ⟨b, off, rfl, hb, hcell⟩ := R.out (fun e => by rw [e] at hl; simp at hl)
      have ok := OK.out _ (List.getElem_mem hl)
      have LD : Hid ((loadVar 26 ⟨b, off + j * 32, none⟩).run Tryz.prog wr = .ok (.agg (idA ids[j])) wr) := Lib.hid
        (run_loadVar_cells wr b (off + j * 32) 26 _ _ Tryz.underlying26 rfl (by rw [idA_size, ok.len]; exact size23) (fun k u hu => (hbw.out.cell (p := ⟨b, off + j * 32 + k, none⟩) hb).trans (hcell j hl k u hu)))
      have BS : Hid (Tryz.prog.builtSlice 120 1 [(0, .agg (idA ids[j]))] = some (idA ids[j])) := Lib.hid (built_I (ids[j].map U) (by rw [List.length_map, ok.len]))
      have TS : Hid (idCells (ids.take (j + 1)) = idCells (ids.take j) ++ (idA ids[j]).toList) := Lib.hid (by rw [List.take_succ_eq_append_getElem hl, idCells_snoc]; rfl)
      have CSZ : Hid ((idA ids[j]).size = 32) := Lib.hid (by rw [idA_size, ok.len])
      have ONE : Hid (∀ u ∈ (idA ids[j]).toList, u.oneCell' = true) := Lib.hid (fun u hu => (Array.all_eq_true'.1 (idA_one ids[j])) u (by simpa using hu))
      obtain ⟨cs, hcs⟩ : ∃ cs, cs = idA ids[j] := ⟨_, rfl⟩
      rw [← hcs] at LD BS TS CSZ ONE
      have FO : Hid (Array.foldl (fun (cs : Array Value) (x : Value × Nat) => cs.setIfInBounds x.snd x.fst) #[Value.int .u8 0, Value.int .u8 0, Value.int .u8 0, Value.int .u8 0, Value.int .u8 0, Value.int .u8 0, Value.int .u8 0, Value.int .u8 0, Value.int .u8 0, Value.int .u8 0, Value.int .u8 0, Value.int .u8 0, Value.int .u8 0, Value.int .u8 0, Value.int .u8 0, Value.int .u8 0, Value.int .u8 0, Value.int .u8 0, Value.int .u8 0, Value.int .u8 0, Value.int .u8 0, Value.int .u8 0, Value.int .u8 0, Value.int .u8 0, Value.int .u8 0, Value.int .u8 0, Value.int .u8 0, Value.int .u8 0, Value.int .u8 0, Value.int .u8 0, Value.int .u8 0, Value.int .u8 0] cs.zipIdx 0 cs.size = cs) := Lib.hid (by rw [hcs]; exact fold_I (ids[j].map U) (by rw [List.length_map, ok.len]))
      have FO2 : Hid (Array.foldl (fun (cs : Array Value) (x : Value × Nat) => cs.setIfInBounds x.snd x.fst) #[Value.int .u8 0, Value.int .u8 0, Value.int .u8 0, Value.int .u8 0, Value.int .u8 0, Value.int .u8 0, Value.int .u8 0, Value.int .u8 0, Value.int .u8 0, Value.int .u8 0, Value.int .u8 0, Value.int .u8 0, Value.int .u8 0, Value.int .u8 0, Value.int .u8 0, Value.int .u8 0, Value.int .u8 0, Value.int .u8 0, Value.int .u8 0, Value.int .u8 0, Value.int .u8 0, Value.int .u8 0, Value.int .u8 0, Value.int .u8 0, Value.int .u8 0, Value.int .u8 0, Value.int .u8 0, Value.int .u8 0, Value.int .u8 0, Value.int .u8 0, Value.int .u8 0, Value.int .u8 0] cs.zipIdx 0 32 = cs) := Lib.hid (by have := FO.out; rw [CSZ.out] at this; exact this)
      have hsz : w.heap.size ≤ wr.heap.size := hbw.out.size
      have GROW : Hid (∀ (o : Obj) (w8 : World), (wr.alloc o).grownBy w8 u3.ownBlock → Below w.heap.size w w8) := Lib.hid (fun o w8 hg => Below.grown (hbw.out.alloc hsz o) hg (by simp; omega) (fun k hk => (ho.out.lt k hk).1))
      have hcz : cs.size = 32 := CSZ.out
      clear hcs hcell ok hl hb
      go_wp2_with (first
        | ((with_reducible refine wpList_load 26 rfl _ rfl ?_); refine ⟨_, _, rfl, LD.out, ?_⟩)
        | ((with_reducible refine wpList_buildSliceTo rfl 67 120 1 _ rfl wr.heap.size rfl _ rfl Tryz.underlying67 cs BS.out ?_))
        | (at_builtin; refine wpList_append_own _ rfl _ _ 67 rfl w.heap.size 120 i0 (.agg (idA zero32)) 32 32 Tryz.underlying67 hi0 hz0 hz1 hz2 rfl (by decide) _ _ _ rfl (ho.out.alloc _) ⟨wr.heap.size, 0, none⟩ 1 1 cs.toList rfl (by simpa using CSZ.out) (World.news_of_block (cs := cs) (t := 120) (fr := (0, 0)) (by (first | rw [FO2.out] | rw [FO.out]); exact heap_alloc_new wr _)) ONE.out (by unfold maxLen; omega) (by omega) (by simp; omega) ?_; intro v' w8 hown' hgrow _))
      have O8 : Hid (w8.ownsRow w.heap.size 120 32 v' (j + 1) (idCells (ids.take (j + 1)))) := Lib.hid (by rw [TS.out]; exact hown')
      have F8 := Lib.hid (GROW.out _ w8 hgrow)
      clear hown' hgrow
      go_wp2_with fail
      go_roundg (n - (j + 1))
      case measure => omega
      case rel => exact ⟨j + 1, by omega, rfl, by go_num, O8, F8⟩
    · obtain rfl : j = n := by omega
      have IR : Hid (IRow wr u3 ids) := Lib.hid (by
        have h := ho.out
        rw [List.take_of_length_le (by rw [HN.out]; exact Nat.le_refl _), HN.out] at h
        exact ownT_row OK.out h)
      clear ho
      go_wp2_with fail
      go_ret
      exact ⟨_, rfl, IR.out, hbw.out⟩
set_option maxHeartbeats 2000000 in
theorem rhas_any (w : World) (v : Value) (ids : List (List Nat)) (x : List Nat) (hr : IRow w v ids) (hn : ids.length ≤ 1000000) (hok : ∀ y ∈ ids, IdOk y) (hx : IdOk x) :
    Calls Tryz.prog 88 #[v, .agg (idA x)] w fun e w' => e = .returned (.bool (ids.contains x)) ∧ Below w.heap.size w w' := by
  obtain ⟨w0, hw0⟩ : ∃ w0, w0 = w.alloc (.cells (idA x) 120) := ⟨_, rfl⟩
  have B0 : Hid (Below w.heap.size w w0) := Lib.hid (by rw [hw0]; exact (Below.refl _ _).alloc (Nat.le_refl _) _)
  have I0 : Hid (IB w0 w.heap.size 120 x) := Lib.hid (by unfold IB; rw [hw0]; exact heap_alloc_last w _)
  obtain ⟨a, cap, rfl, hc, r⟩ := hr.below B0.out
  obtain ⟨n, hnn⟩ : ∃ n, n = ids.length := ⟨_, rfl⟩
  have HN := Lib.hid hnn; have R := Lib.hid r; have OK := Lib.hid hok; have HX := Lib.hid hx
  rw [← hnn] at hn ⊢
  obtain ⟨xs, hxs⟩ : ∃ xs, xs = idA x := ⟨_, rfl⟩
  have LX : Hid (∀ q p, (loadVar 120 ⟨w.heap.size, 0, none⟩).run Tryz.prog ((w0.drewN p).drewN q) = .ok (.agg xs) ((w0.drewN p).drewN q)) := Lib.hid (fun q p => by
    rw [hxs]
    exact run_loadVar_row _ w.heap.size _ 120 _ _ _ (show ((w0.drewN p).drewN q).heap[w.heap.size]? = _ from I0.out) Tryz.underlying120 rfl (by rw [idA_size, hx.len]; exact size_ri))
  rw [← hxs] at hw0 ⊢
  have HW := Lib.hid hw0
  have HXS := Lib.hid hxs
  clear hnn r hc hok hx hw0 hxs hr
  go_enter Tryz.func88, Tryz.ntmps88
  go_upto_region 1 with fail
  rw [← HW.out]
  clear HW
  go_wp2_with fail
  go_loopg [5] n (fun k i wr => ∃ j : Nat, j ≤ n ∧ k = n - j ∧ i = .int .i64 (j : Int) ∧ Hid ((ids.take j).contains x = false) ∧ Hid (Dr w0 wr))
  case atStart => exact ⟨0, by omega, rfl, rfl, Lib.hid rfl, Lib.hid (Dr.refl _)⟩
  case round =>
    obtain ⟨j, hj, rfl, rfl, hg, hdr⟩ := hrel
    by_cases hlt : j < n
    · have hl : j < ids.length := by rw [← HN.out]; exact hlt
      obtain ⟨b, off, rfl, hb, hcell⟩ := R.out (fun e => by rw [e] at hl; simp at hl)
      have ok := OK.out _ (List.getElem_mem hl)
      have LD : Hid (∀ q, (loadVar 120 ⟨b, off + j * 32, none⟩).run Tryz.prog (wr.drewN q) = .ok (.agg (idA ids[j])) (wr.drewN q)) := Lib.hid (fun q => by
        obtain ⟨p, hp⟩ := hdr.out
        rw [hp]
        exact run_loadVar_cells _ b (off + j * 32) 120 _ _ Tryz.underlying120 rfl (by rw [idA_size, ok.len]; exact size_ri) (fun k u hu => hcell j hl k u hu))
      have LX2 : Hid (∀ q, (loadVar 120 ⟨w.heap.size, 0, none⟩).run Tryz.prog (wr.drewN q) = .ok (.agg xs) (wr.drewN q)) := Lib.hid (fun q => by obtain ⟨p, hp⟩ := hdr.out; rw [hp]; exact LX.out q p)
      have EQ : Hid (∀ w, (Op.equal 120 (.agg (idA ids[j])) (.agg xs)).run Tryz.prog w = .ok (decide (ids[j] = x)) w) := Lib.hid (fun w => by
        rw [HXS.out]; exact eq_arr Tryz.underlying120 (by kernel_rfl) (by kernel_rfl) w ok.len ok.lt HX.out.len HX.out.lt)
      have G : Hid (Tryz.prog.eqGuardType Tryz.prog.depth 120 = false) := Lib.hid (by kernel_rfl)
      have TS := List.take_succ_eq_append_getElem hl
      obtain ⟨y, hy⟩ : ∃ y, y = idA ids[j] := ⟨_, rfl⟩
      obtain ⟨r, hr⟩ : ∃ r, r = decide (ids[j] = x) := ⟨_, rfl⟩
      rw [← hy] at LD EQ
      rw [← hr] at EQ
      have HR := Lib.hid hr; have HTS := Lib.hid TS
      have HL := Lib.hid hl
      clear hy hr ok hcell TS hb
      go_upto_region 4 with fail
      refine wp_region_quiet_lit (by kernel_rfl) (by kernel_rfl) ?_
      quiet_step (fail)
      quiet_step (fail)
      quiet_step (fail)
      refine wpQuiet_load 120 rfl _ rfl ⟨_, .agg y, rfl, ?_, ?_⟩
      · rintro w2 ⟨q, rfl⟩
        exact LD.out q
      refine wpQuiet_load 120 rfl _ rfl ⟨_, .agg xs, rfl, ?_, ?_⟩
      · rintro w2 ⟨q, rfl⟩
        exact LX2.out q
      refine wpQuiet_eql 120 rfl _ _ rfl G.out ⟨_, _, _, rfl, rfl, EQ.out, ?_⟩
      refine wpQuiet_nil ?_
      rintro _ ⟨nq, rfl⟩
      clear LD LX2 EQ
      cases r
      · have G2 : Hid ((ids.take (j + 1)).contains x = false) := Lib.hid (by
          have hne := of_decide_eq_false HR.out.symm
          rw [HTS.out, List.contains_eq_mem, decide_eq_false_iff_not, List.mem_append, List.mem_singleton]
          rintro (h | h)
          · have := hg.out; rw [List.contains_eq_mem, decide_eq_false_iff_not] at this; exact this h
          · exact hne h.symm)
        clear HR hg
        go_wp2_with fail
        go_roundg (n - (j + 1))
        case measure => omega
        case rel => exact ⟨j + 1, by omega, rfl, by go_num, G2, Lib.hid (dr_tr hdr.out ⟨nq, rfl⟩)⟩
      · have YES : Hid (ids.contains x = true) := Lib.hid (by
          rw [List.contains_eq_mem, decide_eq_true_iff, ← of_decide_eq_true HR.out.symm]
          exact List.getElem_mem HL.out)
        clear HR hg
        go_wp2_with fail
        go_ret
        exact ⟨by rw [YES.out]; rfl, B0.out.trans ((Dr.below (dr_tr hdr.out ⟨nq, rfl⟩)).mono B0.out.size)⟩
    · obtain rfl : j = n := by omega
      have NO : Hid (ids.contains x = false) := Lib.hid (by have := hg.out; rwa [List.take_of_length_le (by rw [HN.out]; exact Nat.le_refl _)] at this)
      clear hg
      go_wp2_with fail
      go_ret
      exact ⟨by rw [NO.out]; rfl, B0.out.trans ((Dr.below hdr.out).mono B0.out.size)⟩
end Go.Proofs.YtohmdledkhgdaaaGreatDoor
