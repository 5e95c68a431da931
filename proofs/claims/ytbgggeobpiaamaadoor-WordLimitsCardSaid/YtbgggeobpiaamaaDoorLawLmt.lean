/- The walk of WordLimits. -/
import Derived.Test.YtbgggeobpiaamaaDoorKn
import Derived.Test.YtbgggeobpiaamaaDoorLawRt
import Derived.Test.YtbgggeobpiaamaaDoorLP
import Derived.Laws.OwnMore
namespace Go.Proofs.YtbgggeobpiaamaaDoor
open Go.RowKit Go.Maps
set_option linter.unusedVariables false
set_option maxRecDepth 100000
theorem zeros_map (n : Nat) : (madeCells (Value.int .u8 0).cells (n * 1)).toList = (List.replicate n 0).map U := by
  rw [Nat.mul_one]
  show (madeCells #[Value.int .u8 0] n).toList = _
  rw [toList_madeCells_one, List.map_replicate]
  rfl
theorem zconv {w : World} {base : Nat} {v : Value} (h : w.ownsRow base 5 1 v 16385 (madeCells (Value.int .u8 0).cells (16385 * 1)).toList) :
    ∃ zs : ByteArray, zs.size = 16385 ∧ (convert 43 9 v).run Tryd.prog w = .ok (.string zs) w := by
  obtain ⟨Z, hZ⟩ : ∃ Z, Z = List.replicate 16385 0 := ⟨_, rfl⟩
  rw [zeros_map, ← hZ] at h
  exact ⟨strN Z, by rw [strN_size, hZ, List.length_replicate], own_conv (P := Tryd.prog) 43 9 Tryd.underlying43 Tryd.underlying5 Tryd.underlying9 h⟩
theorem strN_rep_step (j : Nat) (c : List Nat) : strN (rep (8 * j) c) ++ strN c ++ strN c ++ strN c ++ strN c ++ strN c ++ strN c ++ strN c ++ strN c = strN (rep (8 * (j + 1)) c) := by
  rw [show 8 * (j + 1) = 8 * j + 8 by omega, rep_add]
  simp only [strN_app]
  congr 1
  simp [rep, List.replicate]
theorem ext_self {t : ByteArray} {n : Nat} (h : t.size = n) : t.extract 0 n = t := by rw [← h]; exact ByteArray.extract_zero_size
set_option maxHeartbeats 4000000 in
theorem limits_card (w : World) (more : Int) (hmo : (Lit.int .u8 more).wf = true) (p : Bool) (he : Env w) :
    Calls Tryd.prog 9 #[.int .u8 more, .bool p] w fun e w' => e = .returned (.bool true) ∧ Below w.heap.size w w' := by
  have hb : 0 ≤ more ∧ more ≤ 255 := by
    have := hmo
    simp [Lit.wf, IntKind.min, IntKind.max, IntKind.signed, IntKind.bits] at this
    omega
  obtain ⟨hb0, hb1⟩ := hb
  obtain ⟨i0, hi0, hz0, hz1, hz2⟩ := info_parts info5
  obtain ⟨r, hr⟩ : ∃ r : Nat, (r : Int) = more % 3 := ⟨(more % 3).toNat, by omega⟩
  have hr4 : r < 3 := by omega
  have er : more % 3 = (r : Int) := hr.symm
  have ert : more.tmod 3 = (r : Int) := by rw [Int.tmod_eq_emod_of_nonneg hb0]; exact er
  have hby2 : i0.bytes * 16385 ≤ 281474976710656 := by rw [hz2]; omega
  have K : Hid (∀ w', Below w.heap.size w w' → Calls Tryd.prog 11 #[] w' fun e w'' => e = .returned (.bool true) ∧ Below w.heap.size w w'') := Lib.hid (fun w' hb => (known_w w' (he.on hb)).mono fun e w'' h => ⟨h.1, hb.trans (h.2.mono hb.size)⟩)
  have E : Hid (∀ (u : ByteArray), u.size ≤ 5000 → ∀ w', Below w.heap.size w w' → Calls Tryd.prog 18 #[.string u, .int .i64 0] w' fun e w'' => e = .returned (.tuple #[.string (strN (encR 0 (bs u)).1), .int .i64 ((encR 0 (bs u)).2 : Int)]) ∧ Below w.heap.size w w'') := Lib.hid (fun u hu w' hb => (encode_word u 0 w' (by unfold maxLen; omega) (he.on hb)).mono fun e w'' h => ⟨h.1, hb.trans (h.2.mono hb.size)⟩)
  have D : Hid (∀ (u : ByteArray), u.size ≤ 20000 → ∀ w', Below w.heap.size w w' → Calls Tryd.prog 14 #[.string u] w' fun e w'' => e = .returned (.tuple #[.string (strN (decR (bs u)).1), .int .i64 ((decR (bs u)).2 : Int)]) ∧ Below w.heap.size w w'') := Lib.hid (fun u hu w' hb => (decode_word u w' (by unfold maxLen; omega) (he.on hb)).mono fun e w'' h => ⟨h.1, hb.trans (h.2.mono hb.size)⟩)
  have FN : Hid (∀ (u : ByteArray), 16384 < u.size → u.size ≤ 20000 → ∀ w', Below w.heap.size w w' → Calls Tryd.prog 16 #[.string u] w' fun e w'' => ∃ a c, e = .returned (.slice a 0 c) ∧ Below w.heap.size w w'') := Lib.hid (fun u hu hu2 w' hb => (find_any u w' (by omega) (he.on hb)).mono fun e w'' h => by
    obtain ⟨v, rfl, ho, hb2⟩ := h
    have h0 : findR (bs u) = [] := by unfold findR; rw [if_pos (by rw [bs_length]; exact hu)]
    rw [h0] at ho
    rcases ho.2 with ⟨rfl, _⟩ | ⟨g, c2, cur, rfl, _⟩
    · exact ⟨none, 0, rfl, hb.trans (hb2.mono hb.size)⟩
    · exact ⟨_, c2, rfl, hb.trans (hb2.mono hb.size)⟩)
  have R0 := Lib.hid (Below.refl w.heap.size w)
  obtain ⟨c, hc⟩ : ∃ c, c = unitC p := ⟨_, rfl⟩
  have cl : c.length = 2 := by rw [hc]; exact unitC_len p
  obtain ⟨_, m, hm1, hm2, hm3, hm4⟩ := limits_plain p
  rw [← hc] at hm1 hm2
  have tsz : (strN (rep 2048 c)).size = 4096 := by rw [strN_size, rep_len, cl]
  have clt : ∀ x ∈ c, x < 256 := by rw [hc]; exact unitC_lt p
  have bst : bs (strN (rep 2048 c)) = rep 2048 c := bs_strN _ (fun x hx => clt x (rep_mem x hx))
  have EL : Hid (∀ u : ByteArray, 4096 < u.size → encR 0 (bs u) = ([], 5)) := Lib.hid (fun u hu => by unfold encR; rw [if_neg (by omega), if_pos (by rw [bs_length]; exact hu)])
  have DL : Hid (∀ u : ByteArray, 16384 < u.size → decR (bs u) = ([], 5)) := Lib.hid (fun u hu => by unfold decR; rw [if_pos (by rw [bs_length]; exact hu)])
  have STEP : Hid (∀ j, strN (rep (8 * j) c) ++ strN c ++ strN c ++ strN c ++ strN c ++ strN c ++ strN c ++ strN c ++ strN c = strN (rep (8 * (j + 1)) c)) := Lib.hid (fun j => strN_rep_step j c)
  have START : Hid ((⟨#[]⟩ : ByteArray) = strN (rep (8 * 0) c)) := Lib.hid rfl
  have rsz : ∀ j, (strN (rep (8 * j) c)).size = 16 * j := fun j => by rw [strN_size, rep_len, cl]; omega
  have RSZ := Lib.hid rsz
  obtain ⟨T, hT⟩ : ∃ T, T = strN (rep 2048 c) := ⟨_, rfl⟩
  obtain ⟨cs, hcs⟩ : ∃ cs, cs = strN c := ⟨_, rfl⟩
  have cz : cs.size = 2 := by rw [hcs, strN_size, cl]
  have TOP : Hid (strN (rep (8 * 256) c) = T) := Lib.hid hT.symm
  rw [← hT] at tsz bst
  simp only [← hcs] at STEP
  have E0 := E.out T (by omega)
  rw [bst, hm1] at E0
  have D0 := D.out (strN m) (by rw [strN_size]; omega)
  rw [bs_strN m hm3, hm2] at D0
  simp only [← hT] at D0
  obtain ⟨mt, hmt⟩ : ∃ mt, mt = strN m := ⟨_, rfl⟩
  simp only [← hmt] at E0 D0
  have EE := Lib.hid E0; have DD := Lib.hid D0
  have CS := Lib.hid hcs; have HC := Lib.hid hc
  obtain ⟨G, hG⟩ : ∃ G : Nat → ByteArray, G = fun j => strN (rep (8 * j) c) := ⟨_, rfl⟩
  have STEP' : Hid (∀ j, G j ++ cs ++ cs ++ cs ++ cs ++ cs ++ cs ++ cs ++ cs = G (j + 1)) := Lib.hid (by rw [hG]; exact STEP.out)
  have TOP' : Hid (G 256 = T) := Lib.hid (by rw [hG]; exact TOP.out)
  have START' : Hid ((⟨#[]⟩ : ByteArray) = G 0) := Lib.hid (by rw [hG]; exact START.out)
  have RSZ' : Hid (∀ j, (G j).size = 16 * j) := Lib.hid (by rw [hG]; exact RSZ.out)
  clear he E0 D0 hmo hr hcs hc hT hmt bst hm1 hm2 hm3 hm4 clt cl rsz hG STEP TOP START RSZ
  cases p
  · have hcl : cs = ⟨#[195, 164]⟩ := by rw [CS.out, HC.out]; rfl
    subst hcl
    clear CS HC
    go_enter Tryd.func9, Tryd.ntmps9
    go_wp2_with (go_at_call 11; refine (K.out _ R0.out).mono ?_; rintro e w1 ⟨rfl, hb1⟩; have R0 := Lib.hid hb1; clear hb1)
    go_loopg [6] 256 (fun k v wr => ∃ j : Nat, j ≤ 256 ∧ k = 256 - j ∧ v = .string (G j) ∧ Hid (Below w.heap.size w wr))
    case atStart => exact ⟨0, by omega, rfl, congrArg Value.string START'.out, R0⟩
    case round =>
      obtain ⟨j, hj, rfl, rfl, B1⟩ := hrel
      clear R0
      have gsz := RSZ'.out j
      by_cases hlt : j < 256
      · go_wp2_with fail
        go_roundg (256 - (j + 1))
        case measure => omega
        case rel => exact ⟨j + 1, by omega, rfl, congrArg Value.string (STEP'.out j), B1⟩
      · obtain rfl : j = 256 := by omega
        rw [TOP'.out] at gsz ⊢
        clear gsz
        have ex : T.extract 0 4096 = T := ext_self tsz
        go_wp2_with fail
        clear ex
        go_loopg [6, 7] r (fun k v i wr => ∃ (j : Nat) (u : ByteArray), j ≤ r ∧ k = r - j ∧ i = .int .i64 (j : Int) ∧ v = .string u ∧ u.size = 4096 + j ∧ Hid (j = 0 → u = T) ∧ Hid (Below w.heap.size w wr))
        case atStart => exact ⟨0, T, by omega, rfl, rfl, rfl, by omega, Lib.hid (fun _ => rfl), B1⟩
        case round =>
          obtain ⟨j, u, hj, rfl, rfl, rfl, usz, HU, B2⟩ := hrel
          clear B1
          by_cases hlt : j < r
          · go_wp2_with fail
            go_roundg (r - (j + 1))
            case measure => omega
            case rel => exact ⟨j + 1, _, by omega, rfl, by go_num, rfl, by rw [ByteArray.size_append, usz]; rfl, Lib.hid (fun h => by omega), B2⟩
          · obtain rfl : j = r := by omega
            by_cases r0 : j = 0
            · obtain rfl := HU.out r0
              subst r0
              clear usz HU
              go_wp2_with fail
              refine (EE.out wr B2.out).mono ?_
              rintro e w3 ⟨rfl, hb3⟩
              have B3 := Lib.hid hb3
              clear hb3 B2 E
              go_wp2_with (at_make; refine wpList_make_full _ rfl _ _ _ rfl w.heap.size 5 i0 _ 1 Tryd.underlying43 hi0 hz0 hz1 .i64 .i64 _ _ 16385 rfl rfl (by omega) (by omega) hby2 (by unfold maxLen; omega) B3.out.size ?_; intro w6 hown hgrow; have OW := Lib.hid hown; have B6 : Hid (Below w.heap.size w w6) := Lib.hid (B3.out.grown hgrow B3.out.size (fun k hk => by cases hk)); clear hown hgrow; obtain ⟨zs, hzs, hcv⟩ := zconv OW.out; clear OW)
              clear hcv
              have D1 := D.out zs (by omega) w6 B6.out
              rw [DL.out zs (by omega)] at D1
              have ez : strN [] = ⟨#[]⟩ := rfl
              simp only [ez] at D1
              clear ez
              refine D1.mono ?_
              rintro e w7 ⟨rfl, hb7⟩
              have B7 := Lib.hid hb7
              clear hb7 B6 D1
              go_wp2_with fail
              refine (FN.out zs (by omega) (by omega) w7 B7.out).mono ?_
              rintro e w8 ⟨a8, c8, rfl, hb8⟩
              have B8 := Lib.hid hb8
              clear hb8 B7
              go_wp2_with fail
              refine (DD.out w8 B8.out).mono ?_
              rintro e w9 ⟨rfl, hb9⟩
              have B9 := Lib.hid hb9
              clear hb9 B8
              go_wp2_with fail
              go_ret
              exact ⟨ret_bool (by simp), B9.out⟩
            · have E1 := E.out u (by omega) wr B2.out
              rw [EL.out u (by omega)] at E1
              have ez : strN [] = ⟨#[]⟩ := rfl
              simp only [ez] at E1
              have EH := Lib.hid E1
              clear ez E1
              go_wp2_with fail
              refine EH.out.mono ?_
              rintro e w3 ⟨rfl, hb3⟩
              have B3 := Lib.hid hb3
              clear hb3 B2 E EH
              go_wp2_with (at_make; refine wpList_make_full _ rfl _ _ _ rfl w.heap.size 5 i0 _ 1 Tryd.underlying43 hi0 hz0 hz1 .i64 .i64 _ _ 16385 rfl rfl (by omega) (by omega) hby2 (by unfold maxLen; omega) B3.out.size ?_; intro w6 hown hgrow; have OW := Lib.hid hown; have B6 : Hid (Below w.heap.size w w6) := Lib.hid (B3.out.grown hgrow B3.out.size (fun k hk => by cases hk)); clear hown hgrow; obtain ⟨zs, hzs, hcv⟩ := zconv OW.out; clear OW)
              clear hcv
              have D1 := D.out zs (by omega) w6 B6.out
              rw [DL.out zs (by omega)] at D1
              have ez : strN [] = ⟨#[]⟩ := rfl
              simp only [ez] at D1
              clear ez
              refine D1.mono ?_
              rintro e w7 ⟨rfl, hb7⟩
              have B7 := Lib.hid hb7
              clear hb7 B6 D1
              go_wp2_with fail
              refine (FN.out zs (by omega) (by omega) w7 B7.out).mono ?_
              rintro e w8 ⟨a8, c8, rfl, hb8⟩
              have B8 := Lib.hid hb8
              clear hb8 B7
              go_wp2_with fail
              go_ret
              exact ⟨rfl, B8.out⟩
  · have hcl : cs = ⟨#[97, 98]⟩ := by rw [CS.out, HC.out]; rfl
    subst hcl
    clear CS HC
    go_enter Tryd.func9, Tryd.ntmps9
    go_wp2_with (go_at_call 11; refine (K.out _ R0.out).mono ?_; rintro e w1 ⟨rfl, hb1⟩; have R0 := Lib.hid hb1; clear hb1)
    go_loopg [6] 256 (fun k v wr => ∃ j : Nat, j ≤ 256 ∧ k = 256 - j ∧ v = .string (G j) ∧ Hid (Below w.heap.size w wr))
    case atStart => exact ⟨0, by omega, rfl, congrArg Value.string START'.out, R0⟩
    case round =>
      obtain ⟨j, hj, rfl, rfl, B1⟩ := hrel
      clear R0
      have gsz := RSZ'.out j
      by_cases hlt : j < 256
      · go_wp2_with fail
        go_roundg (256 - (j + 1))
        case measure => omega
        case rel => exact ⟨j + 1, by omega, rfl, congrArg Value.string (STEP'.out j), B1⟩
      · obtain rfl : j = 256 := by omega
        rw [TOP'.out] at gsz ⊢
        clear gsz
        have ex : T.extract 0 4096 = T := ext_self tsz
        go_wp2_with fail
        clear ex
        go_loopg [6, 7] r (fun k v i wr => ∃ (j : Nat) (u : ByteArray), j ≤ r ∧ k = r - j ∧ i = .int .i64 (j : Int) ∧ v = .string u ∧ u.size = 4096 + j ∧ Hid (j = 0 → u = T) ∧ Hid (Below w.heap.size w wr))
        case atStart => exact ⟨0, T, by omega, rfl, rfl, rfl, by omega, Lib.hid (fun _ => rfl), B1⟩
        case round =>
          obtain ⟨j, u, hj, rfl, rfl, rfl, usz, HU, B2⟩ := hrel
          clear B1
          by_cases hlt : j < r
          · go_wp2_with fail
            go_roundg (r - (j + 1))
            case measure => omega
            case rel => exact ⟨j + 1, _, by omega, rfl, by go_num, rfl, by rw [ByteArray.size_append, usz]; rfl, Lib.hid (fun h => by omega), B2⟩
          · obtain rfl : j = r := by omega
            by_cases r0 : j = 0
            · obtain rfl := HU.out r0
              subst r0
              clear usz HU
              go_wp2_with fail
              refine (EE.out wr B2.out).mono ?_
              rintro e w3 ⟨rfl, hb3⟩
              have B3 := Lib.hid hb3
              clear hb3 B2 E
              go_wp2_with (at_make; refine wpList_make_full _ rfl _ _ _ rfl w.heap.size 5 i0 _ 1 Tryd.underlying43 hi0 hz0 hz1 .i64 .i64 _ _ 16385 rfl rfl (by omega) (by omega) hby2 (by unfold maxLen; omega) B3.out.size ?_; intro w6 hown hgrow; have OW := Lib.hid hown; have B6 : Hid (Below w.heap.size w w6) := Lib.hid (B3.out.grown hgrow B3.out.size (fun k hk => by cases hk)); clear hown hgrow; obtain ⟨zs, hzs, hcv⟩ := zconv OW.out; clear OW)
              clear hcv
              have D1 := D.out zs (by omega) w6 B6.out
              rw [DL.out zs (by omega)] at D1
              have ez : strN [] = ⟨#[]⟩ := rfl
              simp only [ez] at D1
              clear ez
              refine D1.mono ?_
              rintro e w7 ⟨rfl, hb7⟩
              have B7 := Lib.hid hb7
              clear hb7 B6 D1
              go_wp2_with fail
              refine (FN.out zs (by omega) (by omega) w7 B7.out).mono ?_
              rintro e w8 ⟨a8, c8, rfl, hb8⟩
              have B8 := Lib.hid hb8
              clear hb8 B7
              go_wp2_with fail
              refine (DD.out w8 B8.out).mono ?_
              rintro e w9 ⟨rfl, hb9⟩
              have B9 := Lib.hid hb9
              clear hb9 B8
              go_wp2_with fail
              go_ret
              exact ⟨ret_bool (by simp), B9.out⟩
            · have E1 := E.out u (by omega) wr B2.out
              rw [EL.out u (by omega)] at E1
              have ez : strN [] = ⟨#[]⟩ := rfl
              simp only [ez] at E1
              have EH := Lib.hid E1
              clear ez E1
              go_wp2_with fail
              refine EH.out.mono ?_
              rintro e w3 ⟨rfl, hb3⟩
              have B3 := Lib.hid hb3
              clear hb3 B2 E EH
              go_wp2_with (at_make; refine wpList_make_full _ rfl _ _ _ rfl w.heap.size 5 i0 _ 1 Tryd.underlying43 hi0 hz0 hz1 .i64 .i64 _ _ 16385 rfl rfl (by omega) (by omega) hby2 (by unfold maxLen; omega) B3.out.size ?_; intro w6 hown hgrow; have OW := Lib.hid hown; have B6 : Hid (Below w.heap.size w w6) := Lib.hid (B3.out.grown hgrow B3.out.size (fun k hk => by cases hk)); clear hown hgrow; obtain ⟨zs, hzs, hcv⟩ := zconv OW.out; clear OW)
              clear hcv
              have D1 := D.out zs (by omega) w6 B6.out
              rw [DL.out zs (by omega)] at D1
              have ez : strN [] = ⟨#[]⟩ := rfl
              simp only [ez] at D1
              clear ez
              refine D1.mono ?_
              rintro e w7 ⟨rfl, hb7⟩
              have B7 := Lib.hid hb7
              clear hb7 B6 D1
              go_wp2_with fail
              refine (FN.out zs (by omega) (by omega) w7 B7.out).mono ?_
              rintro e w8 ⟨a8, c8, rfl, hb8⟩
              have B8 := Lib.hid hb8
              clear hb8 B7
              go_wp2_with fail
              go_ret
              exact ⟨rfl, B8.out⟩
end Go.Proofs.YtbgggeobpiaamaaDoor
