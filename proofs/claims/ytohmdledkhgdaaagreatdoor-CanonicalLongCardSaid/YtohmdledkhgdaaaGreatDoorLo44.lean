/- The library's Repeat at this seat (laid by the shelf's tools). -/
import Derived.Test.YtohmdledkhgdaaaGreatDoorLo43
namespace Go.Proofs.YtohmdledkhgdaaaGreatDoor
open Go.Shelf Go.RowKit
set_option linter.unusedVariables false
def lb_lays105_ren : Go.Shelf.Ren := ⟨fun | 105 => 17 | 212 => 39 | 99 => 26 | 165 => 40 | 166 => 41 | 170 => 42 | 169 => 43 | 263 => 80 | 264 => 81 | 206 => 71 | 240 => 82 | 241 => 83 | 276 => 126 | 277 => 127 | n => n, fun | 9 => 9 | 3 => 3 | 4 => 4 | 20 => 20 | 0 => 0 | 46 => 75 | 109 => 76 | 5 => 5 | 72 => 80 | 76 => 84 | 51 => 127 | 146 => 128 | 53 => 122 | 148 => 130 | 70 => 78 | 37 => 62 | 75 => 83 | 127 => 132 | 164 => 184 | 80 => 87 | n => n, fun | n => n⟩
theorem lb_lays105 : Go.Proofs.Lays.n105 Tryz.prog lb_lays105_ren := {
  mixed := by kernel_rfl
  f99 := Tryz.func26.trans (congrArg some (by kernel_rfl))
  f105 := Tryz.func17.trans (congrArg some (by kernel_rfl))
  f165 := Tryz.func40.trans (congrArg some (by kernel_rfl))
  f166 := Tryz.func41.trans (congrArg some (by kernel_rfl))
  f169 := Tryz.func43.trans (congrArg some (by kernel_rfl))
  f170 := Tryz.func42.trans (congrArg some (by kernel_rfl))
  f206 := Tryz.func71.trans (congrArg some (by kernel_rfl))
  f212 := Tryz.func39.trans (congrArg some (by kernel_rfl))
  f240 := Tryz.func82.trans (congrArg some (by kernel_rfl))
  f241 := Tryz.func83.trans (congrArg some (by kernel_rfl))
  f263 := Tryz.func80.trans (congrArg some (by kernel_rfl))
  f264 := Tryz.func81.trans (congrArg some (by kernel_rfl))
  f276 := Tryz.func126.trans (congrArg some (by kernel_rfl))
  f277 := Tryz.func127.trans (congrArg some (by kernel_rfl))
  t0 := Tryz.underlying0
  a0 := Tryz.isAgg0
  z0 := Tryz.sizeOf0
  v0 := Tryz.zeroValue0
  t3 := Tryz.underlying3
  a3 := Tryz.isAgg3
  z3 := Tryz.sizeOf3
  v3 := Tryz.zeroValue3
  t4 := Tryz.underlying4
  a4 := Tryz.isAgg4
  z4 := Tryz.sizeOf4
  v4 := Tryz.zeroValue4
  t5 := Tryz.underlying5
  a5 := Tryz.isAgg5
  z5 := Tryz.sizeOf5
  v5 := Tryz.zeroValue5
  t9 := Tryz.underlying9
  a9 := Tryz.isAgg9
  z9 := Tryz.sizeOf9
  v9 := Tryz.zeroValue9
  t20 := Tryz.underlying20
  a20 := Tryz.isAgg20
  z20 := Tryz.sizeOf20
  v20 := Tryz.zeroValue20
  t37 := Tryz.underlying62
  a37 := Tryz.isAgg62
  z37 := Tryz.sizeOf62
  v37 := Tryz.zeroValue62
  t46 := Tryz.underlying75
  a46 := Tryz.isAgg75
  z46 := Tryz.sizeOf75
  v46 := Tryz.zeroValue75
  t51 := Tryz.underlying127
  a51 := Tryz.isAgg127
  z51 := Tryz.sizeOf127
  v51 := Tryz.zeroValue127
  t53 := Tryz.underlying122
  a53 := Tryz.isAgg122
  z53 := Tryz.sizeOf122
  v53 := Tryz.zeroValue122
  t70 := Tryz.underlying78
  a70 := Tryz.isAgg78
  z70 := Tryz.sizeOf78
  v70 := Tryz.zeroValue78
  t72 := Tryz.underlying80
  a72 := Tryz.isAgg80
  z72 := Tryz.sizeOf80
  v72 := Tryz.zeroValue80
  t75 := Tryz.underlying83
  a75 := Tryz.isAgg83
  z75 := Tryz.sizeOf83
  v75 := Tryz.zeroValue83
  t76 := Tryz.underlying84
  a76 := Tryz.isAgg84
  z76 := Tryz.sizeOf84
  v76 := Tryz.zeroValue84
  t109 := Tryz.underlying76
  a109 := Tryz.isAgg76
  z109 := Tryz.sizeOf76
  v109 := Tryz.zeroValue76
  t127 := Tryz.underlying132
  a127 := Tryz.isAgg132
  z127 := Tryz.sizeOf132
  v127 := Tryz.zeroValue132
  t146 := Tryz.underlying128
  a146 := Tryz.isAgg128
  z146 := Tryz.sizeOf128
  v146 := Tryz.zeroValue128
  t148 := Tryz.underlying130
  a148 := Tryz.isAgg130
  z148 := Tryz.sizeOf130
  v148 := Tryz.zeroValue130
  t164 := Tryz.underlying184
  a164 := Tryz.isAgg184
  z164 := Tryz.sizeOf184
  v164 := Tryz.zeroValue184 }
theorem lb_Builder_Extra_105 : Builder.Extra Tryz.prog lb_lays105_ren := {
  sizeBuilder := by kernel_rfl
  liesBuilder := by kernel_rfl
  t5 := Tryz.underlying5
  a5 := Tryz.isAgg5
  z5 := Tryz.sizeOf5
  v5 := Tryz.zeroValue5
  infoByte := by kernel_rfl
  cellsByte := by kernel_rfl
  sizeByte := by kernel_rfl
  neB5 := by decide }
theorem lb_strings_Repeat (s : ByteArray) (c : Nat) (w : World) (hc : c ≤ 9223372036854775807) (hlen : s.size * c ≤ 140737488355328) :
    Calls Tryz.prog 17 #[.string s, .int .i64 c] w fun e w' => e = .returned (.string ⟨(Lib.repeatL s.data.toList c).toArray⟩) ∧ Below w.heap.size w w' := Any.strings_Repeat lb_lays105 lb_Builder_Extra_105 s c w hc hlen
end Go.Proofs.YtohmdledkhgdaaaGreatDoor
/- CanonicalLong. -/
namespace Go.Proofs.YtohmdledkhgdaaaGreatDoor
open Go.RowKit
set_option linter.unusedVariables false
set_option maxRecDepth 100000
theorem u8_of {n : Int} (h : (Lit.int .u8 n).wf = true) : 0 ≤ n ∧ n ≤ 255 := by
  simp [Lit.wf, IntKind.min, IntKind.max, IntKind.signed, IntKind.bits] at h
  omega
theorem u16_of {n : Int} (h : (Lit.int .u16 n).wf = true) : 0 ≤ n ∧ n ≤ 65535 := by
  simp [Lit.wf, IntKind.min, IntKind.max, IntKind.signed, IntKind.bits] at h
  omega
/-- A content with another body. -/
def Cn.withBody (c : Cn) (b : ByteArray) : Cn := { c with body := b }
theorem withBody_ok {c : Cn} (h : c.Ok) (b : ByteArray) : (c.withBody b).Ok := ⟨h.author, h.root, h.sup, h.refs, h.date, h.number, h.height, h.leaf⟩
theorem cells_set74 {c : Cn} (h : c.Ok) (gv rv : Value) (b : ByteArray) : (c.cells gv rv).setIfInBounds 74 (.string b) = (c.withBody b).cells gv rv := by
  have := list_set_at (([.string c.name] : List Value) ++ (c.author.map U ++ (([.int .i64 c.date, gv, .string c.subject, rv] : List Value) ++ (c.sup.map U ++ (([.string c.ctl, .string c.dist, .int .i64 c.number, .int .i64 c.height] : List Value) ++ (c.root.map U ++ ([.int .i64 c.leaf] : List Value))))))) (.string c.body) (.string b) [] 74 (by simp [h.author.len, h.root.len, h.sup.len])
  simpa [Cn.cells, Cn.withBody, List.append_assoc] using this
theorem CB.set74 {w : World} {b : Nat} {c : Cn} {gv rv : Value} {T : TypeId} (h : CB w b c gv rv T) (ok : c.Ok) (s : ByteArray) : CB (w.setCell ⟨b, 74, none⟩ (.string s)) b (c.withBody s) gv rv T := by
  have := setB h 74 (.string s)
  rw [cells_set74 ok] at this
  exact this
theorem FitsP.innB {w : World} {c : Cn} {gv rv : Value} (h : FitsP c) (ha : CnArg w c gv rv) (b : ByteArray) (hb : b.size ≤ 1000000) : CnIn w (c.withBody b) gv rv :=
  ⟨withBody_ok ha.ok b, by have := h.tx; show c.name.size ≤ _; omega, by have := h.tx; show c.subject.size ≤ _; omega, by have := h.tx; show c.ctl.size ≤ _; omega, by have := h.tx; show c.dist.size ≤ _; omega, hb, by have := h.gl; show c.groups.length ≤ _; omega, fun g hg => by have := tot_mem (l := c.groups) hg; have := h.gt; omega, by have := h.rl; show c.refs.length ≤ _; omega, ha.srow, ha.irow⟩
theorem flat_last {X : Type} (f : X → List Nat) (x : Nat) : ∀ (l : List X), l ≠ [] → (∀ p, ∃ g, f p = g ++ [x]) → ∃ Z, l.flatMap f = Z ++ [x]
  | [], h, _ => absurd rfl h
  | [p], _, hf => by obtain ⟨g, hg⟩ := hf p; exact ⟨g, by simp [hg]⟩
  | p :: q :: l, _, hf => by
    obtain ⟨Z, hZ⟩ := flat_last f x (q :: l) (by simp) hf
    exact ⟨f p ++ Z, by rw [List.flatMap_cons, hZ, List.append_assoc]⟩
theorem form_suffix (c : Cn) : Lib.hasSuffix (strN (formF c.p)).data.toList ((⟨#[10, 10]⟩ : ByteArray) ++ c.body).data.toList = true := by
  obtain ⟨Z, hZ⟩ := flat_last (fun p : List Nat × List Nat => p.1 ++ 32 :: p.2 ++ [10]) 10 (fWords.zip (fVals c.p)) (by unfold fWords fVals; simp) (fun p => ⟨p.1 ++ 32 :: p.2, by simp⟩)
  have e : strN (formF c.p) = strN Z ++ ((⟨#[10, 10]⟩ : ByteArray) ++ c.body) := by
    have h2 : formF c.p = Z ++ ([10, 10] ++ bs c.body) := by
      unfold formF
      rw [hZ]
      show Z ++ [10] ++ 10 :: bs c.body = _
      simp
    rw [h2, ← strN_app, ← strN_app, strN_bs]
    rfl
  rw [e]
  unfold Lib.hasSuffix
  rw [List.isSuffixOf_iff_suffix]
  exact ⟨(strN Z).data.toList, by simp [ByteArray.data_append]⟩
set_option maxHeartbeats 100000000 in
theorem ll_any (w : World) (c : Cn) (gv rv : Value) (ly wy : Int) (ha : CnArg w c gv rv) (h8 : (Lit.int .u8 ly).wf = true) (h16 : (Lit.int .u16 wy).wf = true) (hE : Env w) :
    Calls Tryz.prog 4 #[.agg (c.cells gv rv), .int .u8 ly, .int .u16 wy] w fun e w' => e = .returned (.bool true) ∧ Below w.heap.size w w' := by
  obtain ⟨l1, l2⟩ := u8_of h8
  obtain ⟨m1, m2⟩ := u16_of h16
  obtain ⟨ln, rfl⟩ : ∃ n : Nat, ly = (n : Int) := ⟨ly.toNat, by omega⟩
  obtain ⟨wn, rfl⟩ : ∃ n : Nat, wy = (n : Int) := ⟨wy.toNat, by omega⟩
  obtain ⟨q, hq⟩ : ∃ q, q = wn % 1100 := ⟨_, rfl⟩
  have hq2 : q < 1100 := by rw [hq]; exact Nat.mod_lt _ (by omega)
  have hrem : (wn : Int) % 1100 = (q : Int) := by rw [hq]; rfl
  obtain ⟨w0, hw0⟩ : ∃ w0, w0 = w.alloc (.cells (c.cells gv rv) 28) := ⟨_, rfl⟩
  have B0 : Below w.heap.size w w0 := by rw [hw0]; exact (Below.refl _ _).alloc (Nat.le_refl _) _
  have C0 : CB w0 w.heap.size c gv rv 28 := by rw [hw0]; exact CB.new w c gv rv _
  have U : ∀ wx, Below w0.heap.size w0 wx → Below w.heap.size w wx := fun wx h => B0.trans (h.mono B0.size)
  have ok := ha.ok
  obtain ⟨ca, hca⟩ : ∃ x, x = c.cells gv rv := ⟨_, rfl⟩
  obtain ⟨L, hL⟩ : ∃ L : ByteArray, L = ⟨(Lib.repeatL (⟨#[120]⟩ : ByteArray).data.toList q).toArray⟩ ++ ⟨#[10]⟩ := ⟨_, rfl⟩
  obtain ⟨L0, hL0⟩ : ∃ L : ByteArray, L = ⟨(Lib.repeatL (⟨#[120]⟩ : ByteArray).data.toList q).toArray⟩ := ⟨_, rfl⟩
  have z0 : L0.size = q := by rw [hL0]; show ((Lib.repeatL _ q).toArray).size = _; rw [List.size_toArray, Lib.repeatL_length]; simp
  have zL : L.size = q + 1 := by rw [hL, ← hL0, ByteArray.size_append, z0]; rfl
  obtain ⟨B, hB⟩ : ∃ B : ByteArray, B = ⟨(Lib.repeatL L.data.toList ln).toArray⟩ := ⟨_, rfl⟩
  have zB : B.size ≤ 280500 := by
    rw [hB]; show ((Lib.repeatL _ ln).toArray).size ≤ _
    rw [List.size_toArray, Lib.repeatL_length]
    have : L.data.toList.length = L.size := Array.length_toList
    rw [this, zL]
    calc ln * (q + 1) ≤ 255 * 1100 := Nat.mul_le_mul (by omega) (by omega)
      _ = 280500 := rfl
  have RP1 : Hid (∀ w, Calls Tryz.prog 17 #[.string ⟨#[120]⟩, .int .i64 ((wn : Int) % 1100)] w fun e w' => e = .returned (.string L0) ∧ Below w.heap.size w w') := Lib.hid (fun w => by
    rw [hrem, hL0]; exact lb_strings_Repeat ⟨#[120]⟩ q w (by omega) (by show 1 * q ≤ _; omega))
  have RP2 : Hid (∀ w, Calls Tryz.prog 17 #[.string L, .int .i64 (ln : Int)] w fun e w' => e = .returned (.string B) ∧ Below w.heap.size w w') := Lib.hid (fun w => by
    rw [hB]; exact lb_strings_Repeat L ln w (by omega) (by
      rw [zL]
      calc (q + 1) * ln ≤ 1100 * 255 := Nat.mul_le_mul (by omega) (by omega)
        _ ≤ _ := by omega))
  have hs0 : L0.size ≤ 1100 := by rw [z0]; omega
  have HLA : Hid (L0 ++ ⟨#[10]⟩ = L) := Lib.hid (by rw [hL, hL0])
  obtain ⟨c2, hc2⟩ : ∃ c2, c2 = c.withBody B := ⟨_, rfl⟩
  obtain ⟨cb, hcb⟩ : ∃ x, x = c2.cells gv rv := ⟨_, rfl⟩
  obtain ⟨k, hk⟩ : ∃ k, k = chkF c2.p := ⟨_, rfl⟩
  obtain ⟨S, hS⟩ : ∃ S, S = strN (if chkF c2.p = 0 then formF c2.p else []) := ⟨_, rfl⟩
  have LA : Hid (∀ wx, Below w0.heap.size w0 wx → (loadVar 28 ⟨w.heap.size, 0, none⟩).run Tryz.prog wx = .ok (.agg ca) wx) := Lib.hid (fun wx h => by rw [hca]; exact CB.allR (C0.on h) ok)
  have KN : Hid (∀ wx, Below w0.heap.size w0 wx → Calls Tryz.prog 7 #[] wx fun e w' => e = .returned (.bool true) ∧ Below wx.heap.size wx w') := Lib.hid (fun wx h => known_any wx (hE.on (U wx h)))
  have FA : Hid (∀ wx, Below w0.heap.size w0 wx → Calls Tryz.prog 8 #[.agg ca] wx (FitP c wx)) := Lib.hid (fun wx h => by rw [hca]; exact lfits_any wx c gv rv (ha.on (U wx h)))
  have CST : Hid (∀ wx, Below w0.heap.size w0 wx → CB (wx.setCell ⟨w.heap.size, 74, none⟩ (.string B)) w.heap.size c2 gv rv 28 ∧ Below w.heap.size w (wx.setCell ⟨w.heap.size, 74, none⟩ (.string B)) ∧ (∃ u, wx.cell? ⟨w.heap.size, 74, none⟩ = some u) ∧ wx.frozen? ⟨w.heap.size, 74, none⟩ = false) := Lib.hid (fun wx h => by
    have e := C0.on h
    exact ⟨by rw [hc2]; exact e.set74 ok B, (U wx h).setCell (p := ⟨w.heap.size, 74, none⟩) (Nat.le_refl _) _, ⟨_, e.at (cn_74 ok gv rv)⟩, by have : wx.heap[w.heap.size]? = _ := e; simp [World.frozen?, this]⟩)
  have INB : Hid (FitsP c → ∀ wx, Below w.heap.size w wx → CnIn wx c2 gv rv) := Lib.hid (fun f wx h => by rw [hc2]; exact f.innB (ha.on h) B (by omega))
  have ok2 : c2.Ok := by rw [hc2]; exact withBody_ok ok B
  have LB : Hid (∀ wx, CB wx w.heap.size c2 gv rv 28 → (loadVar 28 ⟨w.heap.size, 0, none⟩).run Tryz.prog wx = .ok (.agg cb) wx) := Lib.hid (fun wx h => by rw [hcb]; exact CB.allR h ok2)
  have L74 : Hid (∀ wx, CB wx w.heap.size c2 gv rv 28 → wx.cell? ⟨w.heap.size, 74, none⟩ = some (.string B)) := Lib.hid (fun wx h => by have := h.at (cn_74 ok2 gv rv); rw [show c2.body = B by rw [hc2]; rfl] at this; exact this)
  have RC2 : Hid (∀ wx, CnIn wx c2 gv rv → Calls Tryz.prog 18 #[.agg cb] wx fun e w' => e = .returned (.int .i64 (k : Int)) ∧ Below wx.heap.size wx w') := Lib.hid (fun wx h => by rw [hcb, hk]; exact rcheck18_any wx c2 gv rv h)
  have OW : Hid (∀ wx, CnIn wx c2 gv rv → Calls Tryz.prog 10 #[.agg cb] wx fun e w' => ∃ cs g1 r1, e = .returned (.agg cs) ∧ cs = c2.cells g1 r1 ∧ CnIn w' c2 g1 r1 ∧ Below wx.heap.size wx w') := Lib.hid (fun wx h => by
    rw [hcb]
    refine (own_any wx c2 gv rv h).mono ?_
    rintro e w' ⟨g1, r1, rfl, o1, o2, hb⟩
    exact ⟨_, g1, r1, rfl, rfl, own_in h o1 o2, hb⟩)
  have FM : Hid (FitsP c → ∀ wx cs g1 r1, cs = c2.cells g1 r1 → CnIn wx c2 g1 r1 → Env wx → Calls Tryz.prog 19 #[.agg cs] wx fun e w' => e = .returned (.tuple #[.string S, .int .i64 (k : Int)]) ∧ Below wx.heap.size wx w') := Lib.hid (fun f wx cs g1 r1 hcs h hEx => by
    rw [hcs, hS, hk]
    exact form_any wx c2 g1 r1 h (by rw [hc2]; exact form_fitsB (withBody_ok ok B) f.gl f.gt f.rl f.tx (show B.size ≤ 1000000 by omega)) hEx)
  have CH : Hid (∀ wx cs g1 r1, cs = c2.cells g1 r1 → CnIn wx c2 g1 r1 → Env wx → Calls Tryz.prog 20 #[.agg cs] wx fun e w' => e = .returned (.int .i64 (k : Int)) ∧ Below wx.heap.size wx w') := Lib.hid (fun wx cs g1 r1 hcs h hEx => by rw [hcs, hk]; exact check_any wx c2 g1 r1 h hEx)
  have S1 : Hid (k ≠ 0 → S.toList.isEmpty = true) := Lib.hid (fun h => by
    rw [hk] at h; rw [hS, if_neg h, show strN [] = ⟨#[]⟩ from rfl, ByteArray.toList_eq]; rfl)
  have S0 : Hid (FitsP c → k = 0 → ∀ wx, Calls Tryz.prog 21 #[.string S, .string ((⟨#[10, 10]⟩ : ByteArray) ++ B)] wx fun e w' => e = .returned (.bool true) ∧ w' = wx) := Lib.hid (fun f h wx => by
    rw [hk] at h
    have := lb_strings_HasSuffix S ((⟨#[10, 10]⟩ : ByteArray) ++ B) wx (by
      have e : (formF c2.p).length ≤ 10000000 := by rw [hc2] at h ⊢; exact form_fitsB (withBody_ok ok B) f.gl f.gt f.rl f.tx (show B.size ≤ 1000000 by omega) h
      rw [hS, if_pos h, strN_size]; omega)
    rw [show Lib.hasSuffix S.data.toList ((⟨#[10, 10]⟩ : ByteArray) ++ B).data.toList = true by
      have e := form_suffix c2
      rw [show c2.body = B by rw [hc2]; rfl] at e
      rw [hS, if_pos h]; exact e] at this
    exact this)
  have ENV : Hid (∀ wx, Below w.heap.size w wx → Env wx) := Lib.hid (fun wx h => hE.on h)
  rw [← hca] at hw0 ⊢
  have HW := Lib.hid hw0
  have D0 : Hid (Below w0.heap.size w0 w0) := Lib.hid (Below.refl _ _)
  have UB : Hid (∀ wx, Below w0.heap.size w0 wx → Below w.heap.size w wx) := Lib.hid U
  clear hw0 B0 C0 U hca hcb hk hS hL hL0 hB hc2 ok ok2 ha hE z0 zL h8 h16
  go_enter Tryz.func4, Tryz.ntmps4
  go_upto_region 1 with fail
  rw [← HW.out]
  clear HW
  go_wp2_with fail
  refine (KN.out w0 D0.out).mono ?_
  rintro e w1 ⟨rfl, hb⟩
  have D1 := Lib.hid (D0.out.trans (hb.mono D0.out.size))
  clear hb
  go_wp2_with ((with_reducible refine wpList_loadG 28 _ rfl (by kernel_rfl) ?_); refine ⟨_, _, rfl, LA.out w1 D1.out, ?_⟩)
  refine (FA.out w1 D1.out).mono ?_
  rintro e w2 ⟨⟨b1, rfl, hf1⟩, hb⟩
  have D2 := Lib.hid (D1.out.trans (hb.mono D1.out.size))
  have HF1 := Lib.hid hf1
  clear hb hf1
  cases b1 with
  | false =>
    go_wp2_with fail
    refine (KN.out w2 D2.out).mono ?_
    rintro e w3 ⟨rfl, hb⟩
    have FIN := Lib.hid (UB.out _ (D2.out.trans (hb.mono D2.out.size)))
    clear hb
    go_wp2_with fail
    go_ret
    exact ⟨rfl, FIN⟩
  | true =>
  have f := HF1.out.1 (by simp)
  replace INB := Lib.hid (INB.out f); replace FM := Lib.hid (FM.out f)
  clear HF1 KN FA D0 D1 LA
  have v1 : IntKind.i64.wrap (wn : Int) = (wn : Int) := IntWalk.i64_in _ (by omega)
  have v3 : IntKind.i64.wrap (ln : Int) = (ln : Int) := IntWalk.i64_in _ (by omega)
  replace S0 := Lib.hid (S0.out f)
  clear f hq hq2 hrem m1 m2 l1 l2
  go_wp2_with fail
  refine (RP1.out w2).mono ?_
  rintro e w3 ⟨rfl, hb⟩
  have D3 := Lib.hid (D2.out.trans (hb.mono D2.out.size))
  clear hb RP1 D2
  go_upto_region 4 with fail
  rw [HLA.out]
  clear HLA v1
  go_wp2_with fail
  refine (RP2.out w3).mono ?_
  rintro e w4 ⟨rfl, hb⟩
  have D4 := Lib.hid (D3.out.trans (hb.mono D3.out.size))
  clear hb RP2 D3 v3
  obtain ⟨cx, bx, ⟨u, cu⟩, fu⟩ := CST.out w4 D4.out
  have CX := Lib.hid cx; have BX := Lib.hid bx
  clear cx bx CST D4 UB
  go_upto_region 5 with fail
  obtain ⟨w5, hw5⟩ : ∃ x, x = w4.setCell ⟨w.heap.size, 74, none⟩ (.string B) := ⟨_, rfl⟩
  rw [← hw5] at CX BX ⊢
  clear hw5 cu fu
  have LD := Lib.hid (LB.out w5 CX.out)
  go_wp2_with ((with_reducible refine wpList_load 28 rfl _ rfl ?_); refine ⟨_, _, rfl, LD.out, ?_⟩)
  refine (RC2.out w5 (INB.out w5 BX.out)).mono ?_
  rintro e w6 ⟨rfl, hb⟩
  have C6 := Lib.hid (CX.out.on hb)
  have B6 := Lib.hid (BX.out.trans (hb.mono BX.out.size))
  clear hb RC2 LD CX BX
  have LD := Lib.hid (LB.out w6 C6.out)
  go_wp2_with ((with_reducible refine wpList_load 28 rfl _ rfl ?_); refine ⟨_, _, rfl, LD.out, ?_⟩)
  refine (OW.out w6 (INB.out w6 B6.out)).mono ?_
  rintro e w7 ⟨cs, g1, r1, rfl, hcs, hin, hb⟩
  have C7 := Lib.hid (C6.out.on hb)
  have B7 := Lib.hid (B6.out.trans (hb.mono B6.out.size))
  have FM7 := Lib.hid (FM.out w7 cs g1 r1 hcs hin (ENV.out w7 B7.out))
  clear hb LD C6 B6 hcs hin FM
  go_wp2_with fail
  refine FM7.out.mono ?_
  rintro e w8 ⟨rfl, hb⟩
  have C8 := Lib.hid (C7.out.on hb)
  have B8 := Lib.hid (B7.out.trans (hb.mono B7.out.size))
  clear hb FM7 C7 B7
  have LD := Lib.hid (LB.out w8 C8.out)
  go_wp2_with ((with_reducible refine wpList_load 28 rfl _ rfl ?_); refine ⟨_, _, rfl, LD.out, ?_⟩)
  refine (OW.out w8 (INB.out w8 B8.out)).mono ?_
  rintro e w9 ⟨ds, g2, r2, rfl, hcs, hin, hb⟩
  have C9 := Lib.hid (C8.out.on hb)
  have B9 := Lib.hid (B8.out.trans (hb.mono B8.out.size))
  have CH9 := Lib.hid (CH.out w9 ds g2 r2 hcs hin (ENV.out w9 B9.out))
  clear hb LD C8 B8 hcs hin CH OW INB LB ENV
  go_wp2_with fail
  refine CH9.out.mono ?_
  rintro e wA ⟨rfl, hb⟩
  have CA := Lib.hid (C9.out.on hb)
  have BA := Lib.hid (B9.out.trans (hb.mono B9.out.size))
  clear hb CH9 C9 B9
  have c74 := L74.out wA CA.out
  clear L74
  by_cases h0 : k = 0
  · subst h0
    have HS := Lib.hid (S0.out rfl wA)
    clear S0 S1
    go_wp2_with fail
    refine HS.out.mono ?_
    rintro e wB ⟨rfl, rfl⟩
    go_wp2_with fail
    go_ret
    exact ⟨rfl, BA.out⟩
  · have q1 : ((k : Int) == 0) = false := int_ne (by omega)
    have q2 : ((k : Int) != 0) = true := int_neq (by omega)
    have e1 := S1.out h0
    clear S0 S1 h0
    go_wp2_with fail
    go_ret
    exact ⟨rfl, BA.out⟩
end Go.Proofs.YtohmdledkhgdaaaGreatDoor
