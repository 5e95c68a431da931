/- Content.Clone. -/
import Derived.Test.YtohmdledkhgdaaaGreatDoorCi29
namespace Go.Proofs.YtohmdledkhgdaaaGreatDoor
open Go.RowKit
set_option linter.unusedVariables false
set_option maxRecDepth 100000

/-- The content with nothing in it. -/
def cn0 : Cn := ⟨⟨#[]⟩, List.replicate 16 0, 0, [], ⟨#[]⟩, [], zero32, ⟨#[]⟩, ⟨#[]⟩, 0, 0, List.replicate 16 0, 0, ⟨#[]⟩⟩
theorem cn0_cells : cn0.cells (.slice none 0 0) (.slice none 0 0) = Tryz.zeroCells37 := by kernel_rfl
theorem cn0_ok : cn0.Ok := ⟨⟨by simp [cn0], fun x hx => by simp [cn0] at hx; omega⟩, ⟨by simp [cn0], fun x hx => by simp [cn0] at hx; omega⟩, ⟨by simp [cn0, zero32], fun x hx => by simp [cn0, zero32] at hx; omega⟩, fun x hx => (by cases hx), by decide, by decide, by decide, by decide⟩
theorem list_set_at (X : List Value) (u v : Value) (Y : List Value) (n : Nat) (hn : X.length = n) : (X ++ (u :: Y)).toArray.setIfInBounds n v = (X ++ (v :: Y)).toArray := by
  subst hn
  simp
theorem cells_set18 {c : Cn} (h : c.Ok) (gv rv g' : Value) : (c.cells gv rv).setIfInBounds 18 g' = c.cells g' rv := by
  have := list_set_at (([.string c.name] : List Value) ++ (c.author.map U ++ ([.int .i64 c.date] : List Value))) gv g' ([.string c.subject, rv] ++ (c.sup.map U ++ (([.string c.ctl, .string c.dist, .int .i64 c.number, .int .i64 c.height] : List Value) ++ (c.root.map U ++ ([.int .i64 c.leaf, .string c.body] : List Value))))) 18 (by simp [h.author.len])
  simpa [Cn.cells, List.append_assoc] using this
theorem cells_set20 {c : Cn} (h : c.Ok) (gv rv r' : Value) : (c.cells gv rv).setIfInBounds 20 r' = c.cells gv r' := by
  have := list_set_at (([.string c.name] : List Value) ++ (c.author.map U ++ ([.int .i64 c.date, gv, .string c.subject] : List Value))) rv r' (c.sup.map U ++ (([.string c.ctl, .string c.dist, .int .i64 c.number, .int .i64 c.height] : List Value) ++ (c.root.map U ++ ([.int .i64 c.leaf, .string c.body] : List Value)))) 20 (by simp [h.author.len])
  simpa [Cn.cells, List.append_assoc] using this
theorem CB.set18 {w : World} {b : Nat} {c : Cn} {gv rv : Value} {T : TypeId} (h : CB w b c gv rv T) (ok : c.Ok) (g' : Value) : CB (w.setCell ⟨b, 18, none⟩ g') b c g' rv T := by
  have := setB h 18 g'
  rw [cells_set18 ok] at this
  exact this
theorem CB.set20 {w : World} {b : Nat} {c : Cn} {gv rv : Value} {T : TypeId} (h : CB w b c gv rv T) (ok : c.Ok) (r' : Value) : CB (w.setCell ⟨b, 20, none⟩ r') b c gv r' T := by
  have := setB h 20 r'
  rw [cells_set20 ok] at this
  exact this
theorem CB.setC {w : World} {b k : Nat} {c : Cn} {gv rv : Value} {T : TypeId} (h : CB w k c gv rv T) (j : Nat) (u : Value) (hne : k ≠ b) : CB (w.setCell ⟨b, j, none⟩ u) k c gv rv T := (otherB w b j k u hne).trans h
theorem all_one (l : List Value) (h : ∀ v ∈ l, v.oneCell' = true) : l.toArray.all (·.oneCell') = true := by
  rw [Array.all_eq_true']
  intro x hx
  exact h x (by simpa using hx)
theorem cells_one (c : Cn) (gv rv : Value) (hg : gv.oneCell' = true) (hr : rv.oneCell' = true) : (c.cells gv rv).all (·.oneCell') = true := by
  refine all_one _ (fun v hv => ?_)
  simp only [List.mem_append, List.mem_cons, List.not_mem_nil, or_false, List.mem_map] at hv
  rcases hv with rfl | ⟨y, _, rfl⟩ | (rfl | rfl | rfl | rfl) | ⟨y, _, rfl⟩ | (rfl | rfl | rfl | rfl) | ⟨y, _, rfl⟩ | (rfl | rfl)
  all_goals first | rfl | assumption
theorem SRow.one {w : World} {v : Value} {l : List ByteArray} (h : SRow w v l) : v.oneCell' = true := by obtain ⟨a, c, rfl, _⟩ := h; rfl
theorem IRow.one {w : World} {v : Value} {l : List (List Nat)} (h : IRow w v l) : v.oneCell' = true := by obtain ⟨a, c, rfl, _⟩ := h; rfl
theorem ownsU {w w' : World} {base b : Nat} {e : TypeId} {size n : Nat} {v : Value} {xs : List Value} (h : w.ownsRow base e size v n xs) (hb : Below w.heap.size w w') : w'.ownsRow base e size v n xs := by
  rcases h.2 with ⟨rfl, h0⟩ | ⟨g, cap, cur, rfl, hg, hgb, r⟩
  · exact ⟨h.1, .inl ⟨rfl, h0⟩⟩
  · exact ⟨h.1, .inr ⟨g, cap, cur, rfl, hg, (hb.block g (lt_of_block hgb)).trans hgb, r⟩⟩
theorem owns_fr1 {w w' : World} {base b : Nat} {e : TypeId} {size n : Nat} {v : Value} {xs : List Value} (h : w.ownsRow base e size v n xs) (hf : Fr1 b w w') (hb : b < base) : w'.ownsRow base e size v n xs := by
  rcases h.2 with ⟨rfl, h0⟩ | ⟨g, cap, cur, rfl, hg, hgb, r⟩
  · exact ⟨h.1, .inl ⟨rfl, h0⟩⟩
  · exact ⟨h.1, .inr ⟨g, cap, cur, rfl, hg, (hf.other g (lt_of_block hgb) (by omega)).trans hgb, r⟩⟩
theorem owns_base {w : World} {base base' : Nat} {e : TypeId} {size n : Nat} {v : Value} {xs : List Value} (h : w.ownsRow base e size v n xs) (hb : base' ≤ base) : w.ownsRow base' e size v n xs := by
  rcases h.2 with ⟨rfl, h0⟩ | ⟨g, cap, cur, rfl, hg, r⟩
  · exact ⟨h.1, .inl ⟨rfl, h0⟩⟩
  · exact ⟨h.1, .inr ⟨g, cap, cur, rfl, by omega, r⟩⟩
theorem own_slice {w : World} {base : Nat} {e : TypeId} {size n : Nat} {v : Value} {xs : List Value} (h : w.ownsRow base e size v n xs) : ∃ a m c, v = .slice a m c := by
  rcases h.2 with ⟨e, _⟩ | ⟨g, cap, _, e, _⟩
  · exact ⟨_, _, _, e⟩
  · exact ⟨_, _, _, e⟩
/-- What a clone returns. -/
def CloP (c : Cn) (w : World) (e : Ending) (w' : World) : Prop :=
  ∃ gv rv, e = .returned (.agg (c.cells gv rv)) ∧ w'.ownsRow w.heap.size 9 1 gv c.groups.length (c.groups.map Value.string) ∧ w'.ownsRow w.heap.size 26 32 rv c.refs.length (idCells c.refs) ∧ Below w.heap.size w w'
set_option maxHeartbeats 2000000 in
theorem clone_any (w : World) (c : Cn) (gv rv : Value) (hin : CnIn w c gv rv) :
    Calls Tryz.prog 15 #[.agg (c.cells gv rv)] w (CloP c w) := by
  obtain ⟨zs, hzs⟩ : ∃ zs, zs = cn0.cells (.slice none 0 0) (.slice none 0 0) := ⟨_, rfl⟩
  have Z0 : Hid (zs = Tryz.zeroCells37) := Lib.hid (by rw [hzs]; exact cn0_cells)
  obtain ⟨w0, hw0⟩ : ∃ w0, w0 = (w.alloc (.cells (c.cells gv rv) 37)).alloc (.cells zs 37) := ⟨_, rfl⟩
  have B0 : Below w.heap.size w w0 := by rw [hw0]; exact ((Below.refl _ _).alloc (Nat.le_refl _) _).alloc (by simp) _
  have C0 : CB w0 w.heap.size c gv rv 37 := by unfold CB; rw [hw0]; exact alloc_block (heap_alloc_last w _)
  have R0 : CB w0 (w.heap.size + 1) cn0 (.slice none 0 0) (.slice none 0 0) 37 := by
    unfold CB; rw [hw0, ← hzs]; have := heap_alloc_last (w.alloc (.cells (c.cells gv rv) 37)) (.cells zs 37); rw [World.size_alloc] at this; exact this
  have SZ0 : Hid (w0.heap.size = w.heap.size + 2) := Lib.hid (by rw [hw0]; simp)
  have OK := Lib.hid hin.ok; have HIN := Lib.hid hin
  have c18 : w0.cell? ⟨w.heap.size, 18, none⟩ = some gv := C0.at (cn_18 hin.ok gv rv)
  have CS := Lib.hid (clS_any w0 gv c.groups (hin.srow.below B0) hin.gl)
  have HC0 := Lib.hid C0; have HR0 := Lib.hid R0; have HB0 := Lib.hid B0
  obtain ⟨cs, hcs⟩ : ∃ cs, cs = c.cells gv rv := ⟨_, rfl⟩
  rw [← hcs] at hw0 ⊢
  have HW := Lib.hid hw0
  have HZS := Lib.hid hzs
  clear hw0 hzs hcs hin C0 R0 B0
  go_enter Tryz.func15, Tryz.ntmps15
  go_upto_region 1 with fail
  have W' := HW.out
  rw [Z0.out] at W'
  rw [← W']
  clear W' HW
  go_wp2_with fail
  refine CS.out.mono ?_
  rintro e w1 ⟨g', rfl, _, ow1, hb1⟩
  obtain ⟨sa1, sn1, sc1, hg'⟩ := own_slice ow1
  have C1 := HC0.out.on hb1
  have R1 := HR0.out.on hb1
  have c18 : w1.cell? ⟨w.heap.size, 18, none⟩ = some gv := C1.at (cn_18 OK.out gv rv)
  have f18 : w1.frozen? ⟨w.heap.size, 18, none⟩ = false := freeB C1 18
  obtain ⟨w2, hw2⟩ : ∃ w2, w2 = w1.setCell ⟨w.heap.size, 18, none⟩ g' := ⟨_, rfl⟩
  have C2 : CB w2 w.heap.size c g' rv 37 := by rw [hw2]; exact C1.set18 OK.out g'
  have R2 : CB w2 (w.heap.size + 1) cn0 (.slice none 0 0) (.slice none 0 0) 37 := by rw [hw2]; exact R1.setC _ _ (by omega)
  have F2 : Fr1 w.heap.size w1 w2 := by rw [hw2]; exact Fr1.setC _
  have B1 := HB0.out.trans (hb1.mono HB0.out.size)
  have B2 : Below w.heap.size w w2 := B1.trans (F2.below B1.size (Nat.le_refl _))
  have ow2 := owns_fr1 ow1 F2 (by rw [SZ0.out]; omega)
  have CI := Lib.hid (clI_any w2 rv c.refs (HIN.out.irow.below B2) HIN.out.rl OK.out.refs)
  have g1 : g'.oneCell' = true := by
    rcases ow1.2 with ⟨e, _⟩ | ⟨_, _, _, e, _⟩ <;> (rw [e]; rfl)
  have c20 : w2.cell? ⟨w.heap.size, 20, none⟩ = some rv := C2.at (cn_20 OK.out g' rv)
  have HC2 := Lib.hid C2; have HR2 := Lib.hid R2; have HB2 := Lib.hid B2; have OW2 := Lib.hid ow2; have HW2 := Lib.hid hw2
  have SZ2 : Hid (w.heap.size + 2 ≤ w2.heap.size) := Lib.hid (by have := hb1.size; have := F2.size; have := SZ0.out; omega)
  clear C1 R1 hw2 C2 R2 F2 B1 B2 ow1 ow2 hb1 CS HC0 HR0
  subst hg'
  go_upto_region 2 with fail
  rw [← HW2.out]
  clear HW2 c18 f18
  go_wp2_with fail
  refine CI.out.mono ?_
  rintro e w3 ⟨r', rfl, _, ow3, hb3⟩
  obtain ⟨sa3, sn3, sc3, hr'⟩ := own_slice ow3
  have C3 := HC2.out.on hb3
  have R3 := HR2.out.on hb3
  have c20 : w3.cell? ⟨w.heap.size, 20, none⟩ = some rv := C3.at (cn_20 OK.out (Value.slice sa1 sn1 sc1) rv)
  have f20 : w3.frozen? ⟨w.heap.size, 20, none⟩ = false := freeB C3 20
  obtain ⟨w4, hw4⟩ : ∃ w4, w4 = w3.setCell ⟨w.heap.size, 20, none⟩ r' := ⟨_, rfl⟩
  have C4 : CB w4 w.heap.size c (Value.slice sa1 sn1 sc1) r' 37 := by rw [hw4]; exact C3.set20 OK.out r'
  have R4 : CB w4 (w.heap.size + 1) cn0 (.slice none 0 0) (.slice none 0 0) 37 := by rw [hw4]; exact R3.setC _ _ (by omega)
  have F4 : Fr1 w.heap.size w3 w4 := by rw [hw4]; exact Fr1.setC _
  have B3 := HB2.out.trans (hb3.mono HB2.out.size)
  have B4 : Below w.heap.size w w4 := B3.trans (F4.below B3.size (Nat.le_refl _))
  have og : w4.ownsRow w0.heap.size 9 1 (Value.slice sa1 sn1 sc1) c.groups.length (c.groups.map Value.string) := owns_fr1 (ownsU (b := 0) OW2.out hb3) F4 (by rw [SZ0.out]; omega)
  have oi : w4.ownsRow w2.heap.size 26 32 r' c.refs.length (idCells c.refs) := owns_fr1 ow3 F4 (by have := SZ2.out; omega)
  have r1 : r'.oneCell' = true := by
    rcases ow3.2 with ⟨e, _⟩ | ⟨_, _, _, e, _⟩ <;> (rw [e]; rfl)
  have LD := Lib.hid (C4.all OK.out)
  have ST := Lib.hid (run_storeVar_row (P := Tryz.prog) w4 (w.heap.size + 1) _ 37 _ (c.cells (Value.slice sa1 sn1 sc1) r') R4 (by rw [cn_size OK.out]; exact size_cn) (by rw [cn_size OK.out, cn_size cn0_ok]) (cells_one c (Value.slice sa1 sn1 sc1) r' g1 r1))
  have W5 := Lib.hid (setRow_heap w4 (w.heap.size + 1) _ (c.cells (Value.slice sa1 sn1 sc1) r') _ _ R4)
  have FIN : Hid (CloP c w (.returned (.agg (c.cells (Value.slice sa1 sn1 sc1) r'))) (w4.setRow (w.heap.size + 1) (c.cells (Value.slice sa1 sn1 sc1) r'))) := Lib.hid
    ⟨(Value.slice sa1 sn1 sc1), r', rfl, owns_base (owns_fr1 og (fr1_row w4 (w.heap.size + 1) _) (by rw [SZ0.out]; omega)) (by rw [SZ0.out]; omega), owns_base (owns_fr1 oi (fr1_row w4 (w.heap.size + 1) _) (by have := SZ2.out; omega)) (by have := SZ2.out; omega), below_setRow B4 (Nat.le_succ _) _⟩
  have SZ : Hid ((Tryz.prog.info? 37).map (·.size) = some (c.cells (Value.slice sa1 sn1 sc1) r').size) := Lib.hid (by rw [cn_size OK.out]; exact size_cn)
  have HW4 := Lib.hid hw4
  obtain ⟨ds, hds⟩ : ∃ ds, ds = c.cells (Value.slice sa1 sn1 sc1) r' := ⟨_, rfl⟩
  rw [← hds] at LD ST W5 FIN SZ
  clear hds C3 R3 hw4 C4 R4 F4 B3 B4 og oi ow3 hb3 CI HC2 HR2
  subst hr'
  go_upto_region 3 with fail
  rw [← HW4.out]
  clear HW4 c20 f20
  refine wp_region_list ?_
  simp only []
  refine wpList_load 37 rfl _ rfl ⟨_, _, rfl, LD.out, ?_⟩
  go_wp2_with ((with_reducible refine wpList_store 37 rfl _ _ rfl ?_); refine ⟨_, _, _, rfl, rfl, ST.out, ?_⟩)
  exact bodyPost_ret (results_cell_row Tryz.results15 _ _ (w.heap.size + 1) _ _ _ _ rfl W5.out Tryz.underlying37 rfl SZ.out) rfl FIN.out
end Go.Proofs.YtohmdledkhgdaaaGreatDoor
/- canonical.Collision. -/
namespace Go.Proofs.YtohmdledkhgdaaaGreatDoor
open Go.RowKit
set_option linter.unusedVariables false
set_option maxRecDepth 100000

theorem ret_tmp3 {fn : Func} {t u v : Tmp} (h : fn.results = #[.tmp t, .tmp u, .tmp v]) (tmps : Array Value) (P : Program) (w : World) :
    (results fn tmps).run P w = .ok (.tuple #[tmps.getD t undef, tmps.getD u undef, tmps.getD v undef]) w := by
  simp [results, h]
/-- Whether two contents collide. -/
def isC (a b : Cont) : Bool := decide (chkF a = 0) && (decide (chkF b = 0) && (!decide (a = b) && decide (idF a = idF b)))
def ColP (a b : Cont) (w : World) (e : Ending) (w' : World) : Prop :=
  e = .returned (.tuple #[.string (strN (if isC a b then formF a else [])), .string (strN (if isC a b then formF b else [])), .bool (isC a b)]) ∧ Below w.heap.size w w'
set_option maxHeartbeats 4000000 in
theorem coll_any (w : World) (a b : Cn) (ga ra gb rb : Value) (ha : CnIn w a ga ra) (hb : CnIn w b gb rb) (fa : chkF a.p = 0 → (formF a.p).length ≤ 10000000) (fb : chkF b.p = 0 → (formF b.p).length ≤ 10000000) (hE : Env w) :
    Calls Tryz.prog 9 #[.agg (a.cells ga ra), .agg (b.cells gb rb)] w (ColP a.p b.p w) := by
  obtain ⟨w0, hw0⟩ : ∃ w0, w0 = (w.alloc (.cells (a.cells ga ra) 37)).alloc (.cells (b.cells gb rb) 37) := ⟨_, rfl⟩
  have B0 : Hid (Below w.heap.size w w0) := Lib.hid (by rw [hw0]; exact ((Below.refl _ _).alloc (Nat.le_refl _) _).alloc (by simp) _)
  have CA : Hid (∀ wx, Below w0.heap.size w0 wx → CB wx w.heap.size a ga ra 37) := Lib.hid (fun wx hd => by
    have : CB w0 w.heap.size a ga ra 37 := by unfold CB; rw [hw0]; exact alloc_block (heap_alloc_last w _)
    exact this.on hd)
  have CC : Hid (∀ wx, Below w0.heap.size w0 wx → CB wx (w.heap.size + 1) b gb rb 37) := Lib.hid (fun wx hd => by
    have : CB w0 (w.heap.size + 1) b gb rb 37 := by
      unfold CB; rw [hw0]; have := heap_alloc_last (w.alloc (.cells (a.cells ga ra) 37)) (.cells (b.cells gb rb) 37); rw [World.size_alloc] at this; exact this
    exact this.on hd)
  have BX : Hid (∀ wx, Below w0.heap.size w0 wx → Below w.heap.size w wx) := Lib.hid (fun wx hd => B0.out.trans (hd.mono B0.out.size))
  obtain ⟨cs, hcs⟩ : ∃ x, x = a.cells ga ra := ⟨_, rfl⟩
  obtain ⟨ds, hds⟩ : ∃ x, x = b.cells gb rb := ⟨_, rfl⟩
  have LA : Hid (∀ wx, Below w0.heap.size w0 wx → (loadVar 37 ⟨w.heap.size, 0, none⟩).run Tryz.prog wx = .ok (.agg cs) wx) := Lib.hid (fun wx hd => by rw [hcs]; exact CB.all (CA.out wx hd) ha.ok)
  have LB : Hid (∀ wx, Below w0.heap.size w0 wx → (loadVar 37 ⟨w.heap.size + 1, 0, none⟩).run Tryz.prog wx = .ok (.agg ds) wx) := Lib.hid (fun wx hd => by rw [hds]; exact CB.all (CC.out wx hd) hb.ok)
  have FA : Hid (∀ wx, Below w0.heap.size w0 wx → Calls Tryz.prog 19 #[.agg cs] wx (FormP a.p wx)) := Lib.hid (fun wx hd => by rw [hcs]; exact form_any wx a ga ra (ha.on (BX.out wx hd)) fa (hE.on (BX.out wx hd)))
  have FB : Hid (∀ wx, Below w0.heap.size w0 wx → Calls Tryz.prog 19 #[.agg ds] wx (FormP b.p wx)) := Lib.hid (fun wx hd => by rw [hds]; exact form_any wx b gb rb (hb.on (BX.out wx hd)) fb (hE.on (BX.out wx hd)))
  have EQ : Hid (∀ wx, Below w0.heap.size w0 wx → Calls Tryz.prog 12 #[.agg cs, .agg ds] wx fun e w' => e = .returned (.bool (decide (a.p = b.p))) ∧ Below wx.heap.size wx w') := Lib.hid (fun wx hd => by rw [hcs, hds]; exact cequal_any wx a b ga ra gb rb (ha.on (BX.out wx hd)) (hb.on (BX.out wx hd)))
  have RX : Hid (∀ (q : Bool) (x y : ByteArray) (wx : World), q = isC a.p b.p → x = strN (if q then formF a.p else []) → y = strN (if q then formF b.p else []) → Below w0.heap.size w0 wx → ColP a.p b.p w (.returned (.tuple #[.string x, .string y, .bool q])) wx) := Lib.hid (fun q x y wx hq hx hy hd => ⟨by rw [← hq, ← hx, ← hy], BX.out wx hd⟩)
  rw [← hcs, ← hds] at hw0 ⊢
  have HW := Lib.hid hw0
  have D0 : Hid (Below w0.heap.size w0 w0) := Lib.hid (Below.refl _ _)
  have FLA : Hid (chkF a.p = 0 → ∀ x ∈ formF a.p, x < 256) := Lib.hid (fun h => form_lt256 ha.ok h)
  have FLB : Hid (chkF b.p = 0 → ∀ x ∈ formF b.p, x < 256) := Lib.hid (fun h => form_lt256 hb.ok h)
  have HFA := Lib.hid fa; have HFB := Lib.hid fb; have HE := Lib.hid hE
  obtain ⟨p, hp⟩ : ∃ p, p = chkF a.p := ⟨_, rfl⟩
  obtain ⟨q, hq⟩ : ∃ q, q = chkF b.p := ⟨_, rfl⟩
  obtain ⟨ta, hta⟩ : ∃ t, t = strN (if chkF a.p = 0 then formF a.p else []) := ⟨_, rfl⟩
  obtain ⟨tb, htb⟩ : ∃ t, t = strN (if chkF b.p = 0 then formF b.p else []) := ⟨_, rfl⟩
  have FPA : Hid (∀ wx e w', FormP a.p wx e w' → e = .returned (.tuple #[.string ta, .int .i64 (p : Int)]) ∧ Below wx.heap.size wx w') := Lib.hid (fun wx e w' h => by rw [hta, hp]; exact h)
  have FPB : Hid (∀ wx e w', FormP b.p wx e w' → e = .returned (.tuple #[.string tb, .int .i64 (q : Int)]) ∧ Below wx.heap.size wx w') := Lib.hid (fun wx e w' h => by rw [htb, hq]; exact h)
  have HP := Lib.hid hp; have HQ := Lib.hid hq; have HTA := Lib.hid hta; have HTB := Lib.hid htb
  clear hp hq hta htb hw0 hcs hds ha hb fa fb hE
  go_enter Tryz.func9, Tryz.ntmps9
  go_upto_region 1 with fail
  rw [← HW.out]
  clear HW
  refine wp_region_list ?_
  simp only []
  refine wpList_load 37 rfl _ rfl ⟨_, _, rfl, LA.out _ D0.out, ?_⟩
  go_wp2_with fail
  refine (FA.out _ D0.out).mono ?_
  intro e w1 h
  obtain ⟨rfl, hb1⟩ := FPA.out _ _ _ h
  have D1 := Lib.hid hb1
  clear h hb1
  by_cases h0 : p = 0
  · subst h0
    have hz : ((((0 : Nat) : Int)) != 0) = false := rfl
    have D1' := Lib.hid D1.out
    go_upto_region 4 with fail
    refine wp_region_list ?_
    simp only []
    refine wpList_load 37 rfl _ rfl ⟨_, _, rfl, LB.out _ D1.out, ?_⟩
    go_wp2_with fail
    refine (FB.out _ D1.out).mono ?_
    intro e w2 h
    obtain ⟨rfl, hb2⟩ := FPB.out _ _ _ h
    have D2 := Lib.hid (D1.out.trans (hb2.mono D1.out.size))
    clear h hb2
    by_cases h1 : q = 0
    · subst h1
      obtain ⟨r, hr⟩ : ∃ r, r = decide (a.p = b.p) := ⟨_, rfl⟩
      rw [← hr] at EQ
      have HR := Lib.hid hr
      clear hr
      cases r
      · have TAE : ta = strN (formF a.p) := by rw [HTA.out, if_pos HP.out.symm]
        have TBE : tb = strN (formF b.p) := by rw [HTB.out, if_pos HQ.out.symm]
        have za : ta.size ≤ 10000000 := by rw [TAE, strN_size]; exact HFA.out HP.out.symm
        have zb : tb.size ≤ 10000000 := by rw [TBE, strN_size]; exact HFB.out HQ.out.symm
        have CVA : Hid (∀ wx, ∃ cap w', (convert 9 62 (.string ta)).run Tryz.prog wx = .ok (.slice (some ⟨wx.heap.size, 0, none⟩) ta.size cap) w' ∧ ta.size ≤ cap ∧ cap ≤ maxLen ∧ Rd w' (some ⟨wx.heap.size, 0, none⟩) (bs ta) ∧ Below wx.heap.size wx w') := Lib.hid (fun wx => conv_bytes wx ta za)
        have CVB : Hid (∀ wx, ∃ cap w', (convert 9 62 (.string tb)).run Tryz.prog wx = .ok (.slice (some ⟨wx.heap.size, 0, none⟩) tb.size cap) w' ∧ tb.size ≤ cap ∧ cap ≤ maxLen ∧ Rd w' (some ⟨wx.heap.size, 0, none⟩) (bs tb) ∧ Below wx.heap.size wx w') := Lib.hid (fun wx => conv_bytes wx tb zb)
        have SHA' : Hid (∀ wx (t : ByteArray) ad cap, t.size ≤ 10000000 → t.size ≤ cap → cap ≤ maxLen → Rd wx ad (bs t) → Below w0.heap.size w0 wx → Calls Tryz.prog 27 #[.slice ad t.size cap] wx fun e w' => e = .returned (.agg (idA (shaF (bs t)))) ∧ Below wx.heap.size wx w') := Lib.hid (fun wx t ad cap h1 h2 h3 h4 h5 => by
          have := sha_any wx ad cap (bs t) h4 (by rw [bs_length]; exact h1) (by rw [bs_length]; exact h2) h3 (HE.out.on (BX.out wx h5))
          rw [bs_length] at this; exact this)
        have EA : Hid (bs ta = formF a.p) := Lib.hid (by rw [TAE]; exact bs_strN _ (FLA.out HP.out.symm))
        have EB : Hid (bs tb = formF b.p) := Lib.hid (by rw [TBE]; exact bs_strN _ (FLB.out HQ.out.symm))
        have QE : Hid (∀ w, (Op.equal 60 (.agg (idA (shaF (bs ta)))) (.agg (idA (shaF (bs tb))))).run Tryz.prog w = .ok (decide (shaF (bs ta) = shaF (bs tb))) w) := Lib.hid (fun w => eq_digest w (dgF_ok _) (dgF_ok _))
        have IS : Hid (isC a.p b.p = decide (shaF (bs ta) = shaF (bs tb))) := Lib.hid (by
          unfold isC idF
          rw [← HP.out, ← HQ.out, ← HR.out, EA.out, EB.out]; simp)
        have TA2 := Lib.hid TAE; have TB2 := Lib.hid TBE
        obtain ⟨xa, hxa⟩ : ∃ x, x = idA (shaF (bs ta)) := ⟨_, rfl⟩
        obtain ⟨xb, hxb⟩ : ∃ x, x = idA (shaF (bs tb)) := ⟨_, rfl⟩
        obtain ⟨s, hs⟩ : ∃ s, s = decide (shaF (bs ta) = shaF (bs tb)) := ⟨_, rfl⟩
        rw [← hxa, ← hxb, ← hs] at QE
        rw [← hs] at IS
        have HXA := Lib.hid hxa; have HXB := Lib.hid hxb
        clear hxa hxb hs TAE TBE FA FB FPA FPB
        go_wp2_with (first
          | ((with_reducible refine wpList_loadG 37 _ rfl (by kernel_rfl) ?_); first | (refine ⟨_, _, rfl, LA.out _ D2.out, ?_⟩) | (refine ⟨_, _, rfl, LB.out _ D2.out, ?_⟩)))
        refine (EQ.out _ D2.out).mono ?_
        rintro e w3 ⟨rfl, hb3⟩
        have D3 := Lib.hid (D2.out.trans (hb3.mono D2.out.size))
        obtain ⟨ca, w4, cv, k1, k2, k3, k4⟩ := CVA.out w3
        have D4 := Lib.hid (D3.out.trans (k4.mono D3.out.size))
        have CV1 := Lib.hid cv
        have SH1 := SHA'.out w4 ta _ ca za k1 k2 k3 D4.out
        rw [← HXA.out] at SH1
        have SHH := Lib.hid SH1
        clear hb3 cv k1 k2 k3 k4 SH1 EQ
        go_upto_region 7 with fail
        go_wp2_with ((with_reducible refine wpList_conv 9 62 rfl _ rfl ?_); refine ⟨_, _, _, rfl, CV1.out, ?_⟩)
        refine SHH.out.mono ?_
        rintro e w5 ⟨rfl, hb5⟩
        have D5 := Lib.hid (D4.out.trans (hb5.mono D4.out.size))
        obtain ⟨cb, w6, cv, k1, k2, k3, k4⟩ := CVB.out w5
        have D6 := Lib.hid (D5.out.trans (k4.mono D5.out.size))
        have CV2 := Lib.hid cv
        have SH2 := SHA'.out w6 tb _ cb zb k1 k2 k3 D6.out
        rw [← HXB.out] at SH2
        have SHJ := Lib.hid SH2
        clear hb5 cv k1 k2 k3 k4 SH2 SHH CV1
        go_wp2_with ((with_reducible refine wpList_conv 9 62 rfl _ rfl ?_); refine ⟨_, _, _, rfl, CV2.out, ?_⟩)
        refine SHJ.out.mono ?_
        rintro e w7 ⟨rfl, hb7⟩
        have D7 := Lib.hid (D6.out.trans (hb7.mono D6.out.size))
        clear hb7 SHJ CV2
        cases s
        · go_wp2_with ((with_reducible refine wpList_neq 60 rfl _ _ rfl guard_dig ?_); refine ⟨_, _, _, rfl, rfl, QE.out _, ?_⟩)
          (try simp only [Exit.inBlock, Exit.then])
          refine bodyPost_ret (ret_tmp3 rfl _ _ _) rfl ?_
          exact RX.out false _ _ _ IS.out.symm rfl rfl D7.out
        · go_wp2_with ((with_reducible refine wpList_neq 60 rfl _ _ rfl guard_dig ?_); refine ⟨_, _, _, rfl, rfl, QE.out _, ?_⟩)
          (try simp only [Exit.inBlock, Exit.then])
          refine bodyPost_ret (ret_tmp3 rfl _ _ _) rfl ?_
          exact RX.out true _ _ _ IS.out.symm TA2.out TB2.out D7.out
      · have IS : Hid (isC a.p b.p = false) := Lib.hid (by unfold isC; rw [← HR.out]; simp)
        clear HR FA FB FPA FPB
        go_wp2_with (first
          | ((with_reducible refine wpList_loadG 37 _ rfl (by kernel_rfl) ?_); first | (refine ⟨_, _, rfl, LA.out _ D2.out, ?_⟩) | (refine ⟨_, _, rfl, LB.out _ D2.out, ?_⟩)))
        refine (EQ.out _ D2.out).mono ?_
        rintro e w3 ⟨rfl, hb3⟩
        have D3 := Lib.hid (D2.out.trans (hb3.mono D2.out.size))
        clear hb3 EQ
        go_wp2_with fail
        (try simp only [Exit.inBlock, Exit.then])
        refine bodyPost_ret (ret_tmp3 rfl _ _ _) rfl ?_
        exact RX.out false _ _ _ IS.out.symm rfl rfl D3.out
    · have hz1 : ((q : Int) != 0) = true := int_neq (by omega)
      have IS : Hid (isC a.p b.p = false) := Lib.hid (by unfold isC; rw [← HQ.out, show decide (q = 0) = false from decide_eq_false h1]; simp)
      clear h1 FA FB FPA FPB EQ
      go_wp2_with fail
      (try simp only [Exit.inBlock, Exit.then])
      refine bodyPost_ret (ret_tmp3 rfl _ _ _) rfl ?_
      exact RX.out false _ _ _ IS.out.symm rfl rfl D2.out
  · have hz1 : ((p : Int) != 0) = true := int_neq (by omega)
    have IS : Hid (isC a.p b.p = false) := Lib.hid (by unfold isC; rw [← HP.out, show decide (p = 0) = false from decide_eq_false h0]; simp)
    clear h0 FA FB FPA FPB EQ
    go_wp2_with fail
    (try simp only [Exit.inBlock, Exit.then])
    refine bodyPost_ret (ret_tmp3 rfl _ _ _) rfl ?_
    exact RX.out false _ _ _ IS.out.symm rfl rfl D1.out
end Go.Proofs.YtohmdledkhgdaaaGreatDoor
