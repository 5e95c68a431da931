/- bulletinref14.Check, Print (printed by gen_rchk.py). -/
import Derived.Test.YtohmdledkhgdaaaGreatDoorLo29
namespace Go.Proofs.YtohmdledkhgdaaaGreatDoor
open Go.RowKit
set_option linter.unusedVariables false
set_option maxRecDepth 100000
def zQ (x : List Nat) : Nat := if x = zero32 then 1 else 0
theorem refsF_q (ids : List (List Nat)) : refsF ids = if 20 < ids.length then 9 else listG zQ 7 [] ids := rfl
theorem listG_cons (f : List Nat → Nat) (d : Nat) (pre : List (List Nat)) (x : List Nat) (r : List (List Nat)) : listG f d pre (x :: r) = if f x ≠ 0 then f x else if pre.contains x = true then d else listG f d (pre ++ [x]) r := rfl
theorem guard_ri : Tryz.prog.eqGuardType Tryz.prog.depth 120 = false := by kernel_rfl
theorem bz_ri (w : World) : (Instr.build 120 #[]).run Tryz.prog w = .ok (.agg (idA zero32)) w := by kernel_rfl
set_option maxHeartbeats 4000000 in
theorem rchk_any2 (w : World) (v : Value) (ids : List (List Nat)) (hr : IRow w v ids) (hn : ids.length ≤ 1000000) (hok : ∀ y ∈ ids, IdOk y) :
    Calls Tryz.prog 47 #[v] w fun e w' => e = .returned (.int .i64 ((refsF ids : Nat) : Int)) ∧ Below w.heap.size w w' := by
  obtain ⟨a, cap, rfl, hc, r⟩ := hr
  obtain ⟨n, hnn⟩ : ∃ n, n = ids.length := ⟨_, rfl⟩
  have HN := Lib.hid hnn; have R := Lib.hid r; have OK := Lib.hid hok
  have hcap : n ≤ cap := by rw [hnn]; exact hc
  have RF := Lib.hid (refsF_q ids)
  rw [← hnn] at hn ⊢
  have zok : IdOk zero32 := ⟨by simp [zero32], fun x hx => by simp [zero32] at hx; omega⟩
  have ZOK := Lib.hid zok
  obtain ⟨zs, hzs⟩ : ∃ zs, zs = idA zero32 := ⟨_, rfl⟩
  have BZ : Hid (∀ w, (Instr.build 120 #[]).run Tryz.prog w = .ok (.agg zs) w) := Lib.hid (fun w => by rw [hzs]; exact bz_ri w)
  have HZS := Lib.hid hzs
  obtain ⟨rf, hrf⟩ : ∃ q, q = refsF ids := ⟨_, rfl⟩
  rw [← hrf] at RF
  rw [← hrf]
  clear hnn r hc hok zok hzs hrf
  by_cases h20 : 20 < n
  · have RF2 : Hid (rf = 9) := Lib.hid (by rw [RF.out, if_pos (by rw [← HN.out]; exact h20)])
    go_enter Tryz.func47, Tryz.ntmps47
    go_wp2_with fail
    go_ret
    exact ⟨by rw [RF2.out]; rfl, Below.refl _ _⟩
  · have RF2 : Hid (rf = listG zQ 7 [] ids) := Lib.hid (by rw [RF.out, if_neg (by rw [← HN.out]; exact h20)])
    have h20' : ¬ ((20 : Int) < (n : Int)) := by omega
    clear RF
    go_enter Tryz.func47, Tryz.ntmps47
    go_wp2_with fail
    go_loopg [3] n (fun k i wr => ∃ j : Nat, j ≤ n ∧ k = n - j ∧ i = .int .i64 (j : Int) ∧ Hid (rf = listG zQ 7 (ids.take j) (ids.drop j)) ∧ Hid (Below w.heap.size w wr))
    case atStart => exact ⟨0, by omega, rfl, rfl, RF2, Lib.hid (Below.refl _ _)⟩
    case round =>
      clear RF2
      obtain ⟨j, hj, rfl, rfl, hg, hbw⟩ := hrel
      by_cases hlt : j < n
      · have hl : j < ids.length := by rw [← HN.out]; exact hlt
        obtain ⟨b, off, rfl, hb, hcell⟩ := R.out (fun e => by rw [e] at hl; simp at hl)
        have ok := OK.out _ (List.getElem_mem hl)
        have IR : Hid (∀ wx, Below w.heap.size w wx → IRow wx (.slice (some ⟨b, off, none⟩) j cap) (ids.take j)) := Lib.hid (fun wx hx => by
          refine ⟨some ⟨b, off, none⟩, cap, by rw [List.length_take, Nat.min_eq_left (by omega)], by rw [List.length_take]; omega, fun _ => ⟨b, off, rfl, Nat.lt_of_lt_of_le hb hx.size, fun q hq k u hu => ?_⟩⟩
          rw [List.length_take] at hq
          rw [List.getElem_take] at hu
          exact (hx.cell (p := ⟨b, off + q * 32 + k, none⟩) hb).trans (hcell q (by omega) k u hu))
        have LD : Hid (∀ wx, Below w.heap.size w wx → (loadVar 120 ⟨b, off + j * 32, none⟩).run Tryz.prog wx = .ok (.agg (idA ids[j])) wx) := Lib.hid (fun wx hx =>
          run_loadVar_cells wx b (off + j * 32) 120 _ _ Tryz.underlying120 rfl (by rw [idA_size, ok.len]; exact size_ri) (fun k u hu => (hx.cell (p := ⟨b, off + j * 32 + k, none⟩) hb).trans (hcell j hl k u hu)))
        have EQ : Hid (∀ w, (Op.equal 120 (.agg (idA ids[j])) (.agg zs)).run Tryz.prog w = .ok (decide (ids[j] = zero32)) w) := Lib.hid (fun w => by
          rw [HZS.out]; exact eq_arr Tryz.underlying120 (by kernel_rfl) (by kernel_rfl) w ok.len ok.lt ZOK.out.len ZOK.out.lt)
        have HAS : Hid (∀ wx, Below w.heap.size w wx → Calls Tryz.prog 88 #[.slice (some ⟨b, off, none⟩) j cap, .agg (idA ids[j])] wx fun e w' => e = .returned (.bool ((ids.take j).contains ids[j])) ∧ Below wx.heap.size wx w') := Lib.hid (fun wx hx =>
          rhas_any wx _ (ids.take j) ids[j] (IR.out wx hx) (by rw [List.length_take]; omega) (fun y hy => OK.out y (List.mem_of_mem_take hy)) ok)
        have ST := listG_cons zQ 7 (ids.take j) ids[j] (ids.drop (j + 1))
        rw [← List.drop_eq_getElem_cons hl, ← List.take_succ_eq_append_getElem hl, ← hg.out] at ST
        obtain ⟨y, hy⟩ : ∃ y, y = idA ids[j] := ⟨_, rfl⟩
        obtain ⟨q, hq⟩ : ∃ q, q = decide (ids[j] = zero32) := ⟨_, rfl⟩
        obtain ⟨s, hs⟩ : ∃ s, s = (ids.take j).contains ids[j] := ⟨_, rfl⟩
        rw [← hy] at LD EQ HAS
        rw [← hq] at EQ
        rw [← hs] at HAS ST
        have ZQ : zQ ids[j] = if q = true then 1 else 0 := by
          unfold zQ
          by_cases e : ids[j] = zero32
          · rw [if_pos e, if_pos (by rw [hq]; exact decide_eq_true e)]
          · rw [if_neg e, if_neg (by rw [hq, decide_eq_false e]; decide)]
        rw [ZQ] at ST
        have HST := Lib.hid ST
        have jc : j ≤ cap := by omega
        have LD0 := Lib.hid (LD.out wr hbw.out)
        clear hy hq hs ok hcell hl hb ST ZQ IR
        cases q
        · go_upto_region 8 with (first
            | ((with_reducible refine wpList_load 120 rfl _ rfl ?_); refine ⟨_, _, rfl, LD0.out, ?_⟩)
            | ((with_reducible refine wpList_build0 120 rfl rfl ?_); refine ⟨_, BZ.out _, ?_⟩)
            | ((with_reducible refine wpList_eql 120 rfl _ _ rfl guard_ri ?_); refine ⟨_, _, _, rfl, rfl, EQ.out _, ?_⟩))
          refine wp_region_held (S := fun wx => Below w.heap.size w wx) (by kernel_rfl) ?_
          change wpAnyH _ _ _ _ _ _ _ _ wr.drew
          have hB : (fun wx : World => Below w.heap.size w wx) wr.drew := hbw.out.drew
          refine takeV 0 (.slice (some ⟨b, off, none⟩) n cap) rfl (fun _ _ => by go_simp) hB ?_
          refine takeV 1 (.int .i64 (j : Int)) rfl (fun _ _ => by go_simp) hB ?_
          refine takeV 2 (.slice (some ⟨b, off, none⟩) j cap) rfl (fun _ _ => by go_simp) hB ?_
          refine takeV 3 (.slice (some ⟨b, off, none⟩) n cap) rfl (fun _ _ => by go_simp) hB ?_
          refine takeV 4 (.int .i64 (j : Int)) rfl (fun _ _ => by go_simp) hB ?_
          refine takeV 5 (.pointer (some ⟨b, off + j * 32, none⟩)) rfl (fun _ _ => by go_simp) hB ?_
          refine takeV 6 (.agg y) rfl (fun w' hw' => exec_load (ty := 120) (x := .tmp 24) (ad := ⟨b, off + j * 32, none⟩) rfl (by kernel_rfl) (LD.out w' hw')) hB ?_
          refine anyH_one (i := 7) (by kernel_rfl) ?_
          refine any_call (f := 88) (args := #[.slice (some ⟨b, off, none⟩) j cap, .agg y]) rfl rfl (by kernel_rfl) ?_
          refine (HAS.out wr.drew hbw.out.drew).mono ?_
          rintro e y1 ⟨rfl, hb1⟩
          have B1 := Lib.hid (hbw.out.drew.trans (hb1.mono hbw.out.drew.size))
          refine ⟨_, rfl, B1.out, ?_⟩
          refine wpAnyH_done (by kernel_rfl) ?_ _
          clear hB hb1 LD LD0 EQ HAS hbw
          cases s
          · have N : Hid (rf = listG zQ 7 (ids.take (j + 1)) (ids.drop (j + 1))) := Lib.hid (by have := HST.out; rw [if_neg (by decide), if_neg (by decide)] at this; exact this)
            clear hg HST
            go_simp
            refine ‹∀ (a : Act) (w_1 : World), _ → _› _ _ ?_
            go_wp2_with fail
            go_roundg (n - (j + 1))
            case measure => omega
            case rel => exact ⟨j + 1, by omega, rfl, by go_num, N, B1⟩
          · have N : Hid (rf = 7) := Lib.hid (by have := HST.out; rw [if_neg (by decide), if_pos rfl] at this; exact this)
            clear hg HST
            go_simp
            refine ‹∀ (a : Act) (w_1 : World), _ → _› _ _ ?_
            go_wp2_with fail
            go_ret
            exact ⟨by rw [N.out]; rfl, B1.out⟩
        · have N : Hid (rf = 1) := Lib.hid (by have := HST.out; rw [if_pos (by decide)] at this; exact this)
          clear hg HST HAS LD
          go_wp2_with (first
            | ((with_reducible refine wpList_load 120 rfl _ rfl ?_); refine ⟨_, _, rfl, LD0.out, ?_⟩)
            | ((with_reducible refine wpList_build0 120 rfl rfl ?_); refine ⟨_, BZ.out _, ?_⟩)
            | ((with_reducible refine wpList_eql 120 rfl _ _ rfl guard_ri ?_); refine ⟨_, _, _, rfl, rfl, EQ.out _, ?_⟩))
          go_ret
          exact ⟨by rw [N.out]; rfl, hbw.out⟩
      · obtain rfl : j = n := by omega
        have N : Hid (rf = 0) := Lib.hid (by rw [hg.out, List.drop_of_length_le (by rw [HN.out]; exact Nat.le_refl _)]; rfl)
        clear hg
        go_wp2_with fail
        go_ret
        exact ⟨by rw [N.out]; rfl, hbw.out⟩
theorem form_size (c : Cont) : (formF c).length = 96 + (c.name.length + (hexF c.author).length + (digI c.date).length + (joinF [44] c.groups).length + c.subject.length + (joinF [32] (c.refs.map midF)).length + (optF c.sup).length + c.ctl.length + c.dist.length + (keyF c).length + (digI c.leaf).length + c.body.length) := by
  unfold formF fWords fVals
  simp
  omega
def exn (s : ByteArray) : Cn := ⟨⟨#[65, 110, 110]⟩, 1 :: List.replicate 15 0, 0, [⟨#[97, 46, 98]⟩], s, [], zero32, ⟨#[]⟩, ⟨#[]⟩, 0, 1, List.replicate 16 0, 0, ⟨#[]⟩⟩
def exT (x : Nat) : ByteArray := strN [116, 101, x]
theorem exn_p (x : Nat) (h : x = 97 ∨ x = 110) : (exn (exT x)).p = exC x := by
  rcases h with rfl | rfl <;> decide +kernel
theorem exn_ok (s : ByteArray) : (exn s).Ok := ⟨⟨by simp [exn], fun x hx => by simp [exn] at hx; omega⟩, ⟨by simp [exn], fun x hx => by simp [exn] at hx; omega⟩, ⟨by simp [exn, zero32], fun x hx => by simp [exn, zero32] at hx; omega⟩, fun x hx => (by cases hx), rfl, rfl, rfl, rfl⟩
theorem exn_in {w : World} {g : Nat} {s : ByteArray} (hs : s.size ≤ 1000) (h : w.heap[g]? = some (.cells #[.string ⟨#[97, 46, 98]⟩] 9 (0, 0))) : CnIn w (exn s) (.slice (some ⟨g, 0, none⟩) 1 1) (.slice none 0 0) :=
  ⟨exn_ok s, Nat.le_of_ble_eq_true rfl, by show s.size ≤ _; omega, Nat.le_of_ble_eq_true rfl, Nat.le_of_ble_eq_true rfl, Nat.le_of_ble_eq_true rfl, Nat.le_of_ble_eq_true rfl, fun x hx => by
    have hx : x = ⟨#[97, 46, 98]⟩ := by simpa [exn] using hx
    rw [hx]; decide, Nat.le_of_ble_eq_true rfl,
    ⟨_, _, rfl, Nat.le_refl _, fun _ => ⟨g, 0, rfl, lt_of_block h, fun j hj => by
      have hj : j < 1 := hj
      obtain rfl : j = 0 := by omega
      rw [cell_of_row w g (0 + 0) _ _ _ h]; rfl⟩⟩,
    ⟨none, 0, rfl, Nat.le_refl _, fun hne => absurd rfl hne⟩⟩
theorem ex_len (x : Nat) (h : x = 97 ∨ x = 110) : (formF (exC x)).length ≤ 10000000 := by rcases h with rfl | rfl <;> decide +kernel
theorem ex_pre : Lib.hasPrefix (strN (formF (exC 97))).data.toList (⟨#[110, 97, 109, 101, 32, 65, 110, 110, 10, 97, 117, 116, 104, 111, 114, 32, 48, 49, 48, 48]⟩ : ByteArray).data.toList = true := by decide +kernel
theorem kx_build (w : World) (g : Nat) : (Instr.build 37 #[(0, .string ⟨#[65, 110, 110]⟩), (1, .agg (idA (1 :: List.replicate 15 0))), (3, .slice (some ⟨g, 0, none⟩) 1 1), (4, .string ⟨#[116, 101, 97]⟩), (10, .agg (pkC 1 (List.replicate 16 0)))]).run Tryz.prog w = .ok (.agg ((exn (exT 97)).cells (.slice (some ⟨g, 0, none⟩) 1 1) (.slice none 0 0))) w := by kernel_rfl
theorem kx_author (w : World) : (Instr.build 33 #[(0, .int .u8 1)]).run Tryz.prog w = .ok (.agg (idA (1 :: List.replicate 15 0))) w := by kernel_rfl
theorem kx_pub (w : World) : (Instr.build 35 #[(0, .int .i64 1)]).run Tryz.prog w = .ok (.agg (pkC 1 (List.replicate 16 0))) w := by kernel_rfl
theorem kx_bs (w : World) (s : ByteArray) : (Instr.buildSlice 23 1 #[(0, .string s)]).run Tryz.prog w = .ok (.slice (some ⟨w.heap.size, 0, none⟩) 1 1) (w.alloc (.cells #[.string s] 9)) := by kernel_rfl
theorem exec_allocC {o : Oper} {a : Act} (w : World) (ho : o.op = .alloc 37) : (execOp a.eval o).run Tryz.prog w = .ok (.value (.pointer (some ⟨w.heap.size, 0, none⟩))) (w.alloc (.cells (cn0.cells (.slice none 0 0) (.slice none 0 0)) 37)) := by
  rw [cn0_cells]
  unfold execOp
  rw [ho]
  rfl
theorem exec_allocI {o : Oper} {a : Act} (w : World) (ho : o.op = .alloc 26) : (execOp a.eval o).run Tryz.prog w = .ok (.value (.pointer (some ⟨w.heap.size, 0, none⟩))) (w.alloc (.cells (idA zero32) 26)) := by
  unfold execOp
  rw [ho]
  rfl
theorem run_store_one {P : Program} (w : World) (g o : Nat) (ty t : TypeId) (X Z : List Value) (y : Value) (s : ByteArray) (hg : w.heap[g]? = some (.cells (X ++ (y :: Z)).toArray t (0, 0))) (hX : X.length = o)
    (hi : (P.info? ty).map (·.size) = some 1) : (storeVar ty ⟨g, o, none⟩ (.string s)).run P w = .ok () (w.setRow g (X ++ (.string s :: Z)).toArray) := by
  have hst := run_storeCells_at P g o t [.string s] 0 _ w hg (by simp; omega) (by simp [Value.oneCell'])
  have e : (X ++ (y :: Z)).toArray.toList.take (o + 0) ++ [.string s] ++ (X ++ (y :: Z)).toArray.toList.drop (o + 0 + 1) = X ++ (.string s :: Z) := by
    subst hX
    simp
  rw [show ([Value.string s] : List Value).length = 1 from rfl, e] at hst
  cases hq : P.info? ty with
  | none => simp [hq] at hi
  | some i =>
    have hs : i.size = 1 := by simp [hq] at hi; omega
    simp [storeVar, sizeOf, typeInfo, hq, Value.cells, hs, hst]
theorem exn_set (s : ByteArray) (gv rv : Value) : (exn s).cells gv rv = ((([.string ⟨#[65, 110, 110]⟩] : List Value) ++ ((1 :: List.replicate 15 0).map U ++ ([.int .i64 0, gv] : List Value))) ++ (.string s :: (rv :: (zero32.map U ++ (([.string ⟨#[]⟩, .string ⟨#[]⟩, .int .i64 0, .int .i64 1] : List Value) ++ ((List.replicate 16 0).map U ++ ([.int .i64 0, .string ⟨#[]⟩] : List Value))))))).toArray := rfl
set_option maxHeartbeats 4000000 in
theorem known_any (w : World) (hE : Env w) :
    Calls Tryz.prog 7 #[] w fun e w' => e = .returned (.bool true) ∧ Below w.heap.size w w' := by
  obtain ⟨g, hg⟩ : ∃ g, g = w.heap.size := ⟨_, rfl⟩
  obtain ⟨gv, hgv⟩ : ∃ v, v = Value.slice (some ⟨g, 0, none⟩) 1 1 := ⟨_, rfl⟩
  obtain ⟨cA, hcA⟩ : ∃ v, v = (exn (exT 97)).cells gv (.slice none 0 0) := ⟨_, rfl⟩
  obtain ⟨cB, hcB⟩ : ∃ v, v = (exn (exT 110)).cells gv (.slice none 0 0) := ⟨_, rfl⟩
  obtain ⟨au, hau⟩ : ∃ v, v = idA (1 :: List.replicate 15 0) := ⟨_, rfl⟩
  obtain ⟨pk, hpk⟩ : ∃ v, v = pkC 1 (List.replicate 16 0) := ⟨_, rfl⟩
  obtain ⟨c0, hc0⟩ : ∃ v, v = cn0.cells (.slice none 0 0) (.slice none 0 0) := ⟨_, rfl⟩
  obtain ⟨zs, hzs⟩ : ∃ v, v = idA zero32 := ⟨_, rfl⟩
  have BA : Hid (∀ w, (Instr.build 33 #[(0, .int .u8 1)]).run Tryz.prog w = .ok (.agg au) w) := Lib.hid (fun w => by rw [hau]; exact kx_author w)
  have BP : Hid (∀ w, (Instr.build 35 #[(0, .int .i64 1)]).run Tryz.prog w = .ok (.agg pk) w) := Lib.hid (fun w => by rw [hpk]; exact kx_pub w)
  have BC : Hid (∀ w, (Instr.build 37 #[(0, .string ⟨#[65, 110, 110]⟩), (1, .agg au), (3, gv), (4, .string ⟨#[116, 101, 97]⟩), (10, .agg pk)]).run Tryz.prog w = .ok (.agg cA) w) := Lib.hid (fun w => by rw [hau, hpk, hcA, hgv]; exact kx_build w g)
  have AC : Hid (∀ (o : Oper) (a : Act) (w : World), o.op = .alloc 37 → (execOp a.eval o).run Tryz.prog w = .ok (.value (.pointer (some ⟨w.heap.size, 0, none⟩))) (w.alloc (.cells c0 37))) := Lib.hid (fun o a w h => by rw [hc0]; exact exec_allocC w h)
  have AI : Hid (∀ (o : Oper) (a : Act) (w : World), o.op = .alloc 26 → (execOp a.eval o).run Tryz.prog w = .ok (.value (.pointer (some ⟨w.heap.size, 0, none⟩))) (w.alloc (.cells zs 26))) := Lib.hid (fun o a w h => by rw [hzs]; exact exec_allocI w h)
  obtain ⟨w1, hw1⟩ : ∃ x, x = w.alloc (.cells #[.string ⟨#[97, 46, 98]⟩] 9) := ⟨_, rfl⟩
  obtain ⟨w2, hw2⟩ : ∃ x, x = w1.alloc (.cells c0 37) := ⟨_, rfl⟩
  obtain ⟨p, hp⟩ : ∃ p, p = w1.heap.size := ⟨_, rfl⟩
  have pg : p = g + 1 := by rw [hp, hw1, hg]; simp
  have G1 : w1.heap[g]? = some (.cells #[.string ⟨#[97, 46, 98]⟩] 9 (0, 0)) := by rw [hw1, hg]; exact heap_alloc_last w _
  have G2 : w2.heap[g]? = some (.cells #[.string ⟨#[97, 46, 98]⟩] 9 (0, 0)) := by rw [hw2]; exact alloc_block G1
  have P2 : w2.heap[p]? = some (.cells c0 37 (0, 0)) := by rw [hw2, hp]; exact heap_alloc_last w1 _
  have B1 : Below g w w1 := by rw [hw1, hg]; exact (Below.refl _ _).alloc (Nat.le_refl _) _
  have B2 : Below g w w2 := by rw [hw2]; exact B1.alloc (by rw [← hp]; omega) _
  have szA : cA.size = 75 := by rw [hcA]; exact cn_size (exn_ok _) _ _
  have szB : cB.size = 75 := by rw [hcB]; exact cn_size (exn_ok _) _ _
  have sz0 : c0.size = 75 := by rw [hc0]; exact cn_size cn0_ok _ _
  have onA : cA.all (·.oneCell') = true := by rw [hcA, hgv]; exact cells_one _ _ _ rfl rfl
  have ST := Lib.hid (run_storeVar_row (P := Tryz.prog) w2 p _ 37 _ cA P2 (by rw [szA]; exact size_cn) (by rw [szA, sz0]) onA)
  obtain ⟨w3, hw3⟩ : ∃ x, x = w2.setRow p cA := ⟨_, rfl⟩
  have P3 : Hid (w3.heap[p]? = some (.cells cA 37 (0, 0))) := Lib.hid (by rw [hw3]; exact setRow_heap w2 p _ cA _ _ P2)
  have G3 : Hid (w3.heap[g]? = some (.cells #[.string ⟨#[97, 46, 98]⟩] 9 (0, 0))) := Lib.hid (by rw [hw3]; exact (setRow_other w2 p g cA (by omega)).trans G2)
  have B3 : Hid (Below g w w3) := Lib.hid (by rw [hw3]; exact below_setRow B2 (by omega) cA)
  have LDA : Hid (∀ wx, wx.heap[p]? = some (.cells cA 37 (0, 0)) → (loadVar 37 ⟨p, 0, none⟩).run Tryz.prog wx = .ok (.agg cA) wx) := Lib.hid (fun wx h => run_loadVar_row wx p _ 37 _ _ _ h Tryz.underlying37 rfl (by rw [szA]; exact size_cn))
  have LDB : Hid (∀ wx, wx.heap[p]? = some (.cells cB 37 (0, 0)) → (loadVar 37 ⟨p, 0, none⟩).run Tryz.prog wx = .ok (.agg cB) wx) := Lib.hid (fun wx h => run_loadVar_row wx p _ 37 _ _ _ h Tryz.underlying37 rfl (by rw [szB]; exact size_cn))
  have INA : ∀ wx, wx.heap[g]? = some (.cells #[.string ⟨#[97, 46, 98]⟩] 9 (0, 0)) → CnIn wx (exn (exT 97)) gv (.slice none 0 0) := fun wx h => by rw [hgv]; exact exn_in (by decide) h
  have INB : ∀ wx, wx.heap[g]? = some (.cells #[.string ⟨#[97, 46, 98]⟩] 9 (0, 0)) → CnIn wx (exn (exT 110)) gv (.slice none 0 0) := fun wx h => by rw [hgv]; exact exn_in (by decide) h
  have hE2 : ∀ wx, Below g w wx → Env wx := fun wx hb => by rw [hg] at hb; exact hE.on hb
  obtain ⟨t, ht⟩ : ∃ t, t = strN (formF (exC 97)) := ⟨_, rfl⟩
  obtain ⟨iA, hiA⟩ : ∃ t, t = idA (idF (exC 97)) := ⟨_, rfl⟩
  obtain ⟨iB, hiB⟩ : ∃ t, t = idA (idF (exC 110)) := ⟨_, rfl⟩
  have CF : Hid (∀ wx, Below g w wx → wx.heap[g]? = some (.cells #[.string ⟨#[97, 46, 98]⟩] 9 (0, 0)) → Calls Tryz.prog 19 #[.agg cA] wx fun e w' => e = .returned (.tuple #[.string t, .int .i64 0]) ∧ Below wx.heap.size wx w') := Lib.hid (fun wx hb h => by
    rw [hcA]
    refine (form_any wx _ _ _ (INA wx h) (fun _ => by rw [exn_p 97 (.inl rfl)]; exact ex_len 97 (.inl rfl)) (hE2 wx hb)).mono ?_
    rintro e w' ⟨rfl, hb'⟩
    rw [exn_p 97 (.inl rfl), ex_ok 97 (.inl rfl), ht]
    exact ⟨rfl, hb'⟩)
  have CIA : Hid (∀ wx, Below g w wx → wx.heap[g]? = some (.cells #[.string ⟨#[97, 46, 98]⟩] 9 (0, 0)) → Calls Tryz.prog 11 #[.agg cA] wx fun e w' => e = .returned (.tuple #[.agg iA, .int .i64 0]) ∧ Below wx.heap.size wx w') := Lib.hid (fun wx hb h => by
    rw [hcA]
    refine (id_any wx _ _ _ (INA wx h) (fun _ => by rw [exn_p 97 (.inl rfl)]; exact ex_len 97 (.inl rfl)) (hE2 wx hb)).mono ?_
    rintro e w' ⟨rfl, hb'⟩
    have e1 : idV (exC 97) = idF (exC 97) := by unfold idV; rw [if_pos (ex_ok 97 (.inl rfl))]
    rw [exn_p 97 (.inl rfl), ex_ok 97 (.inl rfl), e1, hiA]
    exact ⟨rfl, hb'⟩)
  have CIB : Hid (∀ wx, Below g w wx → wx.heap[g]? = some (.cells #[.string ⟨#[97, 46, 98]⟩] 9 (0, 0)) → Calls Tryz.prog 11 #[.agg cB] wx fun e w' => e = .returned (.tuple #[.agg iB, .int .i64 0]) ∧ Below wx.heap.size wx w') := Lib.hid (fun wx hb h => by
    rw [hcB]
    refine (id_any wx _ _ _ (INB wx h) (fun _ => by rw [exn_p 110 (.inr rfl)]; exact ex_len 110 (.inr rfl)) (hE2 wx hb)).mono ?_
    rintro e w' ⟨rfl, hb'⟩
    have e1 : idV (exC 110) = idF (exC 110) := by unfold idV; rw [if_pos (ex_ok 110 (.inr rfl))]
    rw [exn_p 110 (.inr rfl), ex_ok 110 (.inr rfl), e1, hiB]
    exact ⟨rfl, hb'⟩)
  have NEQ : Hid (∀ wx, (Op.equal 26 (.agg iA) (.agg iB)).run Tryz.prog wx = .ok false wx) := Lib.hid (fun wx => by
    have e := eq_id wx (l := idF (exC 97)) (m := idF (exC 110)) ⟨dgF_len _, dgF_lt _⟩ ⟨dgF_len _, dgF_lt _⟩
    rw [hiA, hiB, e, decide_eq_false ex_ne])
  have siA : iA.size = 32 := by rw [hiA, idA_size]; exact dgF_len _
  have siB : iB.size = 32 := by rw [hiB, idA_size]; exact dgF_len _
  have siz : zs.size = 32 := by rw [hzs, idA_size]; rfl
  have oA : iA.all (·.oneCell') = true := by rw [hiA]; exact idA_one _
  have oB : iB.all (·.oneCell') = true := by rw [hiB]; exact idA_one _
  have SI : Hid (∀ (wx : World) (i : Array Value), i.size = 32 → i.all (·.oneCell') = true → (storeVar 26 ⟨wx.heap.size, 0, none⟩ (.agg i)).run Tryz.prog (wx.alloc (.cells zs 26)) = .ok () ((wx.alloc (.cells zs 26)).setRow wx.heap.size i) ∧ ((wx.alloc (.cells zs 26)).setRow wx.heap.size i).heap[wx.heap.size]? = some (.cells i 26 (0, 0)) ∧ Below wx.heap.size wx ((wx.alloc (.cells zs 26)).setRow wx.heap.size i)) := Lib.hid (fun wx i h1 h2 =>
    ⟨run_storeVar_row _ wx.heap.size _ 26 _ _ (heap_alloc_last wx _) (by rw [h1]; exact size23) (by rw [h1, siz]) h2, setRow_heap _ _ _ _ _ _ (heap_alloc_last wx _), below_setRow ((Below.refl _ _).alloc (Nat.le_refl _) _) (Nat.le_refl _) _⟩)
  have LI : Hid (∀ (wx : World) b (i : Array Value), i.size = 32 → wx.heap[b]? = some (.cells i 26 (0, 0)) → (loadVar 26 ⟨b, 0, none⟩).run Tryz.prog wx = .ok (.agg i) wx) := Lib.hid (fun wx b i h1 h => run_loadVar_row wx b _ 26 _ _ _ h Tryz.underlying26 rfl (by rw [h1]; exact size23))
  have SS : Hid (∀ wx, wx.heap[p]? = some (.cells cA 37 (0, 0)) → (storeVar 9 ⟨p, 19, none⟩ (.string ⟨#[116, 101, 110]⟩)).run Tryz.prog wx = .ok () (wx.setRow p cB)) := Lib.hid (fun wx h => by
    rw [hcA, exn_set] at h
    rw [hcB, exn_set]
    exact run_store_one wx p 19 9 _ _ _ _ _ h rfl (by kernel_rfl))
  have HP : Hid (∀ wx : World, Calls Tryz.prog 26 #[.string t, .string ⟨#[110, 97, 109, 101, 32, 65, 110, 110, 10, 97, 117, 116, 104, 111, 114, 32, 48, 49, 48, 48]⟩] wx fun e w' => e = .returned (.bool true) ∧ w' = wx) := Lib.hid (fun wx => by
    have := lb_strings_HasPrefix t ⟨#[110, 97, 109, 101, 32, 65, 110, 110, 10, 97, 117, 116, 104, 111, 114, 32, 48, 49, 48, 48]⟩ wx
    rw [ht, ex_pre] at this
    rw [ht]
    exact this)
  have HSA := Lib.hid siA; have HSB := Lib.hid siB; have HOA := Lib.hid oA; have HOB := Lib.hid oB
  have PG := Lib.hid pg
  have GS : Hid (∀ wx, Below g w wx → g ≤ wx.heap.size) := Lib.hid (fun wx h => by rw [hg]; exact h.size)
  rw [← hw3] at ST
  have HW1 := Lib.hid hw1; have HW2 := Lib.hid hw2; have HGV := Lib.hid hgv; have HG := Lib.hid hg; have HPP := Lib.hid hp
  rw [← hg]
  clear hg hp hw1 hw2 hw3 hgv hcA hcB hau hpk hc0 hzs ht hiA hiB szA szB sz0 onA siA siB siz oA oB G1 G2 P2 B1 B2 INA INB hE2 hE pg
  go_enter Tryz.func7, Tryz.ntmps7
  go_upto_region 1 with fail
  refine wp_region_list ?_
  simp only []
  refine wpList_buildM 33 rfl _ rfl ⟨_, _, by kernel_rfl, BA.out w, ?_⟩
  refine wpList_run rfl (exec_bs1 (v := .string ⟨#[97, 46, 98]⟩) w rfl rfl (kx_bs w _)) ?_
  rw [← HW1.out, ← HG.out, ← HGV.out]
  refine wpList_buildM 35 rfl _ rfl ⟨_, _, by kernel_rfl, BP.out w1, ?_⟩
  refine wpList_buildM 37 rfl _ rfl ⟨_, _, by kernel_rfl, BC.out w1, ?_⟩
  refine wpList_run rfl (AC.out _ _ w1 rfl) ?_
  rw [← HW2.out, ← HPP.out]
  refine wpList_store 37 rfl _ _ rfl ⟨_, _, _, rfl, rfl, ST.out, ?_⟩
  clear ST BA BP BC AC
  go_upto_region 2 with fail
  refine wp_region_list ?_
  simp only []
  refine wpList_load 37 rfl _ rfl ⟨_, _, rfl, LDA.out _ P3.out, ?_⟩
  go_wp2_with fail
  refine (CF.out w3 B3.out G3.out).mono ?_
  rintro e w4 ⟨rfl, hb⟩
  have P4 := Lib.hid ((hb.block _ (lt_of_block P3.out)).trans P3.out)
  have G4 := Lib.hid ((hb.block _ (lt_of_block G3.out)).trans G3.out)
  have B4 := Lib.hid (B3.out.trans (hb.mono (GS.out _ B3.out)))
  clear hb B3 P3 G3 CF
  go_upto_region 3 with fail
  refine wp_region_list ?_
  simp only []
  refine wpList_load 37 rfl _ rfl ⟨_, _, rfl, LDA.out _ P4.out, ?_⟩
  go_wp2_with fail
  refine (CIA.out w4 B4.out G4.out).mono ?_
  rintro e w5 ⟨rfl, hb⟩
  have P5 := Lib.hid ((hb.block _ (lt_of_block P4.out)).trans P4.out)
  have G5 := Lib.hid ((hb.block _ (lt_of_block G4.out)).trans G4.out)
  have B5 := Lib.hid (B4.out.trans (hb.mono (GS.out _ B4.out)))
  clear hb B4 P4 G4 CIA LDA
  obtain ⟨w6, hw6⟩ : ∃ x, x = (w5.alloc (.cells zs 26)).setRow w5.heap.size iA := ⟨_, rfl⟩
  have S5 := SI.out w5 iA HSA.out HOA.out
  rw [← hw6] at S5
  have ST5 := Lib.hid S5.1
  have SH5 := Lib.hid S5.2
  clear hw6 S5
  go_upto_region 4 with (first
    | ((with_reducible refine wpList_run rfl (AI.out _ _ _ rfl) ?_))
    | ((with_reducible refine wpList_store 26 rfl _ _ rfl ?_); refine ⟨_, _, _, rfl, rfl, ST5.out, ?_⟩))
  obtain ⟨q, hq⟩ : ∃ q, q = w5.heap.size := ⟨_, rfl⟩
  rw [← hq]
  have lp := lt_of_block P5.out
  have lg := lt_of_block G5.out
  have Q6 : Hid (w6.heap[q]? = some (.cells iA 26 (0, 0))) := Lib.hid (by rw [hq]; exact SH5.out.1)
  have P6 := Lib.hid ((SH5.out.2.block _ lp).trans P5.out)
  have G6 := Lib.hid ((SH5.out.2.block _ lg).trans G5.out)
  have B6 := Lib.hid (B5.out.trans (SH5.out.2.mono (GS.out _ B5.out)))
  have QP : Hid (p < q ∧ g < q) := Lib.hid ⟨by omega, by omega⟩
  clear SH5 ST5 hq lp lg P5 G5 B5
  obtain ⟨w7, hw7⟩ : ∃ x, x = w6.setRow p cB := ⟨_, rfl⟩
  have S6 := SS.out w6 P6.out
  rw [← hw7] at S6
  have ST6 := Lib.hid S6
  have HW7 := Lib.hid hw7
  clear hw7 S6
  go_upto_region 5 with ((with_reducible refine wpList_store 9 rfl _ _ rfl ?_); refine ⟨_, _, _, rfl, rfl, ST6.out, ?_⟩)
  have P7 : Hid (w7.heap[p]? = some (.cells cB 37 (0, 0))) := Lib.hid (by rw [HW7.out]; exact setRow_heap w6 p _ cB _ _ P6.out)
  have G7 : Hid (w7.heap[g]? = some (.cells #[.string ⟨#[97, 46, 98]⟩] 9 (0, 0))) := Lib.hid (by rw [HW7.out]; exact (setRow_other w6 p g cB (by have := PG.out; omega)).trans G6.out)
  have Q7 : Hid (w7.heap[q]? = some (.cells iA 26 (0, 0))) := Lib.hid (by rw [HW7.out]; exact (setRow_other w6 p q cB (by have := QP.out; omega)).trans Q6.out)
  have B7 : Hid (Below g w w7) := Lib.hid (by rw [HW7.out]; exact below_setRow B6.out (by have := PG.out; omega) cB)
  clear HW7 ST6 SS P6 G6 Q6 B6
  refine wp_region_list ?_
  simp only []
  refine wpList_load 37 rfl _ rfl ⟨_, _, rfl, LDB.out _ P7.out, ?_⟩
  go_wp2_with fail
  refine (CIB.out w7 B7.out G7.out).mono ?_
  rintro e w8 ⟨rfl, hb⟩
  have Q8 := Lib.hid ((hb.block _ (lt_of_block Q7.out)).trans Q7.out)
  have B8 := Lib.hid (B7.out.trans (hb.mono (GS.out _ B7.out)))
  clear hb B7 P7 G7 Q7 CIB LDB
  obtain ⟨w9, hw9⟩ : ∃ x, x = (w8.alloc (.cells zs 26)).setRow w8.heap.size iB := ⟨_, rfl⟩
  have S8 := SI.out w8 iB HSB.out HOB.out
  rw [← hw9] at S8
  have ST8 := Lib.hid S8.1
  have SH8 := Lib.hid S8.2
  clear hw9 S8
  go_upto_region 6 with (first
    | ((with_reducible refine wpList_run rfl (AI.out _ _ _ rfl) ?_))
    | ((with_reducible refine wpList_store 26 rfl _ _ rfl ?_); refine ⟨_, _, _, rfl, rfl, ST8.out, ?_⟩))
  obtain ⟨r, hr⟩ : ∃ q, q = w8.heap.size := ⟨_, rfl⟩
  rw [← hr]
  have Q9 := Lib.hid ((SH8.out.2.block _ (lt_of_block Q8.out)).trans Q8.out)
  have R9 : w9.heap[r]? = some (.cells iB 26 (0, 0)) := by rw [hr]; exact SH8.out.1
  have B9 := Lib.hid (B8.out.trans (SH8.out.2.mono (GS.out _ B8.out)))
  have LIA := Lib.hid (LI.out w9 q iA HSA.out Q9.out)
  have LIB := Lib.hid (LI.out w9 r iB HSB.out R9)
  clear SH8 ST8 hr Q8 B8 R9 Q9 SI LI AI
  go_wp2_with fail
  refine (HP.out w9).mono ?_
  rintro e w10 ⟨rfl, rfl⟩
  go_wp2_with (first
    | ((with_reducible refine wpList_loadG 26 _ rfl (by kernel_rfl) ?_); first | (refine ⟨_, _, rfl, LIA.out, ?_⟩) | (refine ⟨_, _, rfl, LIB.out, ?_⟩))
    | ((with_reducible refine wpList_neqG 26 _ _ rfl (by kernel_rfl) guard23 ?_); refine ⟨_, _, _, rfl, rfl, NEQ.out _, ?_⟩))
  go_ret
  exact ⟨rfl, B9.out⟩
theorem joinF_le (s : Nat) : ∀ l : List (List Nat), (joinF [s] l).length ≤ (l.map List.length).sum + l.length
  | [] => by simp [joinF]
  | [x] => by simp [joinF]
  | x :: y :: r => by
    have := joinF_le s (y :: r)
    simp only [joinF, List.length_append, List.map_cons, List.sum_cons, List.length_cons, List.length_nil] at this ⊢
    omega
theorem sum_const (n : Nat) : ∀ l : List Nat, (∀ x ∈ l, x = n) → l.sum = l.length * n
  | [], _ => by simp
  | x :: l, h => by
    have h1 := h x (List.mem_cons_self ..)
    have h2 := sum_const n l (fun y hy => h y (List.mem_cons_of_mem _ hy))
    rw [List.sum_cons, h1, h2, List.length_cons, Nat.succ_mul]; omega
theorem form_fitsB {c : Cn} (ok : c.Ok) (hgl : c.groups.length ≤ 30) (hgt : tot c.groups ≤ 3000) (hrl : c.refs.length ≤ 30) (htx : c.name.size + c.subject.size + c.ctl.size + c.dist.size ≤ 2000) (hbo : c.body.size ≤ 1000000) (h0 : chkF c.p = 0) : (formF c.p).length ≤ 10000000 := by
  have vd := vd_of h0
  rw [form_size]
  have e0 : c.p.name.length = c.name.size := bs_length _
  have e1 : (hexF c.p.author).length = 2 * 16 := by rw [← ok.author.len]; exact hexF_len _
  have e2 : (digI c.p.date).length ≤ 21 := digI_len21 vd.date.1
  have e3 : (joinF [44] c.p.groups).length ≤ tot c.groups + c.groups.length := by
    have := joinF_le 44 (c.groups.map bs)
    rw [List.map_map, List.length_map] at this
    have e : c.groups.map (List.length ∘ bs) = c.groups.map ByteArray.size := List.map_congr_left (fun g _ => bs_length g)
    rw [e] at this
    exact this
  have e4 : c.p.subject.length = c.subject.size := bs_length _
  have e5 : (joinF [32] (c.p.refs.map midF)).length ≤ c.refs.length * 71 + c.refs.length := by
    have := joinF_le 32 (c.refs.map midF)
    rw [List.map_map, List.length_map] at this
    rw [sum_const 71 (c.refs.map (List.length ∘ midF)) (fun x hx => by
      obtain ⟨y, hy, rfl⟩ := List.mem_map.1 hx
      exact midF_len (ok.refs y hy)), List.length_map] at this
    exact this
  have e6 : (optF c.p.sup).length ≤ 71 := by
    unfold optF
    split
    · simp
    · exact Nat.le_of_eq (midF_len ok.sup)
  have e7 : c.p.ctl.length = c.ctl.size := bs_length _
  have e8 : c.p.dist.length = c.dist.size := bs_length _
  have e9 : (keyF c.p).length ≤ 1022 := by
    unfold keyF
    rw [List.length_append, List.length_cons]
    have h1 : (digI c.p.number).length ≤ 21 := digI_len21 vd.number.1
    have h2 : (encF (pubB c.p)).length ≤ 1000 := encF17 (fun x hx => by
      unfold pubB at hx
      rcases List.mem_cons.1 hx with rfl | hx
      · omega
      · exact ok.root.lt x hx) (by unfold pubB; rw [List.length_cons]; show c.root.length + 1 = 17; rw [ok.root.len])
    omega
  have e10 : (digI c.p.leaf).length ≤ 21 := digI_len21 vd.leaf.1
  have e11 : c.p.body.length = c.body.size := bs_length _
  omega
/-- A content whose lists lie in rows of their own. -/
theorem own_in {w w' : World} {base : Nat} {c : Cn} {gv rv g1 r1 : Value} (hin : CnIn w c gv rv) (o1 : w'.ownsRow base 9 1 g1 c.groups.length (c.groups.map Value.string)) (o2 : w'.ownsRow base 26 32 r1 c.refs.length (idCells c.refs)) : CnIn w' c g1 r1 :=
  ⟨hin.ok, hin.name, hin.subject, hin.ctl, hin.dist, hin.body, hin.gl, hin.gz, hin.rl, ownS_row o1, ownI_row hin.ok.refs o2⟩
theorem run_store_v {P : Program} (w : World) (g o : Nat) (ty t : TypeId) (X Z : List Value) (y v : Value) (hg : w.heap[g]? = some (.cells (X ++ (y :: Z)).toArray t (0, 0))) (hX : X.length = o)
    (hi : (P.info? ty).map (·.size) = some 1) (h1 : v.oneCell' = true) (hc : v.cells = #[v]) : (storeVar ty ⟨g, o, none⟩ v).run P w = .ok () (w.setRow g (X ++ (v :: Z)).toArray) := by
  have hst := run_storeCells_at P g o t [v] 0 _ w hg (by simp; omega) (by simpa using h1)
  have e : (X ++ (y :: Z)).toArray.toList.take (o + 0) ++ [v] ++ (X ++ (y :: Z)).toArray.toList.drop (o + 0 + 1) = X ++ (v :: Z) := by
    subst hX
    simp
  rw [show ([v] : List Value).length = 1 from rfl, e] at hst
  cases hq : P.info? ty with
  | none => simp [hq] at hi
  | some i =>
    have hs : i.size = 1 := by simp [hq] at hi; omega
    simp [storeVar, sizeOf, typeInfo, hq, hc, hs, hst]
def OwS (w : World) (base : Nat) (a : Option Addr) (n : Nat) : Prop := 0 < n → ∃ h cur, a = some ⟨h, 0, none⟩ ∧ base ≤ h ∧ w.heap[h]? = some (.cells cur 9 (0, 0)) ∧ n ≤ cur.size
def OwI (w : World) (base : Nat) (a : Option Addr) (n : Nat) : Prop := 0 < n → ∃ h cur, a = some ⟨h, 0, none⟩ ∧ base ≤ h ∧ w.heap[h]? = some (.cells cur 26 (0, 0)) ∧ n * 32 ≤ cur.size ∧ ∀ j, j < n * 32 → ∃ x : Int, cur[j]? = some (.int .u8 x)
theorem OwI.other {w : World} {base n h : Nat} {a : Option Addr} {old cs : Array Value} {T : TypeId} (H : OwI w base a n) (hT : T ≠ 26) (hh : w.heap[h]? = some (.cells old T (0, 0))) : OwI (w.setRow h cs) base a n := fun hn => by
  obtain ⟨g, cur, e, hb, hg, r⟩ := H hn
  refine ⟨g, cur, e, hb, ?_, r⟩
  have : g ≠ h := fun e => by subst e; rw [hg] at hh; cases hh; exact hT rfl
  exact (setRow_other w h g cs this).trans hg
theorem list_cut {X : Type} (l : List X) {i : Nat} (h : i < l.length) : l = l.take i ++ (l[i] :: l.drop (i + 1)) := by
  rw [← List.drop_eq_getElem_cons h, List.take_append_drop]
theorem OwS.step {w : World} {base n : Nat} {a : Option Addr} (H : OwS w base a n) {i : Nat} (hi : i < n) (s : ByteArray) :
    ∃ h cs old, a = some ⟨h, 0, none⟩ ∧ base ≤ h ∧ h < w.heap.size ∧ w.heap[h]? = some (.cells old 9 (0, 0)) ∧ (storeVar 9 ⟨h, i, none⟩ (.string s)).run Tryz.prog w = .ok () (w.setRow h cs) ∧ OwS (w.setRow h cs) base a n := by
  obtain ⟨h, cur, e, hb, hg, hn⟩ := H (by omega)
  have hl : i < cur.toList.length := by rw [Array.length_toList]; omega
  have hg2 : w.heap[h]? = some (.cells (cur.toList.take i ++ (cur.toList[i] :: cur.toList.drop (i + 1))).toArray 9 (0, 0)) := by rw [← list_cut cur.toList hl, Array.toArray_toList]; exact hg
  refine ⟨h, _, cur, e, hb, lt_of_block hg, hg, run_store_v (P := Tryz.prog) w h i 9 _ _ _ _ (.string s) hg2 (by rw [List.length_take]; omega) (by kernel_rfl) rfl rfl, fun _ => ⟨h, _, e, hb, setRow_heap _ _ _ _ _ _ hg, ?_⟩⟩
  simp
  omega
theorem OwI.step {w : World} {base n : Nat} {a : Option Addr} (H : OwI w base a n) {i : Nat} (hi : i < n) :
    ∃ h x old, a = some ⟨h, 0, none⟩ ∧ base ≤ h ∧ h < w.heap.size ∧ w.heap[h]? = some (.cells old 26 (0, 0)) ∧ w.cell? ⟨h, i * 32, none⟩ = some (.int .u8 x) ∧
      ∀ y : Int, ∃ cs, (storeVar 5 ⟨h, i * 32, none⟩ (.int .u8 y)).run Tryz.prog w = .ok () (w.setRow h cs) ∧ OwI (w.setRow h cs) base a n := by
  obtain ⟨h, cur, e, hb, hg, hn, hx⟩ := H (by omega)
  obtain ⟨x, hxx⟩ := hx (i * 32) (by omega)
  have hl : i * 32 < cur.toList.length := by rw [Array.length_toList]; omega
  have hg2 : w.heap[h]? = some (.cells (cur.toList.take (i * 32) ++ (cur.toList[i * 32] :: cur.toList.drop (i * 32 + 1))).toArray 26 (0, 0)) := by rw [← list_cut cur.toList hl, Array.toArray_toList]; exact hg
  refine ⟨h, x, cur, e, hb, lt_of_block hg, hg, (cell_of_row w h _ _ _ _ hg).trans hxx, fun y => ?_⟩
  refine ⟨_, run_store_v (P := Tryz.prog) w h (i * 32) 5 _ _ _ _ (.int .u8 y) hg2 (by rw [List.length_take]; omega) (by kernel_rfl) rfl rfl, fun _ => ⟨h, _, e, hb, setRow_heap _ _ _ _ _ _ hg, ?_, fun j hj => ?_⟩⟩
  · simp; omega
  · by_cases hji : j = i * 32
    · refine ⟨y, ?_⟩
      rw [hji, List.getElem?_toArray, List.getElem?_append_right (by rw [List.length_take]; omega), List.length_take, Nat.min_eq_left (by omega), Nat.sub_self]
      rfl
    · obtain ⟨z, hz⟩ := hx j hj
      refine ⟨z, ?_⟩
      rw [← hz, List.getElem?_toArray, ← Array.getElem?_toList]
      conv => rhs; rw [list_cut cur.toList hl]
      by_cases hlt : j < i * 32
      · rw [List.getElem?_append_left (by rw [List.length_take]; omega), List.getElem?_append_left (by rw [List.length_take]; omega)]
      · rw [List.getElem?_append_right (by rw [List.length_take]; omega), List.getElem?_append_right (by rw [List.length_take]; omega), List.length_take, Nat.min_eq_left (by omega)]
        obtain ⟨d, hd⟩ : ∃ d, j - i * 32 = d + 1 := ⟨j - i * 32 - 1, by omega⟩
        rw [hd]; rfl
end Go.Proofs.YtohmdledkhgdaaaGreatDoor
/- What CanonicalIdentity's walk calls. -/
namespace Go.Proofs.YtohmdledkhgdaaaGreatDoor
open Go.RowKit
set_option linter.unusedVariables false
set_option linter.unusedSectionVars false
set_option maxRecDepth 100000
/-- A content of this value, its lists in rows of its own. -/
def OwnV (c : Cn) (base : Nat) (cs : Array Value) (w : World) : Prop := ∃ gv rv, cs = c.cells gv rv ∧ w.ownsRow base 9 1 gv c.groups.length (c.groups.map Value.string) ∧ w.ownsRow base 26 32 rv c.refs.length (idCells c.refs)
theorem OwnV.on {c : Cn} {base : Nat} {cs : Array Value} {w w' : World} (h : OwnV c base cs w) (hb : Below w.heap.size w w') : OwnV c base cs w' := by
  obtain ⟨gv, rv, e, o1, o2⟩ := h
  exact ⟨gv, rv, e, ownsU (b := 0) o1 hb, ownsU (b := 0) o2 hb⟩
theorem OwnV.size {c : Cn} {base : Nat} {cs : Array Value} {w : World} (h : OwnV c base cs w) (ok : c.Ok) : cs.size = 75 := by
  obtain ⟨gv, rv, rfl, _⟩ := h
  exact cn_size ok _ _
section
variable {w : World} {a b : Cn} {ga ra gb rb : Value} (ha : CnArg w a ga ra) (fa : FitsP a) (hb : CnArg w b gb rb) (fb : FitsP b) {wx : World} (hx : Below w.heap.size w wx)
include ha fa hx
include hb fb
end
end Go.Proofs.YtohmdledkhgdaaaGreatDoor
