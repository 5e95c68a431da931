/- control.Parse. -/
import Derived.Test.YtohmdledkhgdaaaGreatDoorLo19
namespace Go.Proofs.YtohmdledkhgdaaaGreatDoor
open Go.RowKit
set_option linter.unusedVariables false
set_option maxRecDepth 100000
/-- What Parse of control returns. -/
def CpPost (l : List Nat) (w : World) (e : Ending) (w' : World) : Prop :=
  ∃ (cs : Array Value) (a : Int), e = .returned (.tuple #[.agg cs, .int .i64 a, .int .i64 ((cmdF l : Nat) : Int)]) ∧ Cl 56 cs ∧ Below w.heap.size w w'
theorem take_word (s x : ByteArray) (hx : bs x = upto 32 (bs s)) : cmdF (bs s) = if 1000 < s.size then 5 else cmdK (bs x) ((bs s).drop x.size) := by
  unfold cmdF
  rw [bs_length]
  have e1 : (bs s).takeWhile (fun c => !decide (c = 32)) = bs x := hx.symm
  have e3 : (bs s).drop x.size = (bs s).dropWhile (fun c => !decide (c = 32)) := by
    have := List.takeWhile_append_dropWhile (p := fun c => !decide (c = 32)) (l := bs s)
    rw [e1] at this
    conv => lhs; rw [← this]
    rw [← bs_length x, List.drop_append, List.drop_length, Nat.sub_self]; rfl
  rw [e1, e3]
theorem MB.on {w w' : World} {p : Nat} (h : MB w p) (hb : Below w.heap.size w w') : MB w' p := by
  obtain ⟨cs, h1, h2⟩ := h
  exact ⟨cs, (hb.block p (lt_of_block h1)).trans h1, h2⟩
theorem MB.storeAll {w : World} {p : Nat} (h : MB w p) {cs : Array Value} (hc : Cl 56 cs) :
    (storeVar 152 ⟨p, 0, none⟩ (.agg cs)).run Tryz.prog w = .ok () (w.setRow p cs) ∧ (w.setRow p cs).heap[p]? = some (.cells cs 152 (0, 0)) ∧ Fr1 p w (w.setRow p cs) := by
  obtain ⟨zs, h1, h2⟩ := h
  exact ⟨run_storeVar_row (P := Tryz.prog) w p _ 152 zs cs h1 (by rw [hc.1]; exact size_cmd) (by rw [hc.1, h2.1]) hc.2, setRow_heap w p zs cs _ _ h1, ⟨rfl, rfl, rfl, by simp [World.setRow], fun k hk hne => setRow_other w p k cs hne⟩⟩
theorem anyH_step {P : Program} {md : Region.Mode} {ops : Array Oper} {Q : Exit → Act → World → Prop} {S : World → Prop} {i : Nat} {o : Oper} {fuel : Nat} {listed : Array Bool} {a : Act} {w w' : World} {v : Value} (hr : Region.ready md ops listed = [i]) (ho : ops[i]? = some o) (hg : o.guard = none)
    (he : (execOp a.eval o).run P w = .ok (.value v) w') (hS : S w') (h : wpAnyH P md ops Q S fuel (listed.setIfInBounds i true) (a.put o.dst v) w') : wpAnyH P md ops Q S (fuel + 1) listed a w :=
  wpAnyH_all hr (by simp) (fun j hj => by
    obtain rfl : j = i := by simpa using hj
    exact wpOp_of ho hg (exec_value_wp he ⟨hS, h⟩))
theorem exec_assignV {P : Program} {o : Oper} {a : Act} {w : World} {x : Operand} {v : Value} (ho : o.op = .assign x) (hx : a.eval x = v) : (execOp a.eval o).run P w = .ok (.value v) w := by
  rw [← hx]; exact exec_assign ho
theorem anyH_stepS {P : Program} {md : Region.Mode} {ops : Array Oper} {Q : Exit → Act → World → Prop} {S : World → Prop} {i : Nat} {o : Oper} {fuel : Nat} {listed : Array Bool} {a : Act} {w w' : World} (hr : Region.ready md ops listed = [i]) (ho : ops[i]? = some o) (hg : o.guard = none)
    (he : (execOp a.eval o).run P w = .ok .skip w') (hS : S w') (h : wpAnyH P md ops Q S fuel (listed.setIfInBounds i true) (a.put o.dst undef) w') : wpAnyH P md ops Q S (fuel + 1) listed a w :=
  wpAnyH_all hr (by simp) (fun j hj => by
    obtain rfl : j = i := by simpa using hj
    exact wpOp_of ho hg (exec_skip_wp he ⟨hS, h⟩))
def S34 (b : Nat) (a : Int) (er : Nat) (w' : World) : Prop := w'.cell? ⟨b, 3, none⟩ = some (.int .i64 a) ∧ w'.cell? ⟨b, 4, none⟩ = some (.int .i64 (er : Int))
theorem call_fN {k : Nat} (hk : k < 5) (args : Array Value) (w : World) : (callFunc (fN k) args).run Tryz.prog w = .ok (.enter (fN k) args) w := by
  rcases (by omega : k = 0 ∨ k = 1 ∨ k = 2 ∨ k = 3 ∨ k = 4) with rfl | rfl | rfl | rfl | rfl <;> rfl
set_option maxHeartbeats 4000000 in
theorem cparse_any (s : ByteArray) (w : World) (hs : s.size ≤ 1000000) (hE : Env w) :
    Calls Tryz.prog 103 #[.string s] w (CpPost (bs s) w) := by
  obtain ⟨zs, hzs⟩ : ∃ zs, zs = cmdA 0 z32c := ⟨_, rfl⟩
  have ZCL : Hid (Cl 56 zs) := Lib.hid (by rw [hzs]; exact cl_cmdA 0 _ (by simp [z32c]) cl_z32c)
  have BK : Hid (∀ w, (Instr.build 152 #[]).run Tryz.prog w = .ok (.agg zs) w) := Lib.hid (fun w => by rw [hzs]; kernel_rfl)
  obtain ⟨w0, hw0⟩ : ∃ w0, w0 = w.alloc (.cells zs 152) := ⟨_, rfl⟩
  have EW : Hid (w0 = w.alloc (.cells #[.int .i64 0, .int .u8 0, .int .u8 0, .int .u8 0, .int .u8 0, .int .u8 0, .int .u8 0, .int .u8 0, .int .u8 0, .int .u8 0, .int .u8 0, .int .u8 0, .int .u8 0, .int .u8 0, .int .u8 0, .int .u8 0, .int .u8 0, .int .u8 0, .int .u8 0, .int .u8 0, .int .u8 0, .int .u8 0, .int .u8 0, .int .u8 0, .int .u8 0, .int .u8 0, .int .u8 0, .int .u8 0, .int .u8 0, .int .u8 0, .int .u8 0, .int .u8 0, .int .u8 0, .string ⟨#[]⟩, .int .i64 0, .bool false, .slice none 0 0, .string ⟨#[]⟩, .int .i64 0, .int .i64 0, .int .u8 0, .int .u8 0, .int .u8 0, .int .u8 0, .int .u8 0, .int .u8 0, .int .u8 0, .int .u8 0, .int .u8 0, .int .u8 0, .int .u8 0, .int .u8 0, .int .u8 0, .int .u8 0, .int .u8 0, .int .u8 0] 152)) := Lib.hid (by rw [hw0, hzs]; rfl)
  have B0 : Hid (Below w.heap.size w w0) := Lib.hid (by rw [hw0]; exact (Below.refl _ _).alloc (Nat.le_refl _) _)
  have M0 : Hid (MB w0 w.heap.size) := Lib.hid ⟨zs, by rw [hw0]; exact heap_alloc_new w _, ZCL.out⟩
  have E0 := Lib.hid (hE.on B0.out)
  have hw9 : 9 ≤ w.heap.size := hE.size
  have SZ0 : Hid (w0.heap.size = w.heap.size + 1) := Lib.hid (by rw [hw0]; simp)
  clear hzs hw0 hE
  by_cases hl : 1000 < s.size
  · have F : Hid (cmdF (bs s) = 5) := Lib.hid (by unfold cmdF; rw [bs_length, if_pos hl])
    obtain ⟨ST, W2, FR⟩ := M0.out.storeAll ZCL.out
    have ST := Lib.hid ST; have W2 := Lib.hid W2
    have BB : Hid (Below w.heap.size w (w0.setRow w.heap.size zs)) := Lib.hid (B0.out.trans (FR.below B0.out.size (Nat.le_refl _)))
    have ZS : Hid (zs.size = 56) := Lib.hid ZCL.out.1
    clear FR
    go_enter Tryz.func103, Tryz.ntmps103
    go_upto_region 1 with fail
    rw [← EW.out]
    go_upto_region 2 with fail
    refine wp_region_list ?_
    simp only []
    refine wpList_build0 152 rfl rfl ⟨_, BK.out _, ?_⟩
    go_wp2_with ((with_reducible refine wpList_store 152 rfl _ _ rfl ?_); refine ⟨_, _, _, rfl, rfl, ST.out, ?_⟩)
    exact bodyPost_ret (results_cell_tmp2 Tryz.results103 _ _ w.heap.size _ _ _ _ rfl W2.out Tryz.underlying152 rfl (by rw [ZS.out]; exact size_cmd)) rfl ⟨zs, 0, by rw [F.out]; rfl, ZCL.out, BB.out⟩
  · have hl2 : s.size ≤ 1000 := by omega
    obtain ⟨x, y, ok, ⟨hx, hy, hok, hxs⟩, hcut⟩ := cut_det s 32 (by omega)
    have CUT := Lib.hid (hcut w0 E0.out.mx)
    have F0 : Hid (cmdF (bs s) = cmdK (bs x) ((bs s).drop x.size)) := Lib.hid (by rw [take_word s x hx, if_neg hl])
    clear hl hx hy hok hcut
    go_enter Tryz.func103, Tryz.ntmps103
    go_upto_region 1 with fail
    rw [← EW.out]
    clear EW
    go_wp2_with fail
    refine CUT.out.mono ?_
    rintro e w1 ⟨rfl, hd1⟩
    have B1 := Lib.hid (B0.out.trans ((Dr.below hd1).mono B0.out.size))
    have M1 := Lib.hid (M0.out.on (Dr.below hd1))
    have E1 := Lib.hid (E0.out.on (Dr.below hd1))
    clear CUT hd1 M0 B0 E0
    have FM := Lib.hid (cforms_any w1)
    go_wp2_with fail
    refine FM.out.mono ?_
    rintro e w2 ⟨b, l, rfl, hb2, hbb, hm, hlm⟩
    have B2 := Lib.hid (B1.out.trans (hb2.mono B1.out.size))
    have M2 := Lib.hid (M1.out.on hb2)
    have E2 := Lib.hid (E1.out.on hb2)
    have szR : w.heap.size < w2.heap.size := M2.out.lt
    clear FM M1 B1 E1 hb2 hbb
    by_cases hk : ∃ k, k < 5 ∧ x = kN k
    · obtain ⟨k, hk5, hxk⟩ := hk
      have LK := mf_look hm x (.func (.func (fN k)) #[] #[]) (by rw [hxk]; exact kN_self k hk5) ((hlm _).2 ⟨k, hk5, by rw [hxk]; rfl⟩) (fun p hp h => by
        obtain ⟨j, hj, rfl⟩ := (hlm p).1 hp
        by_cases e : j = k
        · subst e; rfl
        · have h2 : (kN k == kN j) = true := by rw [← hxk]; exact h
          rw [kN_ne k hk5 j hj (fun e2 => e e2.symm)] at h2; cases h2)
      have F1 : Hid (cmdF (bs s) = FK k ((bs s).drop x.size)) := Lib.hid (by rw [F0.out, hxk, cmdK_kind hk5])
      have HK := Lib.hid hk5
      obtain ⟨fk, hfk⟩ : ∃ fk, fk = fN k := ⟨_, rfl⟩
      have FN : Hid (∀ (w : World) (b : Nat) (st en : Nat) (at_ : Int) (er : Nat) (h : WS w b s st en at_ er) (hE : Env w) (hb9 : 9 ≤ b), Calls Tryz.prog fk #[.pointer (some ⟨b, 0, none⟩)] w (FormPost w b s en er (FK k))) := Lib.hid (fun w b st en at_ er h hE hb9 => by rw [hfk]; exact formN_any hk5 w b s st en at_ er h hE hb9 (by omega))
      have CF : Hid (∀ args w, (callFunc fk args).run Tryz.prog w = .ok (.enter fk args) w) := Lib.hid (fun args w => by rw [hfk]; exact call_fN hk5 args w)
      rw [← hfk] at LK
      clear hm hlm hxk F0 hk5 hfk
      have hxs' : x.size ≤ s.size := hxs
      go_upto_region 8 with fail
      clear LK
      obtain ⟨w3, hw3⟩ : ∃ w3, w3 = w2.alloc (.cells #[.string s, .int .i64 0, .int .i64 (x.size : Int), .int .i64 0, .int .i64 0] 207) := ⟨_, rfl⟩
      have b3 : Below w2.heap.size w2 w3 := by rw [hw3]; exact (Below.refl _ _).alloc (Nat.le_refl _) _
      have S3 : Hid (WS w3 w2.heap.size s 0 x.size 0 0) := Lib.hid ⟨by rw [hw3]; exact heap_alloc_new w2 _, hxs⟩
      have B3 := Lib.hid (B2.out.trans (b3.mono B2.out.size))
      have M3 := Lib.hid (M2.out.on b3)
      have E3 := Lib.hid (E2.out.on b3)
      rw [← hw3]
      clear b3 hw3 B2 M2 E2
      have C := Lib.hid (FN.out w3 w2.heap.size 0 x.size 0 0 S3.out E3.out (by omega))
      clear FN
      have cf := CF.out #[.pointer (some ⟨w2.heap.size, 0, none⟩)] w3
      clear CF
      go_wp2_with fail
      clear cf
      refine C.out.mono ?_
      rintro e w4 ⟨cs, st', en', a, er', rfl, hcl, h4, f4, hlaw⟩
      have CL := Lib.hid hcl
      have M4 := Lib.hid (M3.out.fr f4 (by omega))
      have B4 := Lib.hid (B3.out.trans (f4.below B3.out.size (by omega)))
      obtain ⟨ST, W5, f5⟩ := M4.out.storeAll hcl
      obtain ⟨w5, hw5⟩ : ∃ w5, w5 = w4.setRow w.heap.size cs := ⟨_, rfl⟩
      rw [← hw5] at ST W5 f5
      have ST := Lib.hid ST
      have M5 : Hid (MB w5 w.heap.size) := Lib.hid ⟨cs, W5, hcl⟩
      have S5 := Lib.hid (h4.fr f5 (by omega))
      have B5 := Lib.hid (B4.out.trans (f5.below B4.out.size (Nat.le_refl _)))
      have LAW : Hid (fe er' (fin ((bs s).drop en')) = cmdF (bs s)) := Lib.hid (by rw [hlaw, F1.out]; rfl)
      clear hcl h4 f4 hlaw C B3 M3 E3 S3 W5 f5 hw5 M4 B4
      have hc2 : w5.cell? ⟨w2.heap.size, 2, none⟩ = some (.int .i64 (en' : Int)) := cell_of_row w5 w2.heap.size 2 _ _ _ S5.out.1
      have hen' := S5.out.2
      have LEN := Lib.hid (bs_length s)
      by_cases hen : en' < s.size
      · have FL := Lib.hid (fail_any w5 w2.heap.size s st' en' a er' S5.out (en' : Int) 5)
        have L5 : Hid (fe er' 5 = cmdF (bs s)) := Lib.hid (by
          have := LAW.out
          have h5 : fin ((bs s).drop en') = 5 := by unfold fin; rw [if_neg (by rw [List.drop_eq_nil_iff, LEN.out]; omega)]
          rw [h5] at this; exact this)
        go_wp2_with ((with_reducible refine wpList_store 152 rfl _ _ rfl ?_); refine ⟨_, _, _, rfl, rfl, ST.out, ?_⟩)
        refine FL.out.mono ?_
        rintro e w6 ⟨⟨v6, rfl⟩, ⟨a6, h6⟩, f6⟩
        have M6 := Lib.hid (M5.out.fr f6 (by omega))
        have B6 := Lib.hid (B5.out.trans (f6.below B5.out.size (by omega)))
        obtain ⟨er6, her6⟩ : ∃ er6, er6 = fe er' 5 := ⟨_, rfl⟩
        rw [← her6] at h6
        have S6 := Lib.hid h6
        have LAW6 : Hid (er6 = cmdF (bs s)) := Lib.hid (by rw [her6]; exact L5.out)
        clear h6 f6 her6 FL L5 LAW hen hc2 M5 B5 S5 ST
        have hc4 : w6.cell? ⟨w2.heap.size, 4, none⟩ = some (.int .i64 (er6 : Int)) := cell_of_row w6 w2.heap.size 4 _ _ _ S6.out.1
        have hc3 : w6.cell? ⟨w2.heap.size, 3, none⟩ = some (.int .i64 a6) := cell_of_row w6 w2.heap.size 3 _ _ _ S6.out.1
        by_cases e0 : er6 = 0
        · have q : ((er6 : Int) != 0) = false := by rw [e0]; rfl
          have L0 : Hid (cmdF (bs s) = 0) := Lib.hid (by rw [← LAW6.out, e0])
          obtain ⟨c6, hp6, hcl6⟩ := M6.out
          obtain ⟨ST6, W7, f7⟩ := M6.out.storeAll hcl6
          have ST6 := Lib.hid ST6; have W7 := Lib.hid W7
          have LD := Lib.hid (run_load_cl w6 w.heap.size 56 _ _ c6 _ _ hp6 rfl Tryz.underlying152 size_cmd hcl6.1)
          have CL6 := Lib.hid hcl6
          have B7 := Lib.hid (B6.out.trans (f7.below B6.out.size (Nat.le_refl _)))
          clear e0 hp6 hcl6 f7 LAW6
          go_upto_region 13 with fail
          refine wp_region_list ?_
          simp only []
          refine wpList_load 152 rfl _ rfl ⟨_, _, rfl, LD.out, ?_⟩
          go_wp2_with ((with_reducible refine wpList_store 152 rfl _ _ rfl ?_); refine ⟨_, _, _, rfl, rfl, ST6.out, ?_⟩)
          exact bodyPost_ret (results_cell_tmp2 Tryz.results103 _ _ w.heap.size _ _ _ _ rfl W7.out Tryz.underlying152 rfl (by rw [CL6.out.1]; exact size_cmd)) rfl ⟨c6, 0, by rw [L0.out]; rfl, CL6.out, B7.out⟩
        · have q : ((er6 : Int) != 0) = true := int_neq (by omega)
          clear e0
          go_upto_region 12 with fail
          have M7 := Lib.hid (M6.out.on (Dr.below ⟨1, rfl⟩ : Below w6.heap.size w6 w6.drew))
          have B7 := Lib.hid (B6.out.trans ((Dr.below ⟨1, rfl⟩ : Below w6.heap.size w6 w6.drew).mono B6.out.size))
          have c3' : w6.drew.cell? ⟨w2.heap.size, 3, none⟩ = some (.int .i64 a6) := hc3
          have c4' : w6.drew.cell? ⟨w2.heap.size, 4, none⟩ = some (.int .i64 (er6 : Int)) := hc4
          obtain ⟨ST7, W8, f8⟩ := M7.out.storeAll ZCL.out
          have HS : S34 w2.heap.size a6 er6 w6.drew := ⟨c3', c4'⟩
          have HS8 : S34 w2.heap.size a6 er6 (w6.drew.setRow w.heap.size zs) := by
            have ho : (w6.drew.setRow w.heap.size zs).heap[w2.heap.size]? = w6.drew.heap[w2.heap.size]? := f8.other _ S6.out.lt (by omega)
            exact ⟨by rw [← c3']; unfold World.cell?; simp only [ho], by rw [← c4']; unfold World.cell?; simp only [ho]⟩
          have B8 := Lib.hid (B7.out.trans (f8.below B7.out.size (Nat.le_refl _)))
          obtain ⟨w8, hw8⟩ : ∃ w8, w8 = w6.drew.setRow w.heap.size zs := ⟨_, rfl⟩
          rw [← hw8] at ST7 W8 HS8 B8
          refine wp_region_held (S := S34 w2.heap.size a6 er6) (by kernel_rfl) ?_
          change wpAnyH _ _ _ _ _ _ _ _ w6.drew
          refine takeV 0 (.agg zs) rfl (fun w' hw' => exec_build (ps := #[]) rfl (by simpa using BK.out w')) HS ?_
          refine takeV 1 (.pointer (some ⟨w2.heap.size, 0, none⟩)) rfl (fun w' hw' => by obtain ⟨c3, c4⟩ := hw'; go_simp) HS ?_
          refine takeV 2 (.pointer (some ⟨w2.heap.size, 0, none⟩)) rfl (fun w' hw' => by obtain ⟨c3, c4⟩ := hw'; go_simp) HS ?_
          refine takeV 3 (.pointer (some ⟨w2.heap.size, 3, none⟩)) rfl (fun w' hw' => by obtain ⟨c3, c4⟩ := hw'; go_simp) HS ?_
          refine takeV 4 (.int .i64 a6) rfl (fun w' hw' => by obtain ⟨c3, c4⟩ := hw'; go_simp) HS ?_
          refine takeV 5 (.pointer (some ⟨w2.heap.size, 0, none⟩)) rfl (fun w' hw' => by obtain ⟨c3, c4⟩ := hw'; go_simp) HS ?_
          refine takeV 6 (.pointer (some ⟨w2.heap.size, 0, none⟩)) rfl (fun w' hw' => by obtain ⟨c3, c4⟩ := hw'; go_simp) HS ?_
          refine takeV 7 (.pointer (some ⟨w2.heap.size, 4, none⟩)) rfl (fun w' hw' => by obtain ⟨c3, c4⟩ := hw'; go_simp) HS ?_
          refine takeV 8 (.int .i64 (er6 : Int)) rfl (fun w' hw' => by obtain ⟨c3, c4⟩ := hw'; go_simp) HS ?_
          refine anyH_stepS (i := 9) (by kernel_rfl) rfl rfl (exec_store (t := 152) (x := .tmp 2) (y := .tmp 56) (ad := ⟨w.heap.size, 0, none⟩) (u := .agg zs) rfl (by kernel_rfl) (by kernel_rfl) ST7) HS8 ?_
          refine anyH_step (i := 10) (v := .int .i64 a6) (by kernel_rfl) rfl rfl (exec_assignV (x := .tmp 60) rfl (by kernel_rfl)) HS8 ?_
          refine anyH_step (i := 11) (v := .int .i64 (er6 : Int)) (by kernel_rfl) rfl rfl (exec_assignV (x := .tmp 64) rfl (by kernel_rfl)) HS8 ?_
          refine wpAnyH_done (by kernel_rfl) ?_ _
          have W8 := Lib.hid W8
          clear HS HS8 c3' c4' ST7 f8 hw8 hc3 hc4
          go_simp
          refine ‹∀ (a : Act) (w_1 : World), Code.wp _ _ _ a w_1 → _› _ _ ?_
          go_wp2_with fail
          exact bodyPost_ret (results_cell_tmp2 Tryz.results103 _ _ w.heap.size _ _ _ _ rfl W8.out Tryz.underlying152 rfl (by rw [ZCL.out.1]; exact size_cmd)) rfl ⟨zs, a6, by rw [← LAW6.out]; rfl, ZCL.out, B8.out⟩
      · have L0' : Hid (er' = cmdF (bs s)) := Lib.hid (by
          have := LAW.out
          have h5 : fin ((bs s).drop en') = 0 := by unfold fin; rw [if_pos (by rw [List.drop_eq_nil_iff, LEN.out]; omega)]
          rw [h5, fe_z0] at this; exact this)
        go_upto_region 11 with ((with_reducible refine wpList_store 152 rfl _ _ rfl ?_); refine ⟨_, _, _, rfl, rfl, ST.out, ?_⟩)
        obtain ⟨w6, hw6⟩ : ∃ w6, w6 = w5 := ⟨_, rfl⟩
        obtain ⟨er6, her6⟩ : ∃ er6, er6 = er' := ⟨_, rfl⟩
        obtain ⟨a6, ha6⟩ : ∃ a6, a6 = a := ⟨_, rfl⟩
        rw [← hw6, ← her6, ← ha6] at S5
        rw [← hw6] at M5 B5 ⊢
        rw [← her6] at L0'
        have S6 := S5; have M6 := M5; have B6 := B5; have LAW6 := L0'
        clear S5 M5 B5 L0' LAW hen hc2 hw6 her6 ha6 ST
        have hc4 : w6.cell? ⟨w2.heap.size, 4, none⟩ = some (.int .i64 (er6 : Int)) := cell_of_row w6 w2.heap.size 4 _ _ _ S6.out.1
        have hc3 : w6.cell? ⟨w2.heap.size, 3, none⟩ = some (.int .i64 a6) := cell_of_row w6 w2.heap.size 3 _ _ _ S6.out.1
        by_cases e0 : er6 = 0
        · have q : ((er6 : Int) != 0) = false := by rw [e0]; rfl
          have L0 : Hid (cmdF (bs s) = 0) := Lib.hid (by rw [← LAW6.out, e0])
          obtain ⟨c6, hp6, hcl6⟩ := M6.out
          obtain ⟨ST6, W7, f7⟩ := M6.out.storeAll hcl6
          have ST6 := Lib.hid ST6; have W7 := Lib.hid W7
          have LD := Lib.hid (run_load_cl w6 w.heap.size 56 _ _ c6 _ _ hp6 rfl Tryz.underlying152 size_cmd hcl6.1)
          have CL6 := Lib.hid hcl6
          have B7 := Lib.hid (B6.out.trans (f7.below B6.out.size (Nat.le_refl _)))
          clear e0 hp6 hcl6 f7 LAW6
          go_upto_region 13 with fail
          refine wp_region_list ?_
          simp only []
          refine wpList_load 152 rfl _ rfl ⟨_, _, rfl, LD.out, ?_⟩
          go_wp2_with ((with_reducible refine wpList_store 152 rfl _ _ rfl ?_); refine ⟨_, _, _, rfl, rfl, ST6.out, ?_⟩)
          exact bodyPost_ret (results_cell_tmp2 Tryz.results103 _ _ w.heap.size _ _ _ _ rfl W7.out Tryz.underlying152 rfl (by rw [CL6.out.1]; exact size_cmd)) rfl ⟨c6, 0, by rw [L0.out]; rfl, CL6.out, B7.out⟩
        · have q : ((er6 : Int) != 0) = true := int_neq (by omega)
          clear e0
          go_upto_region 12 with fail
          have M7 := Lib.hid (M6.out.on (Dr.below ⟨1, rfl⟩ : Below w6.heap.size w6 w6.drew))
          have B7 := Lib.hid (B6.out.trans ((Dr.below ⟨1, rfl⟩ : Below w6.heap.size w6 w6.drew).mono B6.out.size))
          have c3' : w6.drew.cell? ⟨w2.heap.size, 3, none⟩ = some (.int .i64 a6) := hc3
          have c4' : w6.drew.cell? ⟨w2.heap.size, 4, none⟩ = some (.int .i64 (er6 : Int)) := hc4
          obtain ⟨ST7, W8, f8⟩ := M7.out.storeAll ZCL.out
          have HS : S34 w2.heap.size a6 er6 w6.drew := ⟨c3', c4'⟩
          have HS8 : S34 w2.heap.size a6 er6 (w6.drew.setRow w.heap.size zs) := by
            have ho : (w6.drew.setRow w.heap.size zs).heap[w2.heap.size]? = w6.drew.heap[w2.heap.size]? := f8.other _ S6.out.lt (by omega)
            exact ⟨by rw [← c3']; unfold World.cell?; simp only [ho], by rw [← c4']; unfold World.cell?; simp only [ho]⟩
          have B8 := Lib.hid (B7.out.trans (f8.below B7.out.size (Nat.le_refl _)))
          obtain ⟨w8, hw8⟩ : ∃ w8, w8 = w6.drew.setRow w.heap.size zs := ⟨_, rfl⟩
          rw [← hw8] at ST7 W8 HS8 B8
          refine wp_region_held (S := S34 w2.heap.size a6 er6) (by kernel_rfl) ?_
          change wpAnyH _ _ _ _ _ _ _ _ w6.drew
          refine takeV 0 (.agg zs) rfl (fun w' hw' => exec_build (ps := #[]) rfl (by simpa using BK.out w')) HS ?_
          refine takeV 1 (.pointer (some ⟨w2.heap.size, 0, none⟩)) rfl (fun w' hw' => by obtain ⟨c3, c4⟩ := hw'; go_simp) HS ?_
          refine takeV 2 (.pointer (some ⟨w2.heap.size, 0, none⟩)) rfl (fun w' hw' => by obtain ⟨c3, c4⟩ := hw'; go_simp) HS ?_
          refine takeV 3 (.pointer (some ⟨w2.heap.size, 3, none⟩)) rfl (fun w' hw' => by obtain ⟨c3, c4⟩ := hw'; go_simp) HS ?_
          refine takeV 4 (.int .i64 a6) rfl (fun w' hw' => by obtain ⟨c3, c4⟩ := hw'; go_simp) HS ?_
          refine takeV 5 (.pointer (some ⟨w2.heap.size, 0, none⟩)) rfl (fun w' hw' => by obtain ⟨c3, c4⟩ := hw'; go_simp) HS ?_
          refine takeV 6 (.pointer (some ⟨w2.heap.size, 0, none⟩)) rfl (fun w' hw' => by obtain ⟨c3, c4⟩ := hw'; go_simp) HS ?_
          refine takeV 7 (.pointer (some ⟨w2.heap.size, 4, none⟩)) rfl (fun w' hw' => by obtain ⟨c3, c4⟩ := hw'; go_simp) HS ?_
          refine takeV 8 (.int .i64 (er6 : Int)) rfl (fun w' hw' => by obtain ⟨c3, c4⟩ := hw'; go_simp) HS ?_
          refine anyH_stepS (i := 9) (by kernel_rfl) rfl rfl (exec_store (t := 152) (x := .tmp 2) (y := .tmp 56) (ad := ⟨w.heap.size, 0, none⟩) (u := .agg zs) rfl (by kernel_rfl) (by kernel_rfl) ST7) HS8 ?_
          refine anyH_step (i := 10) (v := .int .i64 a6) (by kernel_rfl) rfl rfl (exec_assignV (x := .tmp 60) rfl (by kernel_rfl)) HS8 ?_
          refine anyH_step (i := 11) (v := .int .i64 (er6 : Int)) (by kernel_rfl) rfl rfl (exec_assignV (x := .tmp 64) rfl (by kernel_rfl)) HS8 ?_
          refine wpAnyH_done (by kernel_rfl) ?_ _
          have W8 := Lib.hid W8
          clear HS HS8 c3' c4' ST7 f8 hw8 hc3 hc4
          go_simp
          refine ‹∀ (a : Act) (w_1 : World), Code.wp _ _ _ a w_1 → _› _ _ ?_
          go_wp2_with fail
          exact bodyPost_ret (results_cell_tmp2 Tryz.results103 _ _ w.heap.size _ _ _ _ rfl W8.out Tryz.underlying152 rfl (by rw [ZCL.out.1]; exact size_cmd)) rfl ⟨zs, a6, by rw [← LAW6.out]; rfl, ZCL.out, B8.out⟩
    · have hno : ∀ k < 5, x ≠ kN k := fun k hk5 e => hk ⟨k, hk5, e⟩
      have LK := mf_miss hm x (fun p hp => by
        obtain ⟨j, hj, rfl⟩ := (hlm p).1 hp
        exact ne_of_bs (hno j hj))
      have F1 : Hid (cmdF (bs s) = 11) := Lib.hid (by rw [F0.out, cmdK_none hno])
      obtain ⟨ST, W3, f3⟩ := M2.out.storeAll ZCL.out
      have ST := Lib.hid ST; have W3 := Lib.hid W3
      have B3 := Lib.hid (B2.out.trans (f3.below B2.out.size (Nat.le_refl _)))
      clear hm hlm hk hno F0 f3
      go_upto_region 6 with fail
      clear LK
      refine wp_region_list ?_
      simp only []
      refine wpList_build0 152 rfl rfl ⟨_, BK.out _, ?_⟩
      go_wp2_with ((with_reducible refine wpList_store 152 rfl _ _ rfl ?_); refine ⟨_, _, _, rfl, rfl, ST.out, ?_⟩)
      exact bodyPost_ret (results_cell_tmp2 Tryz.results103 _ _ w.heap.size _ _ _ _ rfl W3.out Tryz.underlying152 rfl (by rw [ZCL.out.1]; exact size_cmd)) rfl ⟨zs, 0, by rw [F1.out]; rfl, ZCL.out, B3.out⟩
end Go.Proofs.YtohmdledkhgdaaaGreatDoor
/- canonical.keyText; a content in a block. -/
namespace Go.Proofs.YtohmdledkhgdaaaGreatDoor
open Go.RowKit
set_option linter.unusedVariables false
set_option maxRecDepth 100000
/-- A content in block b. -/
def CB (w : World) (b : Nat) (c : Cn) (gv rv : Value) (T : TypeId) : Prop := w.heap[b]? = some (.cells (c.cells gv rv) T (0, 0))
theorem CB.on {w w' : World} {b : Nat} {c : Cn} {gv rv : Value} {T : TypeId} (h : CB w b c gv rv T) (hb : Below w.heap.size w w') : CB w' b c gv rv T := (hb.block b (lt_of_block h)).trans h
theorem CB.new (w : World) (c : Cn) (gv rv : Value) (T : TypeId) : CB (w.alloc (.cells (c.cells gv rv) T)) w.heap.size c gv rv T := heap_alloc_last w _
theorem CB.lt {w : World} {b : Nat} {c : Cn} {gv rv : Value} {T : TypeId} (h : CB w b c gv rv T) : b < w.heap.size := lt_of_block h
section
variable {w : World} {b : Nat} {c : Cn} {gv rv : Value} {T : TypeId} (h : CB w b c gv rv T)
include h
theorem CB.at {j : Nat} {u : Value} (hu : (c.cells gv rv)[j]? = some u) : w.cell? ⟨b, j, none⟩ = some u := by rw [cell_of_row w b j _ _ _ h]; exact hu
theorem CB.part (off : Nat) {ids : Array Value} (hp : ∀ j u, ids[j]? = some u → (c.cells gv rv)[off + j]? = some u) : ∀ j u, ids[j]? = some u → w.cell? ⟨b, off + j, none⟩ = some u := fun j u hu => by rw [cell_of_row w b (off + j) _ _ _ h]; exact hp j u hu
theorem CB.pk (hc : c.Ok) : (loadVar 35 ⟨b, 56, none⟩).run Tryz.prog w = .ok (.agg (pkC c.height c.root)) w := load_pk w b 56 hc.root.len (h.part 56 (cn_public hc gv rv))
theorem CB.sup (hc : c.Ok) : (loadVar 26 ⟨b, 21, none⟩).run Tryz.prog w = .ok (.agg (idA c.sup)) w := run_loadVar_cells w b 21 26 _ _ Tryz.underlying26 rfl (by rw [idA_size, hc.sup.len]; exact size23) (h.part 21 (cn_sup hc gv rv))
theorem CB.author (hc : c.Ok) : (loadVar 33 ⟨b, 1, none⟩).run Tryz.prog w = .ok (.agg (idA c.author)) w := run_loadVar_cells w b 1 33 _ _ Tryz.underlying33 rfl (by rw [idA_size, hc.author.len]; exact size_author) (h.part 1 (cn_author c gv rv))
end
theorem size_cn : (Tryz.prog.info? 37).map (·.size) = some 75 := by kernel_rfl
theorem CB.all {w : World} {b : Nat} {c : Cn} {gv rv : Value} {T : TypeId} (h : CB w b c gv rv T) (hc : c.Ok) : (loadVar 37 ⟨b, 0, none⟩).run Tryz.prog w = .ok (.agg (c.cells gv rv)) w :=
  run_loadVar_cells w b 0 37 _ _ Tryz.underlying37 rfl (by rw [cn_size hc]; exact size_cn) (cells_self w b T _ _ h)
theorem i64_of {n : Int} (h : (Lit.int .i64 n).wf = true) : -9223372036854775808 ≤ n ∧ n ≤ 9223372036854775807 := by
  simp [Lit.wf, IntKind.min, IntKind.max, IntKind.signed, IntKind.bits] at h
  omega
/-- What keyText returns. -/
def KtPost (c : Cn) (w : World) (e : Ending) (w' : World) : Prop :=
  ∃ t : ByteArray, e = .returned (.tuple #[.string t, .int .i64 (eIf (!heightB c.height) 2 : Nat)]) ∧ (heightB c.height = true → bs t = keyF c.p) ∧ t.size ≤ 2000 ∧ Below w.heap.size w w'
theorem bs_app (a b : ByteArray) : bs (a ++ b) = bs a ++ bs b := by
  simp [bs, ByteArray.data_append]
set_option maxHeartbeats 1000000 in
theorem ktext_any (w : World) (c : Cn) (hc : c.Ok) (gv rv : Value) (hE : Env w) :
    Calls Tryz.prog 54 #[.agg (c.cells gv rv)] w (KtPost c w) := by
  have C0 := CB.new w c gv rv 37
  have B0 : Hid (Below w.heap.size w (w.alloc (.cells (c.cells gv rv) 37))) := Lib.hid ((Below.refl _ _).alloc (Nat.le_refl _) _)
  have LD := Lib.hid (C0.pk hc)
  have PT := Lib.hid (ptext_any (w.alloc (.cells (c.cells gv rv) 37)) c.height hc.root (hE.on B0.out))
  have NUM : Hid (∀ w', Below (w.alloc (.cells (c.cells gv rv) 37)).heap.size (w.alloc (.cells (c.cells gv rv) 37)) w' → w'.cell? ⟨w.heap.size, 55, none⟩ = some (.int .i64 c.number)) := Lib.hid (fun w' hb => (C0.on hb).at (cn_55 hc gv rv))
  have DG : Hid (∀ w', Env w' → Calls Tryz.prog 56 #[.int .i64 c.number] w' (DgPost c.number w')) := Lib.hid (fun w' he => digNs_any c.number (i64_of hc.number).1 (i64_of hc.number).2 w' he)
  have HE := Lib.hid hE
  have KF : Hid (keyF c.p = digI c.number ++ 32 :: encF ((c.height % 256).toNat :: c.root)) := Lib.hid rfl
  obtain ⟨cs, hcs⟩ : ∃ cs, cs = c.cells gv rv := ⟨_, rfl⟩
  rw [← hcs] at B0 LD PT NUM ⊢
  obtain ⟨pk, hpk⟩ : ∃ pk, pk = pkC c.height c.root := ⟨_, rfl⟩
  rw [← hpk] at LD PT
  clear hcs hpk C0 hE hc
  go_enter Tryz.func54, Tryz.ntmps54
  go_wp2_with ((with_reducible refine wpList_load 35 rfl _ rfl ?_); refine ⟨_, _, rfl, LD.out, ?_⟩)
  refine PT.out.mono ?_
  rintro e w1 ⟨t, rfl, ht, hts, hb1⟩
  have B1 := Lib.hid (B0.out.trans (hb1.mono B0.out.size))
  have num := NUM.out w1 hb1
  have D1 := Lib.hid (DG.out w1 (HE.out.on B1.out))
  have HT := Lib.hid ht
  clear hb1 PT LD NUM DG ht
  go_wp2_with fail
  refine D1.out.mono ?_
  rintro e w2 ⟨d, rfl, hd, hds, hb2⟩
  have B2 := Lib.hid (B1.out.trans (hb2.mono B1.out.size))
  have HD := Lib.hid hd
  have z1 : (d ++ (⟨#[32]⟩ : ByteArray)).size ≤ 22 := by rw [ByteArray.size_append]; show d.size + 1 ≤ 22; omega
  have z2 : (d ++ (⟨#[32]⟩ : ByteArray) ++ t).size ≤ 2000 := by rw [ByteArray.size_append]; omega
  have Z2 := Lib.hid z2
  clear hb2 D1 num hd z2
  go_wp2_with fail
  go_ret2
  exact ⟨_, rfl, (fun h => by rw [bs_app, bs_app, HD.out, HT.out h, KF.out]; simp [bs]), Z2.out, B2.out⟩
end Go.Proofs.YtohmdledkhgdaaaGreatDoor
/- canonical: checker.control. -/
namespace Go.Proofs.YtohmdledkhgdaaaGreatDoor
open Go.RowKit
set_option linter.unusedVariables false
set_option maxRecDepth 100000
theorem Fr1.env {b : Nat} {w w' : World} (h : Fr1 b w w') (hE : Env w) (h9 : 9 ≤ b) : Env w' := fr_env hE h9 h
theorem CB.fr {w w' : World} {b p : Nat} {c : Cn} {gv rv : Value} {T : TypeId} (h : CB w p c gv rv T) (hf : Fr1 b w w') (hne : p ≠ b) : CB w' p c gv rv T := (hf.other p (lt_of_block h) hne).trans h
theorem Fr1.on {b : Nat} {w0 w w' : World} (h : Below w0.heap.size w0 w) (h' : Fr1 b w w') : Fr1 b w0 w' := (Fr1.of_below h).trans h'
set_option maxHeartbeats 2000000 in
theorem cctl_any (w : World) (b n : Nat) (h : Ck w b n) (c : Cn) (hc : c.Ok) (gv rv : Value) (hs : c.ctl.size ≤ 1000000) (hE : Env w) (h9 : 9 ≤ b) :
    Calls Tryz.prog 61 #[.pointer (some ⟨b, 0, none⟩), .agg (c.cells gv rv)] w (ChkPost w b (fe n (ctlF c.p))) := by
  have hbw := h.lt
  have B0 : Below w.heap.size w (w.alloc (.cells (c.cells gv rv) 37)) := (Below.refl _ _).alloc (Nat.le_refl _) _
  have C0 := CB.new w c gv rv 37
  obtain ⟨w0, hw0⟩ : ∃ w0, w0 = w.alloc (.cells (c.cells gv rv) 37) := ⟨_, rfl⟩
  rw [← hw0] at B0 C0
  have H0 := Lib.hid (h.below B0)
  have E0 := Lib.hid (hE.on B0)
  have F0 : Hid (Fr1 b w w0) := Lib.hid (Fr1.of_below B0)
  have HC0 := Lib.hid C0
  have HCO := Lib.hid hc
  have CTL : Hid (∀ w', CB w' w.heap.size c gv rv 37 → w'.cell? ⟨w.heap.size, 53, none⟩ = some (.string c.ctl)) := Lib.hid (fun w' h => h.at (cn_53 hc gv rv))
  have LAW : Hid (ctlF c.p = if bs c.ctl = [] then 0 else fe (eIf (!sqz (bs c.ctl)) 3) (fe (cmdF (bs c.ctl)) (eIf (!decide (c.sup = zero32)) 11))) := Lib.hid rfl
  have hne : w.heap.size ≠ b := by omega
  have HNE := Lib.hid hne
  have hct := CTL.out w0 C0
  obtain ⟨t, ht⟩ : ∃ t, t = c.ctl := ⟨_, rfl⟩
  rw [← ht] at CTL LAW hct hs
  obtain ⟨cs, hcs⟩ : ∃ cs, cs = c.cells gv rv := ⟨_, rfl⟩
  rw [← hcs] at hw0 ⊢
  have HW := Lib.hid hw0
  clear ht hcs h B0 C0 hE hc hne hw0
  by_cases h0 : t.size = 0
  · obtain rfl := str_emp h0
    have L : Hid (fe n (ctlF c.p) = n) := Lib.hid (by rw [LAW.out, if_pos (show bs ⟨#[]⟩ = [] from rfl), fe_z0])
    clear LAW h0
    go_enter Tryz.func61, Tryz.ntmps61
    go_upto_region 1 with fail
    rw [← HW.out]
    go_wp2_with fail
    go_end0
    exact ⟨⟨_, rfl⟩, by rw [L.out]; exact H0.out, F0.out⟩
  · have n0 := str_ne h0
    have L : Hid (fe n (ctlF c.p) = fe (fe (fe n (eIf (!sqz (bs t)) 3)) (cmdF (bs t))) (eIf (!decide (c.sup = zero32)) 11)) := Lib.hid (by
      rw [LAW.out, if_neg (fun e => h0 (by rw [← bs_length, e]; rfl)), fe_assoc, fe_assoc])
    have Q := Lib.hid (sqz_any t w0 hs E0.out)
    have W1 := Lib.hid (when_any w0 b n H0.out (!sqz (bs t)) 3)
    obtain ⟨q, hq⟩ : ∃ q, q = sqz (bs t) := ⟨_, rfl⟩
    rw [← hq] at Q W1 L
    clear hq LAW h0
    go_enter Tryz.func61, Tryz.ntmps61
    go_upto_region 1 with fail
    rw [← HW.out]
    clear HW
    go_wp2_with (go_at_call 101; refine Q.out.mono ?_; rintro e w' ⟨rfl, rfl⟩)
    refine W1.out.mono ?_
    rintro e w1 ⟨⟨v, rfl⟩, h1, f1⟩
    have H1 := Lib.hid h1; have F1 := Lib.hid (F0.out.trans f1)
    have C1 := Lib.hid (HC0.out.fr f1 HNE.out)
    have E1 := Lib.hid (f1.env E0.out h9)
    clear Q W1 h1 f1 H0 F0 HC0 E0 hct n0
    have hct := CTL.out w1 C1.out
    have P := Lib.hid (cparse_any t w1 hs E1.out)
    obtain ⟨m, hm⟩ : ∃ m, m = cmdF (bs t) := ⟨_, rfl⟩
    unfold CpPost at P
    rw [← hm] at P L
    clear hm
    go_wp2_with fail
    refine P.out.mono ?_
    rintro e w2 ⟨ds, a, rfl, hcl, hb2⟩
    have CL := Lib.hid hcl
    have STN : Hid (∀ zz : Array Value, zz.size = 56 → (storeVar 152 ⟨w2.heap.size, 0, none⟩ (.agg ds)).run Tryz.prog (w2.alloc (.cells zz 152)) = .ok () (w2.alloc (.cells ds 152))) := Lib.hid (fun zz hz =>
      run_storeVar_new w2 152 zz ds (by rw [CL.out.1]; exact size_cmd) (by rw [hz, CL.out.1]) CL.out.2)
    have b3 : Below w1.heap.size w1 (w2.alloc (.cells ds 152)) := hb2.alloc hb2.size _
    obtain ⟨w3, hw3⟩ : ∃ w3, w3 = w2.alloc (.cells ds 152) := ⟨_, rfl⟩
    rw [← hw3] at b3 STN
    have H3 := H1.out.below b3
    have F3 := Lib.hid (F1.out.trans (Fr1.of_below b3))
    have C3 := Lib.hid (C1.out.on b3)
    have E3 := Lib.hid (E1.out.on b3)
    have TK := Lib.hid (take_any w3 b _ H3 m)
    clear hcl hb2 b3 hw3 P H1 F1 C1 E1 hct H3
    go_wp2_with ((with_reducible refine wpList_store 152 rfl _ _ rfl ?_); refine ⟨_, _, _, rfl, rfl, STN.out _ rfl, ?_⟩)
    refine TK.out.mono ?_
    rintro e w4 ⟨⟨v, rfl⟩, h4, f4⟩
    have H4 := Lib.hid h4; have F4 := Lib.hid (F3.out.trans f4)
    have c4 := C3.out.fr f4 HNE.out
    have LD := Lib.hid (c4.sup HCO.out)
    have Z := Lib.hid (iszero_any w4 HCO.out.sup)
    obtain ⟨z, hz⟩ : ∃ z, z = decide (c.sup = zero32) := ⟨_, rfl⟩
    rw [← hz] at Z L
    clear hz TK h4 f4 STN CL c4
    go_upto_region 5 with fail
    go_wp2_with ((with_reducible refine wpList_load 26 rfl _ rfl ?_); refine ⟨_, _, rfl, LD.out, ?_⟩)
    refine Z.out.mono ?_
    rintro e w5 ⟨rfl, hb5⟩
    have W5 := Lib.hid (when_any w5 b _ (H4.out.below hb5) (!z) 11)
    have F5 := Lib.hid (F4.out.trans (Fr1.of_below hb5))
    clear hb5 Z LD
    go_wp2_with fail
    refine W5.out.mono ?_
    rintro e w6 ⟨⟨v, rfl⟩, h6, f6⟩
    have H6 := Lib.hid h6; have F6 := Lib.hid (F5.out.trans f6)
    clear h6 f6 W5
    go_wp2_with fail
    go_end0
    exact ⟨⟨_, rfl⟩, by rw [L.out]; exact H6.out, F6.out⟩
end Go.Proofs.YtohmdledkhgdaaaGreatDoor
