/- The commands' forms: forms$1, forms$2. -/
import Derived.Test.YtohmdledkhgdaaaGreatDoorLo15
import Derived.DeepKeys3
namespace Go.Proofs.YtohmdledkhgdaaaGreatDoor
open Go.RowKit
set_option linter.unusedVariables false
set_option maxRecDepth 100000
theorem size_cmd : (Tryz.prog.info? 152).map (·.size) = some 56 := by kernel_rfl
/-- A command of which the kind and the target are known. -/
def cmdA (k : Int) (l : List Value) : Array Value := (([Value.int .i64 k] : List Value) ++ l ++ ([.string ⟨#[]⟩, .int .i64 0, .bool false, .slice none 0 0, .string ⟨#[]⟩, .int .i64 0, .int .i64 0] : List Value) ++ List.replicate 16 (Value.int .u8 0)).toArray
def z32c : List Value := List.replicate 32 (.int .u8 0)
theorem build_cmdA (w : World) (k : Int) : ∀ (l : List Value), l.length = 32 → (Instr.build 152 #[(0, .int .i64 k), (1, .agg l.toArray)]).run Tryz.prog w = .ok (.agg (cmdA k l)) w
  | [v0, v1, v2, v3, v4, v5, v6, v7, v8, v9, v10, v11, v12, v13, v14, v15, v16, v17, v18, v19, v20, v21, v22, v23, v24, v25, v26, v27, v28, v29, v30, v31], _ => by kernel_rfl
theorem build_cmdK (w : World) (k : Int) : (Instr.build 152 #[(0, .int .i64 k)]).run Tryz.prog w = .ok (.agg (cmdA k z32c)) w := by kernel_rfl
theorem cl_cmdA (k : Int) (l : List Value) (h : l.length = 32) (h1 : ∀ v ∈ l, v.oneCell' = true) : Cl 56 (cmdA k l) := ⟨by simp [cmdA, h], by
  rw [Array.all_eq_true']
  intro x hx
  unfold cmdA at hx
  rw [List.mem_toArray, List.mem_append, List.mem_append, List.mem_append] at hx
  rcases hx with ((hx | hx) | hx) | hx
  · rw [List.mem_singleton] at hx; rw [hx]; rfl
  · exact h1 x hx
  · simp only [List.mem_cons] at hx
    rcases hx with rfl | rfl | rfl | rfl | rfl | rfl | rfl | hx <;> first | rfl | cases hx
  · rw [List.mem_replicate] at hx; rw [hx.2]; rfl⟩
theorem cl_mem {n : Nat} {cs : Array Value} (h : Cl n cs) : ∀ v ∈ cs.toList, v.oneCell' = true := fun v hv => (Array.all_eq_true'.1 h.2) v (by simpa using hv)
theorem cl_z32c : ∀ v ∈ z32c, v.oneCell' = true := fun v hv => by unfold z32c at hv; rw [List.mem_replicate] at hv; rw [hv.2]; rfl
/-- A command in block p. -/
def MB (w : World) (p : Nat) : Prop := ∃ cs, w.heap[p]? = some (.cells cs 152 (0, 0)) ∧ Cl 56 cs
theorem MB.lt {w : World} {p : Nat} (h : MB w p) : p < w.heap.size := by obtain ⟨cs, h, _⟩ := h; exact lt_of_block h
theorem MB.setCell {w : World} {p : Nat} (h : MB w p) (j : Nat) {u : Value} (hu : u.oneCell' = true) : MB (w.setCell ⟨p, j, none⟩ u) p := by
  obtain ⟨cs, h1, h2, h3⟩ := h
  refine ⟨_, setB h1 j u, by simpa using h2, ?_⟩
  rw [Array.all_eq_true'] at h3 ⊢
  intro x hx
  rw [Array.mem_iff_getElem] at hx
  obtain ⟨i, hi, rfl⟩ := hx
  rw [Array.getElem_setIfInBounds (by simpa using hi)]
  split
  · exact hu
  · exact h3 _ (Array.getElem_mem _)
theorem MB.setCells {p : Nat} : ∀ (vs : List Value) (o : Nat) (w : World), MB w p → (∀ v ∈ vs, v.oneCell' = true) → MB (w.setCells p o vs) p ∧ Fr1 p w (w.setCells p o vs)
  | [], o, w, h, _ => ⟨h, Fr1.refl _ _⟩
  | v :: r, o, w, h, hv => by
    obtain ⟨h1, h2⟩ := MB.setCells r (o + 1) _ (h.setCell o (hv v (List.mem_cons_self ..))) (fun x hx => hv x (List.mem_cons_of_mem _ hx))
    exact ⟨h1, (Fr1.setC v).trans h2⟩
theorem MB.fr {w w' : World} {p b : Nat} (h : MB w p) (hf : Fr1 b w w') (hne : p ≠ b) : MB w' p := by
  obtain ⟨cs, h1, h2⟩ := h
  exact ⟨cs, (hf.other p (lt_of_block h1) hne).trans h1, h2⟩
theorem WS.fr {w w' : World} {b p : Nat} {t : ByteArray} {st en : Nat} {at_ : Int} {er : Nat} (h : WS w b t st en at_ er) (hf : Fr1 p w w') (hne : b ≠ p) : WS w' b t st en at_ er := ⟨(hf.other b h.lt hne).trans h.1, h.2⟩
theorem Fr1.new {b p : Nat} {w0 w1 w2 : World} (h : Fr1 b w0 w1) (h' : Fr1 p w1 w2) (hp : w0.heap.size ≤ p) : Fr1 b w0 w2 :=
  ⟨h'.os.trans h.os, h'.tape.trans h.tape, h'.output.trans h.output, Nat.le_trans h.size h'.size, fun k hk hne => (h'.other k (Nat.lt_of_lt_of_le hk h.size) (by omega)).trans (h.other k hk hne)⟩
theorem MB.cell {w : World} {p : Nat} (h : MB w p) {j : Nat} (hj : j < 56) : ∃ u, w.cell? ⟨p, j, none⟩ = some u ∧ w.frozen? ⟨p, j, none⟩ = false := by
  obtain ⟨cs, h1, h2, h3⟩ := h
  exact ⟨cs[j]'(by omega), by rw [cell_of_row w p j _ _ _ h1]; simp [h2, hj], by simp [World.frozen?, h1]⟩
theorem MB.store {w : World} {p : Nat} (h : MB w p) (o n : Nat) (hn : o + n ≤ 56) (ty : TypeId) {cs : Array Value} (hc : Cl n cs) (hi : (Tryz.prog.info? ty).map (·.size) = some n) :
    (storeVar ty ⟨p, o, none⟩ (.agg cs)).run Tryz.prog w = .ok () (w.setCells p o cs.toList) ∧ MB (w.setCells p o cs.toList) p ∧ Fr1 p w (w.setCells p o cs.toList) :=
  ⟨run_storeVar_mid w p o ty cs (fun j hj => by
      obtain ⟨u, h1, h2⟩ := h.cell (j := o + j) (by rw [hc.1] at hj; omega)
      exact ⟨by rw [h1]; rfl, h2⟩) (by rw [hc.1]; exact hi) hc.2, MB.setCells _ _ _ h (cl_mem hc)⟩
/-- What a form leaves. -/
def FormPost (w : World) (b : Nat) (t : ByteArray) (en er : Nat) (F : List Nat → Nat) (e : Ending) (w' : World) : Prop :=
  ∃ (cs : Array Value) (st' en' : Nat) (a : Int) (er' : Nat), e = .returned (.agg cs) ∧ Cl 56 cs ∧ WS w' b t st' en' a er' ∧ Fr1 b w w' ∧ fe er' (fin ((bs t).drop en')) = fe er (F ((bs t).drop en))
set_option maxHeartbeats 2000000 in
theorem form1_any (w : World) (b : Nat) (t : ByteArray) (st en : Nat) (at_ : Int) (er : Nat) (h : WS w b t st en at_ er) (hE : Env w) (hb9 : 9 ≤ b) (ht : t.size ≤ 1000000) :
    Calls Tryz.prog 184 #[.pointer (some ⟨b, 0, none⟩)] w (FormPost w b t en er fun T => nxt T fun x T => fe (tgtF x) (fin T)) := by
  obtain ⟨zs, hzs⟩ : ∃ zs, zs = cmdA 0 z32c := ⟨_, rfl⟩
  have ZCL : Hid (Cl 56 zs) := Lib.hid (by rw [hzs]; exact cl_cmdA 0 _ (by simp [z32c]) cl_z32c)
  have hbw := h.lt
  have TG : Hid (∀ w0, w.alloc (.cells zs 152) = w0 → Calls Tryz.prog 185 #[.pointer (some ⟨b, 0, none⟩)] w0 (WPost (w.alloc (.cells zs 152)) b t en er tgtF fun v => ∃ cs, v = .agg cs ∧ Cl 32 cs)) := Lib.hid (by
    rintro w0 rfl
    have B := (Below.refl w.heap.size w).alloc (Nat.le_refl _) (.cells zs 152)
    exact target_any _ b t st en at_ er (h.below B) (hE.on B) hb9 ht)
  have START : Hid (w.alloc (.cells zs 152) = w.alloc (.cells (cmdA 0 z32c) 152)) := Lib.hid (by rw [hzs])
  clear h hE hzs
  go_enter Tryz.func184, Tryz.ntmps184
  go_wp2_with fail
  refine (TG.out _ START.out).mono ?_
  rintro e w1 ⟨v, st', en', a, er', rfl, ⟨cs, rfl, hcl⟩, h1, f1, hsl⟩
  have hz1 : w1.heap[w.heap.size]? = some (.cells zs 152 (0, 0)) := (f1.other w.heap.size (by simp) (by omega)).trans (heap_alloc_new w _)
  have f0 : Fr1 b w w1 := (Fr1.of_below ((Below.refl w.heap.size w).alloc (Nat.le_refl _) _)).trans f1
  have hl : cs.toList.length = 32 := by simpa using hcl.1
  have BC := Lib.hid (fun w => build_cmdA w 1 cs.toList hl)
  obtain ⟨ds, hds⟩ : ∃ ds, ds = cmdA 1 cs.toList := ⟨_, rfl⟩
  have DC : Hid (Cl 56 ds) := Lib.hid (by rw [hds]; exact cl_cmdA 1 _ hl (cl_mem hcl))
  rw [← hds] at BC
  have ST := Lib.hid (run_storeVar_row (P := Tryz.prog) w1 w.heap.size _ 152 zs ds hz1 (by rw [DC.out.1]; exact size_cmd) (by rw [DC.out.1, ZCL.out.1]) DC.out.2)
  have W2 := Lib.hid (setRow_heap w1 w.heap.size zs ds _ _ hz1)
  have POST : Hid (FormPost w b t en er (fun T => nxt T fun x T => fe (tgtF x) (fin T)) (.returned (.agg ds)) (w1.setRow w.heap.size ds)) := Lib.hid ⟨ds, st', en', a, er', rfl, DC.out, h1.row (by omega) ds, f0.row (Nat.le_refl _) ds, (hsl fin).symm⟩
  clear TG START h1 f1 hsl f0 hz1 hds hcl hl
  go_wp2_with (first
    | ((with_reducible refine wpList_build2 152 rfl _ _ rfl ?_); refine ⟨_, _, _, rfl, rfl, BC.out _, ?_⟩)
    | ((with_reducible refine wpList_store 152 rfl _ _ rfl ?_); refine ⟨_, _, _, rfl, rfl, ST.out, ?_⟩))
  exact bodyPost_ret (results_cell_row Tryz.results184 _ _ w.heap.size _ _ _ _ rfl W2.out Tryz.underlying152 rfl (by rw [DC.out.1]; exact size_cmd)) rfl POST.out
theorem exec_build1 {P : Program} {o : Oper} {a : Act} {w : World} {v : Value} {t : TypeId} {i : Nat} {x : Operand} {vx : Value} (ho : o.op = .build t #[(i, x)]) (hx : a.eval x = vx) (h : (Instr.build t #[(i, vx)]).run P w = .ok v w) :
    (execOp a.eval o).run P w = .ok (.value v) w := exec_build ho (by subst hx; simpa using h)
theorem wpList_build1 {P : Program} {ops : Array Oper} {rest : List Oper} {o : Oper} {a : Act} {w : World} {Q : Exit → Act → World → Prop} (t : TypeId) (hgd : o.guard = none) {i : Nat} (x : Operand) (ho : o.op = .build t #[(i, x)]) (h : ∃ vx v, a.eval x = vx ∧ (Instr.build t #[(i, vx)]).run P w = .ok v w ∧ wpList P ops Q rest (a.put o.dst v) w) : wpList P ops Q (o :: rest) a w := by
  obtain ⟨vx, v, h1, h2, h3⟩ := h
  exact wpList_run hgd (exec_build1 ho h1 h2) h3
set_option maxHeartbeats 4000000 in
theorem form2_any (w : World) (b : Nat) (t : ByteArray) (st en : Nat) (at_ : Int) (er : Nat) (h : WS w b t st en at_ er) (hE : Env w) (hb9 : 9 ≤ b) (ht2 : t.size ≤ 1000000) :
    Calls Tryz.prog 186 #[.pointer (some ⟨b, 0, none⟩)] w (FormPost w b t en er (fun T => nxt T fun x T => fe (tgtF x) ((fun T => nxt T fun x T => fe (grpF x) (fin T)) T))) := by
  have ht : t.size ≤ 1000000 := by omega
  obtain ⟨zs, hzs⟩ : ∃ zs, zs = cmdA 0 z32c := ⟨_, rfl⟩
  obtain ⟨ks, hks⟩ : ∃ ks, ks = cmdA 2 z32c := ⟨_, rfl⟩
  have ZCL : Hid (Cl 56 zs) := Lib.hid (by rw [hzs]; exact cl_cmdA 0 _ (by simp [z32c]) cl_z32c)
  have KCL : Hid (Cl 56 ks) := Lib.hid (by rw [hks]; exact cl_cmdA 2 _ (by simp [z32c]) cl_z32c)
  have BK : Hid (∀ w, (Instr.build 152 #[(0, .int .i64 2)]).run Tryz.prog w = .ok (.agg ks) w) := Lib.hid (fun w => by rw [hks]; exact build_cmdK w 2)
  have hbw := h.lt
  have STN : Hid (∀ zz : Array Value, zz.size = 56 → (storeVar 152 ⟨w.heap.size + 1, 0, none⟩ (.agg ks)).run Tryz.prog ((w.alloc (.cells zs 152)).alloc (.cells zz 152)) = .ok () ((w.alloc (.cells zs 152)).alloc (.cells ks 152))) := Lib.hid (fun zz hz => by
    have := run_storeVar_new (P := Tryz.prog) (w.alloc (.cells zs 152)) 152 zz ks (by rw [KCL.out.1]; exact size_cmd) (by rw [hz, KCL.out.1]) KCL.out.2
    rwa [World.size_alloc] at this)
  obtain ⟨w0, hw0⟩ : ∃ w0, w0 = (w.alloc (.cells zs 152)).alloc (.cells ks 152) := ⟨_, rfl⟩
  have bA : Below w.heap.size w (w.alloc (.cells zs 152)) := (Below.refl _ w).alloc (Nat.le_refl _) _
  have b0 : Below w.heap.size w w0 := by rw [hw0]; exact bA.alloc bA.size _
  have h0 := h.below b0
  have E0 := hE.on b0
  have F0 : Hid (Fr1 b w w0) := Lib.hid (Fr1.of_below b0)
  have Z0 : Hid (w0.heap[w.heap.size]? = some (.cells zs 152 (0, 0))) := Lib.hid (by
    rw [hw0]
    exact (((Below.refl _ (w.alloc (.cells zs 152))).alloc (Nat.le_refl _) _).block w.heap.size (by simp)).trans (heap_alloc_new w _))
  have hm0 : MB w0 (w.heap.size + 1) := ⟨ks, by rw [hw0]; have := heap_alloc_new (w.alloc (.cells zs 152)) (.cells ks 152); rwa [World.size_alloc] at this, KCL.out⟩
  have M0 := Lib.hid hm0
  rw [hzs] at STN
  have HW : Hid (w0 = (w.alloc (.cells (cmdA 0 z32c) 152)).alloc (.cells ks 152)) := Lib.hid (by rw [hw0, hzs])
  have H0 := Lib.hid h0; have HE0 := Lib.hid E0
  have HB9 := Lib.hid hb9; have HT := Lib.hid ht
  clear h hE hzs hks hw0 bA b0 h0 E0 hm0
  have C1 := Lib.hid (target_any w0 b t st en at_ er H0.out HE0.out hb9 ht)
  go_enter Tryz.func186, Tryz.ntmps186
  go_wp2_with (first
    | ((with_reducible refine wpList_build1 152 rfl _ rfl ?_); refine ⟨_, _, rfl, BK.out _, ?_⟩)
    | ((with_reducible refine wpList_store 152 rfl _ _ rfl ?_); refine ⟨_, _, _, rfl, rfl, STN.out _ rfl, ?_⟩))
  have C1' : Hid (∀ wq, w0 = wq → Calls Tryz.prog 185 #[.pointer (some ⟨b, 0, none⟩)] wq (WPost w0 b t en er tgtF fun v => ∃ cs, v = .agg cs ∧ Cl 32 cs)) := Lib.hid (by rintro wq rfl; exact C1.out)
  refine (C1'.out _ HW.out).mono ?_
  clear C1 C1' HW STN BK
  rintro e v1 ⟨v, st1, en1, a1, er1, rfl, ⟨cs1, rfl, hcl1⟩, h1, f1, hsl1⟩
  have MV1 := Lib.hid (M0.out.fr f1 (by omega))
  have ZV1 := Lib.hid ((f1.other w.heap.size (lt_of_block Z0.out) (by omega)).trans Z0.out)
  have FV1 := Lib.hid (F0.out.trans f1)
  have EV1 := Lib.hid (fr_env HE0.out hb9 f1)
  have HSL1 := Lib.hid hsl1
  obtain ⟨ST1, hm1, ff1⟩ := MV1.out.store 1 32 (by omega) 26 hcl1 size23
  obtain ⟨y1, hy1⟩ : ∃ y, y = v1.setCells (w.heap.size + 1) 1 cs1.toList := ⟨_, rfl⟩
  rw [← hy1] at ST1 hm1 ff1
  have ST1 := Lib.hid ST1
  have M1 := Lib.hid hm1
  have H1 := Lib.hid (h1.fr ff1 (by omega))
  have F1 := Lib.hid (FV1.out.new ff1 (by omega))
  have Z1 := Lib.hid ((ff1.other w.heap.size (lt_of_block ZV1.out) (by omega)).trans ZV1.out)
  have HE1 := Lib.hid (fr_env EV1.out (by have := HB9.out; have := hbw; omega) ff1)
  have HY1 := Lib.hid hy1
  clear h1 f1 hsl1 ff1 hy1 hm1 hcl1
  have C2 := Lib.hid (group_any y1 b t st1 en1 a1 er1 H1.out HE1.out hb9 ht)
  go_wp2_with ((with_reducible refine wpList_store 26 rfl _ _ rfl ?_); refine ⟨_, _, _, rfl, rfl, ST1.out, ?_⟩)
  refine C2.out.mono ?_
  rintro e v2 ⟨v, st2, en2, a2, er2, rfl, ⟨s2, rfl, hsz2⟩, h2, f2, hsl2⟩
  have MV2 := Lib.hid (M1.out.fr f2 (by omega))
  have ZV2 := Lib.hid ((f2.other w.heap.size (lt_of_block Z1.out) (by omega)).trans Z1.out)
  have FV2 := Lib.hid (F1.out.trans f2)
  have EV2 := Lib.hid (fr_env HE1.out hb9 f2)
  have HSL2 := Lib.hid hsl2
  obtain ⟨u2, hc2, hf2⟩ := MV2.out.cell (j := 33) (by omega)
  obtain ⟨y2, hy2⟩ : ∃ y, y = v2.setCell ⟨w.heap.size + 1, 33, none⟩ (.string s2) := ⟨_, rfl⟩
  have M2 : Hid (MB y2 (w.heap.size + 1)) := Lib.hid (by rw [hy2]; exact MV2.out.setCell 33 rfl)
  have ff2 : Fr1 (w.heap.size + 1) v2 y2 := by rw [hy2]; exact Fr1.setC _
  have H2 := Lib.hid (h2.fr ff2 (by omega))
  have F2 := Lib.hid (FV2.out.new ff2 (by omega))
  have Z2 := Lib.hid ((ff2.other w.heap.size (lt_of_block ZV2.out) (by omega)).trans ZV2.out)
  have HE2 := Lib.hid (fr_env EV2.out (by have := HB9.out; have := hbw; omega) ff2)
  have HY2 := Lib.hid hy2
  clear h2 f2 hsl2 ff2 hy2
  obtain ⟨cs, hp, hcl⟩ := M2.out
  have LD := Lib.hid (run_load_cl y2 (w.heap.size + 1) 56 _ _ cs _ _ hp rfl Tryz.underlying152 size_cmd hcl.1)
  have ST := Lib.hid (run_storeVar_row (P := Tryz.prog) y2 w.heap.size _ 152 zs cs Z2.out (by rw [hcl.1]; exact size_cmd) (by rw [hcl.1, ZCL.out.1]) hcl.2)
  have W2 := Lib.hid (setRow_heap y2 w.heap.size zs cs _ _ Z2.out)
  have CSZ : Hid (cs.size = 56) := Lib.hid hcl.1
  have POST : Hid (FormPost w b t en er (fun T => nxt T fun x T => fe (tgtF x) ((fun T => nxt T fun x T => fe (grpF x) (fin T)) T)) (.returned (.agg cs)) (y2.setRow w.heap.size cs)) := Lib.hid ⟨cs, st2, en2, a2, er2, rfl, hcl, H2.out.row (by omega) cs, F2.out.row (Nat.le_refl _) cs, ((HSL1.out (fun T => nxt T fun x T => fe (grpF x) (fin T))).trans (HSL2.out fin)).symm⟩
  clear hp hcl
  go_upto_region 4 with fail
  rw [← HY2.out]
  refine wp_region_list ?_
  simp only []
  refine wpList_load 152 rfl _ rfl ⟨_, _, rfl, LD.out, ?_⟩
  go_wp2_with ((with_reducible refine wpList_store 152 rfl _ _ rfl ?_); refine ⟨_, _, _, rfl, rfl, ST.out, ?_⟩)
  exact bodyPost_ret (results_cell_row Tryz.results186 _ _ w.heap.size _ _ _ _ rfl W2.out Tryz.underlying152 rfl (by rw [CSZ.out]; exact size_cmd)) rfl POST.out
set_option maxHeartbeats 4000000 in
theorem form4_any (w : World) (b : Nat) (t : ByteArray) (st en : Nat) (at_ : Int) (er : Nat) (h : WS w b t st en at_ er) (hE : Env w) (hb9 : 9 ≤ b) (ht2 : t.size ≤ 1000000) :
    Calls Tryz.prog 192 #[.pointer (some ⟨b, 0, none⟩)] w (FormPost w b t en er (fun T => nxt T fun x T => fe (grpF x) ((fun T => nxt T fun x T => fe ((numF 0 1000000) x) (fin T)) T))) := by
  have ht : t.size ≤ 1000000 := by omega
  obtain ⟨zs, hzs⟩ : ∃ zs, zs = cmdA 0 z32c := ⟨_, rfl⟩
  obtain ⟨ks, hks⟩ : ∃ ks, ks = cmdA 4 z32c := ⟨_, rfl⟩
  have ZCL : Hid (Cl 56 zs) := Lib.hid (by rw [hzs]; exact cl_cmdA 0 _ (by simp [z32c]) cl_z32c)
  have KCL : Hid (Cl 56 ks) := Lib.hid (by rw [hks]; exact cl_cmdA 4 _ (by simp [z32c]) cl_z32c)
  have BK : Hid (∀ w, (Instr.build 152 #[(0, .int .i64 4)]).run Tryz.prog w = .ok (.agg ks) w) := Lib.hid (fun w => by rw [hks]; exact build_cmdK w 4)
  have hbw := h.lt
  have STN : Hid (∀ zz : Array Value, zz.size = 56 → (storeVar 152 ⟨w.heap.size + 1, 0, none⟩ (.agg ks)).run Tryz.prog ((w.alloc (.cells zs 152)).alloc (.cells zz 152)) = .ok () ((w.alloc (.cells zs 152)).alloc (.cells ks 152))) := Lib.hid (fun zz hz => by
    have := run_storeVar_new (P := Tryz.prog) (w.alloc (.cells zs 152)) 152 zz ks (by rw [KCL.out.1]; exact size_cmd) (by rw [hz, KCL.out.1]) KCL.out.2
    rwa [World.size_alloc] at this)
  obtain ⟨w0, hw0⟩ : ∃ w0, w0 = (w.alloc (.cells zs 152)).alloc (.cells ks 152) := ⟨_, rfl⟩
  have bA : Below w.heap.size w (w.alloc (.cells zs 152)) := (Below.refl _ w).alloc (Nat.le_refl _) _
  have b0 : Below w.heap.size w w0 := by rw [hw0]; exact bA.alloc bA.size _
  have h0 := h.below b0
  have E0 := hE.on b0
  have F0 : Hid (Fr1 b w w0) := Lib.hid (Fr1.of_below b0)
  have Z0 : Hid (w0.heap[w.heap.size]? = some (.cells zs 152 (0, 0))) := Lib.hid (by
    rw [hw0]
    exact (((Below.refl _ (w.alloc (.cells zs 152))).alloc (Nat.le_refl _) _).block w.heap.size (by simp)).trans (heap_alloc_new w _))
  have hm0 : MB w0 (w.heap.size + 1) := ⟨ks, by rw [hw0]; have := heap_alloc_new (w.alloc (.cells zs 152)) (.cells ks 152); rwa [World.size_alloc] at this, KCL.out⟩
  have M0 := Lib.hid hm0
  rw [hzs] at STN
  have HW : Hid (w0 = (w.alloc (.cells (cmdA 0 z32c) 152)).alloc (.cells ks 152)) := Lib.hid (by rw [hw0, hzs])
  have H0 := Lib.hid h0; have HE0 := Lib.hid E0
  have HB9 := Lib.hid hb9; have HT := Lib.hid ht
  clear h hE hzs hks hw0 bA b0 h0 E0 hm0
  have C1 := Lib.hid (group_any w0 b t st en at_ er H0.out HE0.out hb9 ht)
  go_enter Tryz.func192, Tryz.ntmps192
  go_wp2_with (first
    | ((with_reducible refine wpList_build1 152 rfl _ rfl ?_); refine ⟨_, _, rfl, BK.out _, ?_⟩)
    | ((with_reducible refine wpList_store 152 rfl _ _ rfl ?_); refine ⟨_, _, _, rfl, rfl, STN.out _ rfl, ?_⟩))
  have C1' : Hid (∀ wq, w0 = wq → Calls Tryz.prog 187 #[.pointer (some ⟨b, 0, none⟩)] wq (WPost w0 b t en er grpF fun v => ∃ s, v = .string s ∧ s.size ≤ t.size)) := Lib.hid (by rintro wq rfl; exact C1.out)
  refine (C1'.out _ HW.out).mono ?_
  clear C1 C1' HW STN BK
  rintro e v1 ⟨v, st1, en1, a1, er1, rfl, ⟨s1, rfl, hsz1⟩, h1, f1, hsl1⟩
  have MV1 := Lib.hid (M0.out.fr f1 (by omega))
  have ZV1 := Lib.hid ((f1.other w.heap.size (lt_of_block Z0.out) (by omega)).trans Z0.out)
  have FV1 := Lib.hid (F0.out.trans f1)
  have EV1 := Lib.hid (fr_env HE0.out hb9 f1)
  have HSL1 := Lib.hid hsl1
  obtain ⟨u1, hc1, hf1⟩ := MV1.out.cell (j := 33) (by omega)
  obtain ⟨y1, hy1⟩ : ∃ y, y = v1.setCell ⟨w.heap.size + 1, 33, none⟩ (.string s1) := ⟨_, rfl⟩
  have M1 : Hid (MB y1 (w.heap.size + 1)) := Lib.hid (by rw [hy1]; exact MV1.out.setCell 33 rfl)
  have ff1 : Fr1 (w.heap.size + 1) v1 y1 := by rw [hy1]; exact Fr1.setC _
  have H1 := Lib.hid (h1.fr ff1 (by omega))
  have F1 := Lib.hid (FV1.out.new ff1 (by omega))
  have Z1 := Lib.hid ((ff1.other w.heap.size (lt_of_block ZV1.out) (by omega)).trans ZV1.out)
  have HE1 := Lib.hid (fr_env EV1.out (by have := HB9.out; have := hbw; omega) ff1)
  have HY1 := Lib.hid hy1
  clear h1 f1 hsl1 ff1 hy1
  have C2 := Lib.hid (number_any y1 b t st1 en1 a1 er1 H1.out HE1.out hb9 ht 0 1000000 (by omega) (by omega))
  go_wp2_with fail
  rw [← HY1.out]
  refine C2.out.mono ?_
  rintro e v2 ⟨v, st2, en2, a2, er2, rfl, ⟨n2, rfl⟩, h2, f2, hsl2⟩
  have MV2 := Lib.hid (M1.out.fr f2 (by omega))
  have ZV2 := Lib.hid ((f2.other w.heap.size (lt_of_block Z1.out) (by omega)).trans Z1.out)
  have FV2 := Lib.hid (F1.out.trans f2)
  have EV2 := Lib.hid (fr_env HE1.out hb9 f2)
  have HSL2 := Lib.hid hsl2
  obtain ⟨u2, hc2, hf2⟩ := MV2.out.cell (j := 34) (by omega)
  obtain ⟨y2, hy2⟩ : ∃ y, y = v2.setCell ⟨w.heap.size + 1, 34, none⟩ (.int .i64 n2) := ⟨_, rfl⟩
  have M2 : Hid (MB y2 (w.heap.size + 1)) := Lib.hid (by rw [hy2]; exact MV2.out.setCell 34 rfl)
  have ff2 : Fr1 (w.heap.size + 1) v2 y2 := by rw [hy2]; exact Fr1.setC _
  have H2 := Lib.hid (h2.fr ff2 (by omega))
  have F2 := Lib.hid (FV2.out.new ff2 (by omega))
  have Z2 := Lib.hid ((ff2.other w.heap.size (lt_of_block ZV2.out) (by omega)).trans ZV2.out)
  have HE2 := Lib.hid (fr_env EV2.out (by have := HB9.out; have := hbw; omega) ff2)
  have HY2 := Lib.hid hy2
  clear h2 f2 hsl2 ff2 hy2
  obtain ⟨cs, hp, hcl⟩ := M2.out
  have LD := Lib.hid (run_load_cl y2 (w.heap.size + 1) 56 _ _ cs _ _ hp rfl Tryz.underlying152 size_cmd hcl.1)
  have ST := Lib.hid (run_storeVar_row (P := Tryz.prog) y2 w.heap.size _ 152 zs cs Z2.out (by rw [hcl.1]; exact size_cmd) (by rw [hcl.1, ZCL.out.1]) hcl.2)
  have W2 := Lib.hid (setRow_heap y2 w.heap.size zs cs _ _ Z2.out)
  have CSZ : Hid (cs.size = 56) := Lib.hid hcl.1
  have POST : Hid (FormPost w b t en er (fun T => nxt T fun x T => fe (grpF x) ((fun T => nxt T fun x T => fe ((numF 0 1000000) x) (fin T)) T)) (.returned (.agg cs)) (y2.setRow w.heap.size cs)) := Lib.hid ⟨cs, st2, en2, a2, er2, rfl, hcl, H2.out.row (by omega) cs, F2.out.row (Nat.le_refl _) cs, ((HSL1.out (fun T => nxt T fun x T => fe ((numF 0 1000000) x) (fin T))).trans (HSL2.out fin)).symm⟩
  clear hp hcl
  go_upto_region 4 with fail
  rw [← HY2.out]
  refine wp_region_list ?_
  simp only []
  refine wpList_load 152 rfl _ rfl ⟨_, _, rfl, LD.out, ?_⟩
  go_wp2_with ((with_reducible refine wpList_store 152 rfl _ _ rfl ?_); refine ⟨_, _, _, rfl, rfl, ST.out, ?_⟩)
  exact bodyPost_ret (results_cell_row Tryz.results192 _ _ w.heap.size _ _ _ _ rfl W2.out Tryz.underlying152 rfl (by rw [CSZ.out]; exact size_cmd)) rfl POST.out
set_option maxHeartbeats 4000000 in
theorem form5_any (w : World) (b : Nat) (t : ByteArray) (st en : Nat) (at_ : Int) (er : Nat) (h : WS w b t st en at_ er) (hE : Env w) (hb9 : 9 ≤ b) (ht2 : t.size ≤ 1000000) :
    Calls Tryz.prog 193 #[.pointer (some ⟨b, 0, none⟩)] w (FormPost w b t en er (fun T => nxt T fun x T => fe ((numF 1 1000) x) ((fun T => nxt T fun x T => fe (pubF x) (fin T)) T))) := by
  have ht : t.size ≤ 1000000 := by omega
  obtain ⟨zs, hzs⟩ : ∃ zs, zs = cmdA 0 z32c := ⟨_, rfl⟩
  obtain ⟨ks, hks⟩ : ∃ ks, ks = cmdA 5 z32c := ⟨_, rfl⟩
  have ZCL : Hid (Cl 56 zs) := Lib.hid (by rw [hzs]; exact cl_cmdA 0 _ (by simp [z32c]) cl_z32c)
  have KCL : Hid (Cl 56 ks) := Lib.hid (by rw [hks]; exact cl_cmdA 5 _ (by simp [z32c]) cl_z32c)
  have BK : Hid (∀ w, (Instr.build 152 #[(0, .int .i64 5)]).run Tryz.prog w = .ok (.agg ks) w) := Lib.hid (fun w => by rw [hks]; exact build_cmdK w 5)
  have hbw := h.lt
  have STN : Hid (∀ zz : Array Value, zz.size = 56 → (storeVar 152 ⟨w.heap.size + 1, 0, none⟩ (.agg ks)).run Tryz.prog ((w.alloc (.cells zs 152)).alloc (.cells zz 152)) = .ok () ((w.alloc (.cells zs 152)).alloc (.cells ks 152))) := Lib.hid (fun zz hz => by
    have := run_storeVar_new (P := Tryz.prog) (w.alloc (.cells zs 152)) 152 zz ks (by rw [KCL.out.1]; exact size_cmd) (by rw [hz, KCL.out.1]) KCL.out.2
    rwa [World.size_alloc] at this)
  obtain ⟨w0, hw0⟩ : ∃ w0, w0 = (w.alloc (.cells zs 152)).alloc (.cells ks 152) := ⟨_, rfl⟩
  have bA : Below w.heap.size w (w.alloc (.cells zs 152)) := (Below.refl _ w).alloc (Nat.le_refl _) _
  have b0 : Below w.heap.size w w0 := by rw [hw0]; exact bA.alloc bA.size _
  have h0 := h.below b0
  have E0 := hE.on b0
  have F0 : Hid (Fr1 b w w0) := Lib.hid (Fr1.of_below b0)
  have Z0 : Hid (w0.heap[w.heap.size]? = some (.cells zs 152 (0, 0))) := Lib.hid (by
    rw [hw0]
    exact (((Below.refl _ (w.alloc (.cells zs 152))).alloc (Nat.le_refl _) _).block w.heap.size (by simp)).trans (heap_alloc_new w _))
  have hm0 : MB w0 (w.heap.size + 1) := ⟨ks, by rw [hw0]; have := heap_alloc_new (w.alloc (.cells zs 152)) (.cells ks 152); rwa [World.size_alloc] at this, KCL.out⟩
  have M0 := Lib.hid hm0
  rw [hzs] at STN
  have HW : Hid (w0 = (w.alloc (.cells (cmdA 0 z32c) 152)).alloc (.cells ks 152)) := Lib.hid (by rw [hw0, hzs])
  have H0 := Lib.hid h0; have HE0 := Lib.hid E0
  have HB9 := Lib.hid hb9; have HT := Lib.hid ht
  clear h hE hzs hks hw0 bA b0 h0 E0 hm0
  have C1 := Lib.hid (number_any w0 b t st en at_ er H0.out HE0.out hb9 ht 1 1000 (by omega) (by omega))
  go_enter Tryz.func193, Tryz.ntmps193
  go_wp2_with (first
    | ((with_reducible refine wpList_build1 152 rfl _ rfl ?_); refine ⟨_, _, rfl, BK.out _, ?_⟩)
    | ((with_reducible refine wpList_store 152 rfl _ _ rfl ?_); refine ⟨_, _, _, rfl, rfl, STN.out _ rfl, ?_⟩))
  have C1' : Hid (∀ wq, w0 = wq → Calls Tryz.prog 189 #[.pointer (some ⟨b, 0, none⟩), .int .i64 ((1 : Nat) : Int), .int .i64 ((1000 : Nat) : Int)] wq (WPost w0 b t en er (numF 1 1000) fun v => ∃ n : Int, v = .int .i64 n)) := Lib.hid (by rintro wq rfl; exact C1.out)
  refine (C1'.out _ HW.out).mono ?_
  clear C1 C1' HW STN BK
  rintro e v1 ⟨v, st1, en1, a1, er1, rfl, ⟨n1, rfl⟩, h1, f1, hsl1⟩
  have MV1 := Lib.hid (M0.out.fr f1 (by omega))
  have ZV1 := Lib.hid ((f1.other w.heap.size (lt_of_block Z0.out) (by omega)).trans Z0.out)
  have FV1 := Lib.hid (F0.out.trans f1)
  have EV1 := Lib.hid (fr_env HE0.out hb9 f1)
  have HSL1 := Lib.hid hsl1
  obtain ⟨u1, hc1, hf1⟩ := MV1.out.cell (j := 38) (by omega)
  obtain ⟨y1, hy1⟩ : ∃ y, y = v1.setCell ⟨w.heap.size + 1, 38, none⟩ (.int .i64 n1) := ⟨_, rfl⟩
  have M1 : Hid (MB y1 (w.heap.size + 1)) := Lib.hid (by rw [hy1]; exact MV1.out.setCell 38 rfl)
  have ff1 : Fr1 (w.heap.size + 1) v1 y1 := by rw [hy1]; exact Fr1.setC _
  have H1 := Lib.hid (h1.fr ff1 (by omega))
  have F1 := Lib.hid (FV1.out.new ff1 (by omega))
  have Z1 := Lib.hid ((ff1.other w.heap.size (lt_of_block ZV1.out) (by omega)).trans ZV1.out)
  have HE1 := Lib.hid (fr_env EV1.out (by have := HB9.out; have := hbw; omega) ff1)
  have HY1 := Lib.hid hy1
  clear h1 f1 hsl1 ff1 hy1
  have C2 := Lib.hid (public_any y1 b t st1 en1 a1 er1 H1.out HE1.out hb9 ht)
  go_wp2_with fail
  rw [← HY1.out]
  refine C2.out.mono ?_
  rintro e v2 ⟨v, st2, en2, a2, er2, rfl, ⟨cs2, rfl, hcl2⟩, h2, f2, hsl2⟩
  have MV2 := Lib.hid (M1.out.fr f2 (by omega))
  have ZV2 := Lib.hid ((f2.other w.heap.size (lt_of_block Z1.out) (by omega)).trans Z1.out)
  have FV2 := Lib.hid (F1.out.trans f2)
  have EV2 := Lib.hid (fr_env HE1.out hb9 f2)
  have HSL2 := Lib.hid hsl2
  obtain ⟨ST2, hm2, ff2⟩ := MV2.out.store 39 17 (by omega) 35 hcl2 size_pk
  obtain ⟨y2, hy2⟩ : ∃ y, y = v2.setCells (w.heap.size + 1) 39 cs2.toList := ⟨_, rfl⟩
  rw [← hy2] at ST2 hm2 ff2
  have ST2 := Lib.hid ST2
  have M2 := Lib.hid hm2
  have H2 := Lib.hid (h2.fr ff2 (by omega))
  have F2 := Lib.hid (FV2.out.new ff2 (by omega))
  have Z2 := Lib.hid ((ff2.other w.heap.size (lt_of_block ZV2.out) (by omega)).trans ZV2.out)
  have HE2 := Lib.hid (fr_env EV2.out (by have := HB9.out; have := hbw; omega) ff2)
  have HY2 := Lib.hid hy2
  clear h2 f2 hsl2 ff2 hy2 hm2 hcl2
  obtain ⟨cs, hp, hcl⟩ := M2.out
  have LD := Lib.hid (run_load_cl y2 (w.heap.size + 1) 56 _ _ cs _ _ hp rfl Tryz.underlying152 size_cmd hcl.1)
  have ST := Lib.hid (run_storeVar_row (P := Tryz.prog) y2 w.heap.size _ 152 zs cs Z2.out (by rw [hcl.1]; exact size_cmd) (by rw [hcl.1, ZCL.out.1]) hcl.2)
  have W2 := Lib.hid (setRow_heap y2 w.heap.size zs cs _ _ Z2.out)
  have CSZ : Hid (cs.size = 56) := Lib.hid hcl.1
  have POST : Hid (FormPost w b t en er (fun T => nxt T fun x T => fe ((numF 1 1000) x) ((fun T => nxt T fun x T => fe (pubF x) (fin T)) T)) (.returned (.agg cs)) (y2.setRow w.heap.size cs)) := Lib.hid ⟨cs, st2, en2, a2, er2, rfl, hcl, H2.out.row (by omega) cs, F2.out.row (Nat.le_refl _) cs, ((HSL1.out (fun T => nxt T fun x T => fe (pubF x) (fin T))).trans (HSL2.out fin)).symm⟩
  clear hp hcl
  go_upto_region 4 with ((with_reducible refine wpList_store 35 rfl _ _ rfl ?_); refine ⟨_, _, _, rfl, rfl, ST2.out, ?_⟩)
  refine wp_region_list ?_
  simp only []
  refine wpList_load 152 rfl _ rfl ⟨_, _, rfl, LD.out, ?_⟩
  go_wp2_with ((with_reducible refine wpList_store 152 rfl _ _ rfl ?_); refine ⟨_, _, _, rfl, rfl, ST.out, ?_⟩)
  exact bodyPost_ret (results_cell_row Tryz.results193 _ _ w.heap.size _ _ _ _ rfl W2.out Tryz.underlying152 rfl (by rw [CSZ.out]; exact size_cmd)) rfl POST.out
theorem kind1 (w : World) : Calls Tryz.prog 183 #[.int .i64 1] w fun e w' => e = .returned (.string ⟨#[99, 97, 110, 99, 101, 108]⟩) ∧ w' = w := by
  go_enter Tryz.func183, Tryz.ntmps183
  go_wp2_with fail
  go_ret
  exact ⟨rfl, rfl⟩
theorem kind2 (w : World) : Calls Tryz.prog 183 #[.int .i64 2] w fun e w' => e = .returned (.string ⟨#[97, 112, 112, 114, 111, 118, 101]⟩) ∧ w' = w := by
  go_enter Tryz.func183, Tryz.ntmps183
  go_wp2_with fail
  go_ret
  exact ⟨rfl, rfl⟩
theorem kind3 (w : World) : Calls Tryz.prog 183 #[.int .i64 3] w fun e w' => e = .returned (.string ⟨#[100, 101, 102, 105, 110, 101]⟩) ∧ w' = w := by
  go_enter Tryz.func183, Tryz.ntmps183
  go_wp2_with fail
  go_ret
  exact ⟨rfl, rfl⟩
theorem kind4 (w : World) : Calls Tryz.prog 183 #[.int .i64 4] w fun e w' => e = .returned (.string ⟨#[114, 101, 109, 111, 118, 101]⟩) ∧ w' = w := by
  go_enter Tryz.func183, Tryz.ntmps183
  go_wp2_with fail
  go_ret
  exact ⟨rfl, rfl⟩
theorem kind5 (w : World) : Calls Tryz.prog 183 #[.int .i64 5] w fun e w' => e = .returned (.string ⟨#[114, 101, 107, 101, 121]⟩) ∧ w' = w := by
  go_enter Tryz.func183, Tryz.ntmps183
  go_wp2_with fail
  go_ret
  exact ⟨rfl, rfl⟩
end Go.Proofs.YtohmdledkhgdaaaGreatDoor
/- A map from identities to truth values that the program makes and fills. -/
namespace Go.Proofs.YtohmdledkhgdaaaGreatDoor
open Go.RowKit Go.Maps
open Go.ChangeMaps (setBlock heap_setBlock_same heap_setBlock_other)
set_option linter.unusedVariables false
set_option maxRecDepth 100000
def meS (k : Nat) (ids : List (List Nat)) : List MapEntry := (ids.zipIdx k).map fun p => { key := .agg (idA p.1), val := .bool true, born := p.2 }
/-- The block b is a map that holds true at just these identities. -/
def MId (w : World) (b : Nat) (ids : List (List Nat)) : Prop := w.heap[b]? = some (.map (meS 0 ids).toArray ids.length)
theorem MId.lt {w : World} {b : Nat} {ids : List (List Nat)} (h : MId w b ids) : b < w.heap.size := lt_of_block h
theorem MId.below {w w' : World} {b : Nat} {ids : List (List Nat)} (h : MId w b ids) (hb : Below w.heap.size w w') : MId w' b ids := (hb.block b h.lt).trans h
theorem MId.made (w : World) : MId (w.alloc (.map #[] 0)) w.heap.size [] := heap_alloc_new w _
theorem meS_snoc (ids : List (List Nat)) (x : List Nat) : meS 0 (ids ++ [x]) = meS 0 ids ++ [{ key := .agg (idA x), val := .bool true, born := ids.length }] := by
  simp [meS, List.zipIdx_append]
theorem check_id (w : World) (em : Bool) {x : List Nat} (hx : IdOk x) : (Instr.checkKey em 10000 26 (.agg (idA x))).run Tryz.prog w = .ok () w :=
  run_checkKey_deep em 9997 3 26 (by kernel_rfl) w 2 (.agg (idA x)) (byteLits x) (by simp [Value.formed, Tryz.underlying26, cells23, idA_size, hx.len]) (lits_id 0 hx)
theorem asking_id (w : World) {x : List Nat} (hx : IdOk x) : ∀ (ids : List (List Nat)) (k i : Nat), (∀ y ∈ ids, IdOk y) →
    ∃ r, (Instr.findAsking 26 (.agg (idA x)) (meS k ids) i).run Tryz.prog w = .ok r w ∧ ((x ∉ ids ∧ r = none) ∨ (x ∈ ids ∧ ∃ j, r = some (j, .bool true)))
  | [], _, _, _ => ⟨none, rfl, .inl ⟨by simp, rfl⟩⟩
  | y :: ids, k, i, hy => by
    have he := eq_id w hx (hy y (by simp))
    by_cases h : x = y
    · subst h
      refine ⟨some (i, .bool true), ?_, .inr ⟨by simp, i, rfl⟩⟩
      simp only [meS, List.zipIdx_cons, List.map_cons, Instr.findAsking, Sem.run_bind, he, Result.andThen_ok]
      simp
    · obtain ⟨r, h1, h2⟩ := asking_id w hx ids (k + 1) (i + 1) (fun z hz => hy z (by simp [hz]))
      refine ⟨r, ?_, ?_⟩
      · simp only [meS, List.zipIdx_cons, List.map_cons, Instr.findAsking, Sem.run_bind, he, Result.andThen_ok, decide_eq_false h]
        exact h1
      · simpa [h] using h2
theorem findKey_id (w : World) (k : Value) (es : List MapEntry) : (Instr.findKey 26 k es).run Tryz.prog w = (Instr.findAsking 26 k es).run Tryz.prog w := by
  unfold Instr.findKey
  rw [Sem.run_bind, run_underlying Tryz.underlying26]
  cases es with
  | nil => rfl
  | cons e es => rfl
section
variable (w : World) {b : Nat} {ids : List (List Nat)} (h : MId w b ids) (hi : ∀ y ∈ ids, IdOk y) {x : List Nat} (hx : IdOk x)
include h hi hx
theorem lookup_id : (Instr.lookup 148 (.map (some b)) (.agg (idA x)) false).run Tryz.prog w = .ok (.bool (decide (x ∈ ids))) w := by
  obtain ⟨r, h1, h2⟩ := asking_id w hx ids 0 0 hi
  have z : (zeroValue 4).run Tryz.prog w = .ok (.bool false) w := by kernel_rfl
  rcases h2 with ⟨h2, rfl⟩ | ⟨h2, j, rfl⟩
  · simp [Instr.lookup, run_underlying Tryz.underlying148, MapKept.run_getObj_map h, check_id w _ hx, findKey_id, h1, z, Result.andThen, h2]
  · simp [Instr.lookup, run_underlying Tryz.underlying148, MapKept.run_getObj_map h, check_id w _ hx, findKey_id, h1, Result.andThen, h2]
theorem update_id (hn : x ∉ ids) : ∃ w', (Instr.mapUpdate 148 (.map (some b)) (.agg (idA x)) (.bool true)).run Tryz.prog w = .ok () w' ∧ MId w' b (ids ++ [x]) ∧ w.grownBy w' (some b) := by
  obtain ⟨r, h1, h2⟩ := asking_id w hx ids 0 0 hi
  rcases h2 with ⟨_, rfl⟩ | ⟨h2, _⟩
  · refine ⟨setBlock w b (.map ((meS 0 ids).toArray.push { key := .agg (idA x), val := .bool true, born := ids.length }) (ids.length + 1)), by simp [Instr.mapUpdate, run_underlying Tryz.underlying148, MapKept.run_getObj_map h, check_id w _ hx, findKey_id, h1, MapKept.run_setObj_map _ h, Result.andThen, setBlock], ?_, ?_⟩
    · unfold MId
      rw [meS_snoc, heap_setBlock_same h]
      simp
    · exact ⟨rfl, rfl, rfl, by simp [setBlock], fun i _ hi => heap_setBlock_other h _ (fun e => hi (by rw [e]))⟩
  · exact absurd h2 hn
end
end Go.Proofs.YtohmdledkhgdaaaGreatDoor
/- strings.Join; groupname.FormatList. -/
namespace Go.Proofs.YtohmdledkhgdaaaGreatDoor
open Go.RowKit
set_option linter.unusedVariables false
set_option maxRecDepth 100000
def JoinPost (c : Nat) (ls : List (List Nat)) (w : World) (e : Ending) (w' : World) : Prop := ∃ t : ByteArray, e = .returned (.string t) ∧ bs t = joinF [c] ls ∧ Below w.heap.size w w'
theorem join_any (w : World) (v : Value) (gs : List ByteArray) (c : UInt8) (hr : SRow w v gs) (hl : gs.length ≤ 1000000) (hlen : (joinF [c.toNat] (gs.map bs)).length ≤ 140737488355328) :
    Calls Tryz.prog 95 #[v, .string ⟨#[c]⟩] w (JoinPost c.toNat (gs.map bs) w) := by
  have hj : ∀ l : List ByteArray, (Lib.join (l.map (·.data.toList)) [c]).map UInt8.toNat = joinF [c.toNat] (l.map bs) := by
    intro l
    have := join_joinF [c] (l.map (·.data.toList))
    rw [List.map_map] at this
    exact this
  obtain ⟨a, cap, rfl, hcap, hcells⟩ := hr
  by_cases h0 : gs = []
  · subst h0
    exact (lb_strings_Join_none a cap ⟨#[c]⟩ w).mono fun e w' h => ⟨⟨#[]⟩, h.1, rfl, by rw [h.2]; exact Below.refl _ _⟩
  · obtain ⟨b, off, rfl, hb, hcl⟩ := hcells h0
    refine (lb_strings_Join b off cap gs ⟨#[c]⟩ w (fun j x hx => ?_) hb (by omega) hcap ?_).mono fun e w' h => ⟨_, h.1, ?_, h.2⟩
    · obtain ⟨hj', rfl⟩ := List.getElem?_eq_some_iff.1 hx
      exact hcl j hj'
    · have := congrArg List.length (hj gs)
      rw [List.length_map] at this
      show (Lib.join (gs.map (·.data.toList)) [c]).length ≤ _
      rw [this]; exact hlen
    · rw [bs_mk]; exact hj gs
theorem listG_zero {f : List Nat → Nat} {d : Nat} (hd : d ≠ 0) : ∀ (r pre : List (List Nat)), listG f d pre r = 0 → ∀ x ∈ r, f x = 0
  | [], _, _, x, hx => by simp at hx
  | y :: r, pre, h, x, hx => by
    rw [listG] at h
    by_cases h1 : f y = 0
    · rw [if_neg (by simpa using h1)] at h
      split at h
      · exact absurd h hd
      · rcases List.mem_cons.1 hx with rfl | hx
        · exact h1
        · exact listG_zero hd r _ h x hx
    · rw [if_pos h1] at h; exact absurd h h1
theorem listF_zero {f : List Nat → Nat} {l : List (List Nat)} (h : listF f l = 0) : l.length ≤ 20 ∧ ∀ x ∈ l, f x = 0 := by
  unfold listF at h
  by_cases h1 : 20 < l.length
  · rw [if_pos h1] at h; omega
  · rw [if_neg h1] at h; exact ⟨by omega, listG_zero (by decide) _ _ h⟩
theorem nameF_zero {x : List Nat} (h : nameF x = 0) : x.length ≤ 80 := by
  unfold nameF at h
  by_cases h1 : 80 < x.length
  · rw [if_pos h1] at h; omega
  · omega
theorem joinF_len (m : Nat) (c : Nat) : ∀ l : List (List Nat), (∀ x ∈ l, x.length ≤ m) → (joinF [c] l).length ≤ l.length * (m + 1)
  | [], _ => by simp [joinF]
  | [x], h => by have := h x (by simp); simp [joinF]; omega
  | x :: y :: r, h => by
    have h1 := h x (by simp)
    have h2 := joinF_len m c (y :: r) (fun z hz => h z (by simp [hz]))
    rw [joinF]
    simp only [List.length_append, List.length_cons, List.length_nil] at h2 ⊢
    rw [Nat.succ_mul]; omega
/-- What FormatList returns. -/
def FmtPost (err : Nat) (text : List Nat) (w : World) (e : Ending) (w' : World) : Prop :=
  ∃ t : ByteArray, e = .returned (.tuple #[.string t, .int .i64 (err : Nat)]) ∧ (err = 0 → bs t = text) ∧ (err ≠ 0 → t = ⟨#[]⟩) ∧ Below w.heap.size w w'
set_option maxHeartbeats 1000000 in
theorem flist_any (w : World) (v : Value) (gs : List ByteArray) (hr : SRow w v gs) (hl : gs.length ≤ 1000000) (hz : ∀ g ∈ gs, g.size ≤ 1000000) (hE : Env w) :
    Calls Tryz.prog 52 #[v] w (FmtPost (groupsF (gs.map bs)) (joinF [44] (gs.map bs)) w) := by
  by_cases h0 : gs = []
  · subst h0
    obtain ⟨a, cap, rfl, _, _⟩ := hr
    clear hl hz hE
    go_enter Tryz.func52, Tryz.ntmps52
    go_wp2_with fail
    go_ret2
    exact ⟨⟨#[]⟩, rfl, (fun h => by cases h), (fun _ => rfl), Below.refl _ _⟩
  · have hv : ∃ a cap, v = .slice a gs.length cap := by obtain ⟨a, cap, h, _⟩ := hr; exact ⟨a, cap, h⟩
    obtain ⟨a, cap, rfl⟩ := hv
    have hn0 : gs.length ≠ 0 := fun e => h0 (List.length_eq_zero_iff.1 e)
    have C := Lib.hid (clist_any w _ gs hr hl hz hE)
    have G : Hid (groupsF (gs.map bs) = listF nameF (gs.map bs)) := Lib.hid (by unfold groupsF; rw [if_neg (by simpa using h0)])
    have HR := Lib.hid hr
    have J : Hid (∀ w', Below w.heap.size w w' → listF nameF (gs.map bs) = 0 → Calls Tryz.prog 95 #[.slice a gs.length cap, .string ⟨#[44]⟩] w' (JoinPost 44 (gs.map bs) w')) := Lib.hid (fun w' hb h => by
      obtain ⟨q1, q2⟩ := listF_zero h
      have := joinF_len 80 44 (gs.map bs) (fun x hx => nameF_zero (q2 x hx))
      exact join_any w' _ gs 44 (hr.below hb) hl (by show (joinF [44] (gs.map bs)).length ≤ _; omega))
    obtain ⟨n, hn⟩ : ∃ n, n = gs.length := ⟨_, rfl⟩
    rw [← hn] at hn0 C J ⊢
    have qn : ((n : Int) == 0) = false := int_ne (by omega)
    obtain ⟨m, hm⟩ : ∃ m, m = listF nameF (gs.map bs) := ⟨_, rfl⟩
    rw [← hm] at C G J
    rw [G.out]
    clear hr hl hz hE hn hn0 hm h0
    go_enter Tryz.func52, Tryz.ntmps52
    go_wp2_with fail
    refine C.out.mono ?_
    rintro e w1 ⟨rfl, hb1⟩
    have B1 := Lib.hid hb1
    clear hb1 C
    by_cases m0 : m = 0
    · have q0 : ((m : Int) != 0) = false := int_nneq (by omega)
      have K := Lib.hid (J.out w1 B1.out m0)
      have M0 := Lib.hid m0
      clear m0 J
      go_wp2_with fail
      refine K.out.mono ?_
      rintro e w2 ⟨t, rfl, ht, hb2⟩
      have B2 := Lib.hid (B1.out.trans (hb2.mono B1.out.size))
      have HT := Lib.hid ht
      clear hb2 ht K
      go_wp2_with fail
      go_ret2
      exact ⟨t, by rw [M0.out]; rfl, (fun _ => HT.out), (fun h => absurd M0.out h), B2.out⟩
    · have q0 : ((m : Int) != 0) = true := int_neq (by omega)
      have M0 := Lib.hid m0
      clear m0 J
      go_wp2_with fail
      go_ret2
      exact ⟨⟨#[]⟩, rfl, (fun h => absurd h M0.out), (fun _ => rfl), B1.out⟩
end Go.Proofs.YtohmdledkhgdaaaGreatDoor
