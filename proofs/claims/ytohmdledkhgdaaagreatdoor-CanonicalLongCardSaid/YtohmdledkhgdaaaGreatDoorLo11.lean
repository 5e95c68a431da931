/- msgid.Parse. -/
import Derived.Test.YtohmdledkhgdaaaGreatDoorLo10
namespace Go.Proofs.YtohmdledkhgdaaaGreatDoor
open Go.RowKit
set_option linter.unusedVariables false
set_option maxRecDepth 100000
theorem getD_take {l : List Nat} {n j : Nat} (h : j < n) : (l.take n).getD j 0 = l.getD j 0 := by
  simp only [List.getD_eq_getElem?_getD, List.getElem?_take, if_pos h]
theorem getD_drop {l : List Nat} (n j : Nat) : (l.drop n).getD j 0 = l.getD (n + j) 0 := by
  simp only [List.getD_eq_getElem?_getD, List.getElem?_drop]
theorem all_of_getD {p : Nat → Bool} {l : List Nat} (h : ∀ j, j < l.length → p (l.getD j 0) = true) : l.all p = true := by
  rw [List.all_eq_true]
  intro x hx
  obtain ⟨i, hi, rfl⟩ := List.getElem_of_mem hx
  have := h i hi
  rwa [List.getD_eq_getElem?_getD, List.getElem?_eq_getElem hi, Option.getD_some] at this
theorem mid_digits {l : List Nat} (h71 : l.length = 71) (h : ∀ j, j < 71 → fitB j (l.getD j 0) = true) : ((l.drop 1).take 64).all hdB = true := by
  refine all_of_getD fun j hj => ?_
  rw [List.length_take, List.length_drop] at hj
  rw [getD_take (by omega), getD_drop]
  have := h (1 + j) (by omega)
  unfold fitB at this
  rwa [if_neg (by omega), if_pos (by omega)] at this
theorem mid_good {l : List Nat} (h71 : l.length = 71) (h : ∀ j, j < 71 → fitB j (l.getD j 0) = true) : midP l = some (uh ((l.drop 1).take 64)) := by
  have h0 := h 0 (by omega)
  unfold fitB at h0
  rw [if_pos (by omega), decide_eq_true_iff] at h0
  have h65 : l.drop 65 = sHash := by
    apply List.ext_getElem
    · rw [List.length_drop, h71]; rfl
    · intro j h1 h2
      have h2' : j < 6 := h2
      have := h (65 + j) (by omega)
      unfold fitB at this
      rw [if_neg (by omega), if_neg (by omega), decide_eq_true_iff, show 65 + j - 65 = j by omega, ← getD_drop] at this
      rw [List.getD_eq_getElem?_getD, List.getElem?_eq_getElem h1, Option.getD_some, List.getD_eq_getElem?_getD, List.getElem?_eq_getElem h2, Option.getD_some] at this
      exact this
  unfold midP
  rw [if_pos ⟨h71, h0, h65⟩]
  exact unhex_uh 32 _ (by rw [List.length_take, List.length_drop, h71]; rfl) (mid_digits h71 h)
theorem mid_bad {l : List Nat} {j : Nat} (hj : j < 71) (hl : j < l.length) (h : fitB j (l.getD j 0) = false) : midP l = none := by
  unfold midP
  split
  · rename_i hc
    obtain ⟨h71, h0, h65⟩ := hc
    by_cases h1 : j < 1
    · obtain rfl : j = 0 := by omega
      unfold fitB at h; rw [if_pos (by omega), h0] at h; exact absurd h (by decide)
    · by_cases h2 : j < 65
      · unfold fitB at h
        rw [if_neg h1, if_pos h2] at h
        refine unhex_bad _ ?_
        rw [List.all_eq_false]
        refine ⟨l.getD j 0, ?_, by rw [h]; decide⟩
        have hm : j - 1 < ((l.drop 1).take 64).length := by rw [List.length_take, List.length_drop]; omega
        have : ((l.drop 1).take 64)[j - 1] = l.getD j 0 := by
          have e := getD_take (l := l.drop 1) (n := 64) (j := j - 1) (by omega)
          rw [getD_drop, show 1 + (j - 1) = j by omega] at e
          rw [← e, List.getD_eq_getElem?_getD, List.getElem?_eq_getElem hm, Option.getD_some]
        rw [← this]; exact List.getElem_mem hm
      · unfold fitB at h
        rw [if_neg h1, if_neg h2, decide_eq_false_iff_not] at h
        exfalso; apply h
        rw [← h65, getD_drop, show 65 + (j - 65) = j by omega]
  · rfl
theorem mid_len {l : List Nat} (h : l.length ≠ 71) : midP l = none := by unfold midP; rw [if_neg (fun e => h e.1)]
theorem mid_ok {l id : List Nat} (h : midP l = some id) : IdOk id := by
  unfold midP at h
  split at h
  · rename_i hc
    by_cases hd : ((l.drop 1).take 64).all hdB = true
    · rw [unhex_uh 32 _ (by rw [List.length_take, List.length_drop, hc.1]; rfl) hd] at h
      cases h
      exact ⟨uh_len 32 _ (by rw [List.length_take, List.length_drop, hc.1]; rfl), uh_lt _ hd⟩
    · rw [unhex_bad _ (by simpa using hd)] at h; cases h
  · cases h
/-- What Parse of msgid returns. -/
def MpPost (l : List Nat) (w : World) (e : Ending) (w' : World) : Prop :=
  ∃ (a er : Int), (match midP l with
    | some id => e = .returned (.tuple #[.agg (idA id), .int .i64 a, .int .i64 0])
    | none => e = .returned (.tuple #[.agg (idA zero32), .int .i64 a, .int .i64 er]) ∧ er ≠ 0) ∧ Below w.heap.size w w'
theorem results_cell_tmp2 {P : Program} {fn : Func} {p u v : Tmp} {ty : TypeId} (h : fn.results = #[.cell p ty, .tmp u, .tmp v]) (tmps : Array Value) (w : World) (g : Nat) (t : TypeId) (cs : Array Value) (fr : Nat × Nat) (d : TypeDesc)
    (hp : tmps.getD p undef = .pointer (some ⟨g, 0, none⟩)) (hg : w.heap[g]? = some (.cells cs t fr))
    (hu : P.underlying ty = some d) (hd : (match d with | .struct _ | .array _ _ => true | _ => false) = true) (hi : (P.info? ty).map (·.size) = some cs.size) :
    (results fn tmps).run P w = .ok (.tuple #[.agg cs, tmps.getD u undef, tmps.getD v undef]) w := by
  have hp' : tmps[p]?.getD undef = .pointer (some ⟨g, 0, none⟩) := by simpa using hp
  simp [results, h, hp', asAddr, run_loadVar_row w g t ty cs fr d hg hu hd hi]
theorem zero_ok : IdOk zero32 := ⟨by simp [zero32], fun x hx => by simp [zero32] at hx; omega⟩
set_option maxHeartbeats 4000000 in
theorem mparse_any (s : ByteArray) (w : World) (hs : s.size ≤ 1000000) :
    Calls Tryz.prog 115 #[.string s] w (MpPost (bs s) w) := by
  obtain ⟨zs, hzs⟩ : ∃ zs, zs = idA zero32 := ⟨_, rfl⟩
  have LEN := Lib.hid (bs_length s)
  have HZS := Lib.hid hzs
  have z32 : zs.size = 32 := by rw [hzs]; rfl
  have Z32 := Lib.hid z32
  have BU : Hid (∀ w, (Instr.build 26 #[]).run Tryz.prog w = .ok (.agg zs) w) := Lib.hid (fun w => by rw [hzs]; kernel_rfl)
  have STN : Hid ((storeVar 26 ⟨w.heap.size, 0, none⟩ (.agg zs)).run Tryz.prog (w.alloc (.cells zs 26)) = .ok () (w.alloc (.cells zs 26))) := Lib.hid (run_storeVar_new w 26 zs zs (by rw [z32]; exact size23) rfl (by rw [hzs]; exact one_idA _))
  have RES : Hid (∀ (tmps : Array Value), tmps.getD 2 undef = .pointer (some ⟨w.heap.size, 0, none⟩) → (results Tryz.f115 tmps).run Tryz.prog (w.alloc (.cells zs 26)) = .ok (.tuple #[.agg zs, tmps.getD 3 undef, tmps.getD 4 undef]) (w.alloc (.cells zs 26))) := Lib.hid (fun tmps h =>
    results_cell_tmp2 Tryz.results115 tmps _ w.heap.size _ zs _ _ h (heap_alloc_last w _) Tryz.underlying26 rfl (by rw [Z32.out]; exact size23))
  have B0 : Hid (Below w.heap.size w (w.alloc (.cells zs 26))) := Lib.hid ((Below.refl _ _).alloc (Nat.le_refl _) _)
  have NO : Hid (midP (bs s) = none → ∀ a er : Int, er ≠ 0 → MpPost (bs s) w (.returned (.tuple #[.agg zs, .int .i64 a, .int .i64 er])) (w.alloc (.cells zs 26))) := Lib.hid (fun h a er he => ⟨a, er, by rw [h, HZS.out]; exact ⟨rfl, he⟩, B0.out⟩)
  have BAD : Hid (∀ j, j < 71 → j < s.size → fitB j ((bs s).getD j 0) = false → midP (bs s) = none) := Lib.hid (fun j h1 h2 h3 => mid_bad h1 (by rw [LEN.out]; exact h2) h3)
  obtain ⟨mn, hmn⟩ : ∃ mn : Nat, mn = min s.size 71 := ⟨_, rfl⟩
  have hm1 : mn ≤ s.size := by omega
  have hm2 : mn ≤ 71 := by omega
  have HMN := Lib.hid hmn
  have mi : min (s.size : Int) 71 = (mn : Int) := by omega
  have START : Hid (w.alloc (.cells (Array.replicate 32 (.int .u8 0)) 26) = w.alloc (.cells zs 26)) := Lib.hid (by rw [hzs]; rfl)
  clear hzs z32 hmn
  go_enter Tryz.func115, Tryz.ntmps115
  go_wp2_with fail
  go_loopg [5, 10] mn (fun k x i wr => ∃ j : Nat, j ≤ mn ∧ k = mn - j ∧ i = .int .i64 (j : Int) ∧ Hid (∀ q, q < j → fitB q ((bs s).getD q 0) = true) ∧ w.alloc (.cells zs 26) = wr)
  case atStart => exact ⟨0, by omega, rfl, rfl, (fun q hq => by omega), START.out.symm⟩
  case round =>
    obtain ⟨j, hj, rfl, rfl, hg, rfl⟩ := hrel
    by_cases hlt : j < mn
    · obtain ⟨c, hc⟩ : ∃ c, c = (bs s).getD j 0 := ⟨_, rfl⟩
      have hc2 : c < 256 := by rw [hc]; exact bs_lt' s j
      have xn : ∀ w, (Instr.index 9 (.string s) (.int .i64 (j : Int))).run Tryz.prog w = .ok (.int .u8 (c : Int)) w := fun w => by rw [idx_str 9 Tryz.underlying9 s .i64 j j rfl (by omega), hc]
      have F := Lib.hid (fun w => fits_any w j c (by omega) hc2)
      obtain ⟨b, hb⟩ : ∃ b, b = fitB j c := ⟨_, rfl⟩
      rw [← hb] at F
      have HB := Lib.hid hb; have HC := Lib.hid hc
      clear hc hb
      cases b
      · have NN := Lib.hid (NO.out (BAD.out j (by omega) (by omega) (by rw [← HC.out, ← HB.out])))
        go_wp2_with (first
          | (go_at_call 155; refine (F.out _).mono ?_; rintro e w' ⟨rfl, rfl⟩)
          | ((with_reducible refine wpList_build0 26 rfl rfl ?_); refine ⟨_, BU.out _, ?_⟩)
          | ((with_reducible refine wpList_store 26 rfl _ _ rfl ?_); refine ⟨_, _, _, rfl, rfl, STN.out, ?_⟩))
        exact bodyPost_ret (RES.out _ rfl) rfl (NN.out _ 6 (by decide))
      · have G2 : Hid (∀ q, q < j + 1 → fitB q ((bs s).getD q 0) = true) := Lib.hid (fun q hq => by
          by_cases e : q = j
          · rw [e, ← HC.out, ← HB.out]
          · exact hg.out q (by omega))
        go_wp2_with (go_at_call 155; refine (F.out _).mono ?_; rintro e w' ⟨rfl, rfl⟩)
        go_roundg (mn - (j + 1))
        case measure => omega
        case rel => exact ⟨j + 1, by omega, rfl, by go_num, G2, rfl⟩
    · obtain rfl : j = mn := by omega
      by_cases h1 : s.size < 71
      · have NN := Lib.hid (NO.out (mid_len (by rw [LEN.out]; omega)))
        go_wp2_with (first
          | ((with_reducible refine wpList_build0 26 rfl rfl ?_); refine ⟨_, BU.out _, ?_⟩)
          | ((with_reducible refine wpList_store 26 rfl _ _ rfl ?_); refine ⟨_, _, _, rfl, rfl, STN.out, ?_⟩))
        exact bodyPost_ret (RES.out _ rfl) rfl (NN.out _ 4 (by decide))
      · by_cases h2 : 71 < s.size
        · have NN := Lib.hid (NO.out (mid_len (by rw [LEN.out]; omega)))
          go_wp2_with (first
            | ((with_reducible refine wpList_build0 26 rfl rfl ?_); refine ⟨_, BU.out _, ?_⟩)
            | ((with_reducible refine wpList_store 26 rfl _ _ rfl ?_); refine ⟨_, _, _, rfl, rfl, STN.out, ?_⟩))
          exact bodyPost_ret (RES.out _ rfl) rfl (NN.out _ 5 (by decide))
        · have h71 : s.size = 71 := by omega
          have hj71 : j = 71 := by have := HMN.out; omega
          have ME : bs (s.extract 1 65) = ((bs s).drop 1).take 64 := by rw [bs_extract, List.drop_take]
          have GG : ∀ q, q < 71 → fitB q ((bs s).getD q 0) = true := fun q hq => hg.out q (by omega)
          have YES := Lib.hid (mid_good (by rw [LEN.out]; exact h71) GG)
          have DG := mid_digits (by rw [LEN.out]; exact h71) GG
          have UX := Lib.hid (unhex_any (s.extract 1 65) 32 (w.alloc (.cells zs 26)) (by rw [ByteArray.size_extract]; omega) (by rw [ByteArray.size_extract]; omega) (by rw [ME]; exact DG))
          rw [ME] at UX
          have IDOK := Lib.hid (mid_ok YES.out)
          clear ME GG DG hg hj71 BU STN
          go_wp2_with fail
          refine UX.out.mono ?_
          rintro e w1 ⟨v, rfl, hown, hb1⟩
          obtain ⟨ul, hul⟩ : ∃ ul, ul = uh (((bs s).drop 1).take 64) := ⟨_, rfl⟩
          rw [← hul] at hown YES IDOK
          obtain ⟨g, cap, rfl⟩ := ownsRow_succ hown
          have hown' : w1.ownsRow (w.alloc (.cells zs 26)).heap.size 5 1 (.slice (some ⟨g, 0, none⟩) 32 cap) 32 (ul.map U) := hown
          have UL : Hid (ul.length = 32) := Lib.hid IDOK.out.len
          have LD : Hid ((loadVar 26 ⟨g, 0, none⟩).run Tryz.prog w1 = .ok (.agg (idA ul)) w1) := Lib.hid (run_loadVar_cells w1 g 0 _ _ _ Tryz.underlying26 rfl (by rw [idA_size, UL.out]; exact size23) (by
            intro j u hu
            have hj : j < 32 := by
              have := (Array.getElem?_eq_some_iff.1 hu).1
              rw [idA_size, UL.out] at this; exact this
            rw [Nat.zero_add, hown'.cellAt j (by omega)]
            unfold idA at hu
            rw [List.getElem?_toArray] at hu
            exact hu))
          have hz1 : w1.heap[w.heap.size]? = some (.cells zs 26 (0, 0)) := (hb1.block w.heap.size (by simp)).trans (heap_alloc_new w _)
          have hb0 : Below w.heap.size w w1 := B0.out.trans (hb1.mono (by simp))
          have ST := Lib.hid (run_storeVar_row (P := Tryz.prog) w1 w.heap.size _ 26 zs (idA ul) hz1 (by rw [idA_size, UL.out]; exact size23) (by rw [idA_size, UL.out, Z32.out]) (one_idA _))
          have W2 := Lib.hid (setRow_heap w1 w.heap.size zs (idA ul) _ _ hz1)
          have B2 := Lib.hid (below_setRow hb0 (Nat.le_refl w.heap.size) (idA ul))
          have hat : ∀ w, (Instr.arrayAt 26 (.slice (some ⟨g, 0, none⟩) (31 + 1) cap)).run Tryz.prog w = .ok (.pointer (some ⟨g, 0, none⟩)) w := fun w => by kernel_rfl
          obtain ⟨xs, hxs⟩ : ∃ xs, xs = idA ul := ⟨_, rfl⟩
          have XL : Hid (xs.size = 32) := Lib.hid (by rw [hxs, idA_size, UL.out])
          rw [← hxs] at LD ST W2 B2
          have HXS := Lib.hid hxs
          clear hown hown' hul hb1 hb0 hz1 hxs RES NO BAD START
          go_wp2_with (first
            | ((with_reducible refine wpList_load 26 rfl _ rfl ?_); refine ⟨_, _, rfl, LD.out, ?_⟩)
            | ((with_reducible refine wpList_store 26 rfl _ _ rfl ?_); refine ⟨_, _, _, rfl, rfl, ST.out, ?_⟩))
          exact bodyPost_ret (results_cell_tmp2 Tryz.results115 _ _ w.heap.size _ _ _ _ rfl W2.out Tryz.underlying26 rfl (by rw [XL.out]; exact size23)) rfl (by unfold MpPost; rw [YES.out]; simp only []; rw [← HXS.out]; exact ⟨_, 0, rfl, B2.out⟩)
theorem all_take_succ {p : Nat → Bool} {l : List Nat} {k c : Nat} (hk : k < l.length) (hc : c = l.getD k 0) : (l.take (k + 1)).all p = ((l.take k).all p && p c) := by
  rw [List.getD_eq_getElem?_getD, List.getElem?_eq_getElem hk, Option.getD_some] at hc
  rw [List.take_succ_eq_append_getElem hk, List.all_append, ← hc]; simp
theorem all_hit {p : Nat → Bool} {l : List Nat} {k c : Nat} (hk : k < l.length) (hc : c = l.getD k 0) (h : p c = false) : l.all p = false := by
  rw [List.getD_eq_getElem?_getD, List.getElem?_eq_getElem hk, Option.getD_some] at hc
  rw [List.all_eq_false]; exact ⟨_, List.getElem_mem hk, by rw [← hc, h]; decide⟩
set_option maxHeartbeats 1000000 in
theorem ctext_any (s : ByteArray) (w : World) (hs : s.size ≤ 1000000) :
    Calls Tryz.prog 227 #[.string s] w fun e w' => e = .returned (.int .i64 (txtF (bs s) : Nat)) ∧ w = w' := by
  have LEN := Lib.hid (bs_length s)
  by_cases h200 : 200 < s.size
  · have T : Hid (txtF (bs s) = 5) := Lib.hid (by unfold txtF; rw [if_pos (by rw [LEN.out]; exact h200)])
    go_enter Tryz.func227, Tryz.ntmps227
    go_wp2_with fail
    go_ret
    exact ⟨by rw [T.out]; rfl, rfl⟩
  · have P1 := Lib.hid (fun w => lb_strings_HasPrefix s ⟨#[32]⟩ w)
    have P2 := Lib.hid (fun w => lb_strings_HasSuffix s ⟨#[32]⟩ w (by omega))
    rw [show (⟨#[32]⟩ : ByteArray).data.toList = [32] from rfl, hasPre1] at P1
    rw [show (⟨#[32]⟩ : ByteArray).data.toList = [32] from rfl, hasSuf1] at P2
    obtain ⟨a, ha⟩ : ∃ a, a = decide ((bs s).head? = some 32) := ⟨_, rfl⟩
    obtain ⟨b, hb⟩ : ∃ b, b = decide ((bs s).getLast? = some 32) := ⟨_, rfl⟩
    have P1' : Hid (∀ w, Calls Tryz.prog 26 #[.string s, .string ⟨#[32]⟩] w fun e w' => e = .returned (.bool a) ∧ w' = w) := Lib.hid (by rw [ha]; exact P1.out)
    have P2' : Hid (∀ w, Calls Tryz.prog 21 #[.string s, .string ⟨#[32]⟩] w fun e w' => e = .returned (.bool b) ∧ w' = w) := Lib.hid (by rw [hb]; exact P2.out)
    have T : Hid (txtF (bs s) = if (bs s).all prC = false then 6 else if (a || b) = true then 3 else 0) := Lib.hid (by
      unfold txtF; rw [if_neg (by rw [LEN.out]; exact h200), ha, hb]; simp)
    clear P1 P2 ha hb
    go_enter Tryz.func227, Tryz.ntmps227
    go_wp2_with fail
    go_loopg [3, 9] s.size (fun k c i wr => ∃ j : Nat, j ≤ s.size ∧ k = s.size - j ∧ i = .int .i64 (j : Int) ∧ Hid (((bs s).take j).all prC = true) ∧ w = wr)
    case atStart => exact ⟨0, by omega, rfl, rfl, rfl, rfl⟩
    case round =>
      obtain ⟨j, hj, rfl, rfl, hr, rfl⟩ := hrel
      by_cases hlt : j < s.size
      · obtain ⟨c, hc⟩ : ∃ c, c = (bs s).getD j 0 := ⟨_, rfl⟩
        have hc2 : c < 256 := by rw [hc]; exact bs_lt' s j
        have xn : ∀ w, (Instr.index 9 (.string s) (.int .i64 (j : Int))).run Tryz.prog w = .ok (.int .u8 (c : Int)) w := fun w => by rw [idx_str 9 Tryz.underlying9 s .i64 j j rfl hlt, hc]
        have HC := Lib.hid hc
        have HJ : Hid (j < (bs s).length) := Lib.hid (by rw [LEN.out]; exact hlt)
        clear hc
        rcases (by omega : c < 32 ∨ (32 ≤ c ∧ c ≤ 126) ∨ 126 < c) with h | ⟨h, h2⟩ | h
        · have ST : Hid (txtF (bs s) = 6) := Lib.hid (by rw [T.out, if_pos (all_hit HJ.out HC.out (by unfold prC; rw [decide_eq_false (by omega)]; rfl))])
          go_wp2_with fail
          go_ret
          exact ⟨by rw [ST.out]; rfl, rfl⟩
        · have ST : Hid (((bs s).take (j + 1)).all prC = true) := Lib.hid (by rw [all_take_succ HJ.out HC.out, hr.out]; unfold prC; rw [decide_eq_true h, decide_eq_true h2]; rfl)
          go_wp2_with fail
          go_roundg (s.size - (j + 1))
          case measure => omega
          case rel => exact ⟨j + 1, by omega, rfl, by go_num, ST, rfl⟩
        · have ST : Hid (txtF (bs s) = 6) := Lib.hid (by rw [T.out, if_pos (all_hit HJ.out HC.out (by unfold prC; rw [decide_eq_false (show ¬ c ≤ 126 by omega), Bool.and_false]))])
          have h3 : ¬ c < 32 := by omega
          go_wp2_with fail
          go_ret
          exact ⟨by rw [ST.out]; rfl, rfl⟩
      · obtain rfl : j = s.size := by omega
        have ST : Hid (txtF (bs s) = if (a || b) = true then 3 else 0) := Lib.hid (by
          rw [T.out, if_neg]; rw [List.take_of_length_le (by rw [LEN.out]; exact Nat.le_refl _)] at hr; rw [hr.out]; decide)
        clear hr T
        cases a <;> cases b
        all_goals
          go_wp2_with (first
            | (go_at_call 26; refine (P1'.out _).mono ?_; rintro e w' ⟨rfl, h⟩; cases h)
            | (go_at_call 21; refine (P2'.out _).mono ?_; rintro e w' ⟨rfl, h⟩; cases h))
          go_ret
          exact ⟨by rw [ST.out]; rfl, rfl⟩
/-- The value of digits. -/
def dval (l : List Nat) : Nat := l.foldl (fun n c => 10 * n + (c - 48)) 0
theorem dval_succ {l : List Nat} {k c : Nat} (hk : k < l.length) (hc : c = l.getD k 0) : dval (l.take (k + 1)) = 10 * dval (l.take k) + (c - 48) := by
  rw [List.getD_eq_getElem?_getD, List.getElem?_eq_getElem hk, Option.getD_some] at hc
  rw [List.take_succ_eq_append_getElem hk, dval, dval, List.foldl_append, ← hc]; rfl
theorem dval_lt {l : List Nat} : ∀ k, k ≤ 7 → (∀ j, j < k → l.getD j 0 < 58) → k ≤ l.length → dval (l.take k) < 10 ^ k
  | 0, _, _, _ => by simp [dval]
  | k + 1, h7, h, hl => by
    have ih := dval_lt k (by omega) (fun j hj => h j (by omega)) (by omega)
    rw [dval_succ (by omega) rfl]
    have := h k (by omega)
    rw [Nat.pow_succ]; omega
theorem dval_big {l : List Nat} (k : Nat) (h7 : k ≤ 7) (h : dval (l.take k) < 10 ^ k) : dval (l.take k) < 10000000 := Nat.lt_of_lt_of_le h (by
  have : (10 : Nat) ^ k ≤ 10 ^ 7 := Nat.pow_le_pow_right (by omega) h7
  simpa using this)
/-- What decimal returns. -/
def DecPost2 (l : List Nat) (w : World) (e : Ending) (w' : World) : Prop :=
  (match numP l with | none => e = .returned (.tuple #[.int .i64 0, .bool false]) | some n => e = .returned (.tuple #[.int .i64 (n : Int), .bool true])) ∧ w = w'
theorem numP_no {l : List Nat} (h : l = [] ∨ 7 < l.length ∨ (1 < l.length ∧ l.getD 0 0 = 48) ∨ l.all dig = false) : numP l = none := by unfold numP; rw [if_pos h]
theorem numP_yes {l : List Nat} (h : ¬ (l = [] ∨ 7 < l.length ∨ (1 < l.length ∧ l.getD 0 0 = 48) ∨ l.all dig = false)) : numP l = some (dval l) := by unfold numP; rw [if_neg h]; rfl
set_option maxHeartbeats 2000000 in
theorem decimal_any (s : ByteArray) (w : World) (hs : s.size ≤ 1000000) :
    Calls Tryz.prog 225 #[.string s] w (DecPost2 (bs s) w) := by
  have LEN := Lib.hid (bs_length s)
  by_cases h0 : s.size = 0
  · obtain rfl := str_emp h0
    clear h0 hs
    go_enter Tryz.func225, Tryz.ntmps225
    go_wp2_with fail
    go_ret2
    exact ⟨rfl, rfl⟩
  · have n0 := str_ne h0
    by_cases h7 : 7 < s.size
    · have N : Hid (numP (bs s) = none) := Lib.hid (numP_no (.inr (.inl (by rw [LEN.out]; exact h7))))
      go_enter Tryz.func225, Tryz.ntmps225
      go_wp2_with fail
      go_ret2
      exact ⟨by rw [N.out]; rfl, rfl⟩
    · obtain ⟨f, hf⟩ : ∃ f, f = (bs s).getD 0 0 := ⟨_, rfl⟩
      have hf2 : f < 256 := by rw [hf]; exact bs_lt' s 0
      have x0 := idx0 s f hf (by omega)
      have HF := Lib.hid hf
      clear hf
      by_cases hz : 1 < s.size ∧ f = 48
      · have N : Hid (numP (bs s) = none) := Lib.hid (numP_no (.inr (.inr (.inl ⟨by rw [LEN.out]; exact hz.1, by rw [← HF.out]; exact hz.2⟩))))
        obtain ⟨hz1, rfl⟩ := hz
        go_enter Tryz.func225, Tryz.ntmps225
        go_wp2_with fail
        go_ret2
        exact ⟨by rw [N.out]; rfl, rfl⟩
      · have ZN : Hid (¬ (1 < (bs s).length ∧ (bs s).getD 0 0 = 48)) := Lib.hid (by rw [LEN.out, ← HF.out]; exact hz)
        have NE : Hid (bs s ≠ []) := Lib.hid (fun e => h0 (by rw [← LEN.out, e]; rfl))
        have BAD : Hid (∀ j c, j < s.size → c = (bs s).getD j 0 → dig c = false → numP (bs s) = none) := Lib.hid (fun j c h1 h2 h3 => numP_no (.inr (.inr (.inr (all_hit (by rw [LEN.out]; exact h1) h2 h3)))))
        have GOOD : Hid ((∀ j, j < s.size → dig ((bs s).getD j 0) = true) → numP (bs s) = some (dval (bs s))) := Lib.hid (fun hd => numP_yes (by
          rintro (h | h | h | h)
          · exact NE.out h
          · rw [LEN.out] at h; exact h7 h
          · exact ZN.out h
          · rw [List.all_eq_false] at h
            obtain ⟨x, hx, hn⟩ := h
            obtain ⟨i, hi, rfl⟩ := List.getElem_of_mem hx
            have := hd i (by rw [← LEN.out]; exact hi)
            rw [List.getD_eq_getElem?_getD, List.getElem?_eq_getElem hi, Option.getD_some] at this
            exact hn this))
        have K : ¬ 1 < s.size ∨ (1 < s.size ∧ ((f : Int) == 48) = false) := by
          by_cases h : 1 < s.size
          · exact .inr ⟨h, int_ne (fun e => hz ⟨h, by omega⟩)⟩
          · exact .inl h
        clear hz
        rcases K with K | ⟨K, q48⟩
        all_goals
          go_enter Tryz.func225, Tryz.ntmps225
          go_wp2_with fail
          go_loopg [4, 5, 25] s.size (fun k n c i wr => ∃ j : Nat, j ≤ s.size ∧ k = s.size - j ∧ i = .int .i64 (j : Int) ∧ n = .int .i64 (dval ((bs s).take j) : Nat) ∧ dval ((bs s).take j) < 10000000 ∧ Hid (∀ q, q < j → dig ((bs s).getD q 0) = true) ∧ w = wr)
          case atStart => exact ⟨0, by omega, rfl, rfl, rfl, by simp [dval], (fun q hq => by omega), rfl⟩
          case round =>
            obtain ⟨j, hj, rfl, rfl, rfl, hd, hg, rfl⟩ := hrel
            by_cases hlt : j < s.size
            · obtain ⟨c, hc⟩ : ∃ c, c = (bs s).getD j 0 := ⟨_, rfl⟩
              have hc2 : c < 256 := by rw [hc]; exact bs_lt' s j
              have xn : ∀ w, (Instr.index 9 (.string s) (.int .i64 (j : Int))).run Tryz.prog w = .ok (.int .u8 (c : Int)) w := fun w => by rw [idx_str 9 Tryz.underlying9 s .i64 j j rfl hlt, hc]
              have HC := Lib.hid hc
              have DS : Hid (dval ((bs s).take (j + 1)) = 10 * dval ((bs s).take j) + (c - 48)) := Lib.hid (dval_succ (by rw [LEN.out]; exact hlt) hc)
              obtain ⟨d, hdv⟩ : ∃ d, d = dval ((bs s).take j) := ⟨_, rfl⟩
              rw [← hdv] at hd DS ⊢
              clear hc hdv
              rcases (by omega : c < 48 ∨ (48 ≤ c ∧ c ≤ 57) ∨ 57 < c) with h | ⟨h, h2⟩ | h
              · have ST : Hid (numP (bs s) = none) := Lib.hid (BAD.out j c hlt HC.out (by unfold dig; rw [decide_eq_false (by omega)]; rfl))
                go_wp2_with fail
                go_ret2
                exact ⟨by rw [ST.out]; rfl, rfl⟩
              · have G2 : Hid (∀ q, q < j + 1 → dig ((bs s).getD q 0) = true) := Lib.hid (fun q hq => by
                  by_cases e : q = j
                  · rw [e, ← HC.out]; unfold dig; rw [decide_eq_true h, decide_eq_true h2]; rfl
                  · exact hg.out q (by omega))
                have B2 : Hid (dval ((bs s).take (j + 1)) < 10000000) := Lib.hid (dval_big (j + 1) (by omega) (dval_lt (j + 1) (by omega) (fun q hq => by have := G2.out q hq; unfold dig at this; simp at this; simpa using (by omega : (bs s)[q]?.getD 0 < 58)) (by rw [LEN.out]; omega)))
                have w1 : IntKind.i64.wrap (10 * (d : Int) + ((c : Int) - 48)) = 10 * (d : Int) + ((c : Int) - 48) := IntWalk.i64_in _ (by omega)
                have h3 : ¬ c < 48 := by omega
                have h4 : ¬ 57 < c := by omega
                go_wp2_with fail
                go_roundg (s.size - (j + 1))
                case measure => omega
                case rel => exact ⟨j + 1, by omega, rfl, by go_num, by rw [DS.out]; first | rfl | (congr 1; omega), B2.out, G2, rfl⟩
              · have ST : Hid (numP (bs s) = none) := Lib.hid (BAD.out j c hlt HC.out (by unfold dig; rw [decide_eq_false (show ¬ c ≤ 57 by omega), Bool.and_false]))
                have h3 : ¬ c < 48 := by omega
                go_wp2_with fail
                go_ret2
                exact ⟨by rw [ST.out]; rfl, rfl⟩
            · obtain rfl : j = s.size := by omega
              have ST : Hid (numP (bs s) = some (dval (bs s))) := Lib.hid (GOOD.out hg.out)
              rw [List.take_of_length_le (by rw [LEN.out]; exact Nat.le_refl _)]
              clear hd
              go_wp2_with fail
              go_ret2
              exact ⟨by rw [ST.out]; rfl, rfl⟩
/-- The words in block b: the text, the last word's place and end, the error and its place. -/
def WS (w : World) (b : Nat) (t : ByteArray) (st en : Nat) (at_ : Int) (er : Nat) : Prop :=
  w.heap[b]? = some (.cells #[.string t, .int .i64 (st : Int), .int .i64 (en : Int), .int .i64 at_, .int .i64 (er : Int)] 207 (0, 0)) ∧ en ≤ t.size
theorem WS.lt {w : World} {b : Nat} {t : ByteArray} {st en : Nat} {at_ : Int} {er : Nat} (h : WS w b t st en at_ er) : b < w.heap.size := lt_of_block h.1
theorem WS.below {w w' : World} {b : Nat} {t : ByteArray} {st en : Nat} {at_ : Int} {er : Nat} (h : WS w b t st en at_ er) (hb : Below w.heap.size w w') : WS w' b t st en at_ er := ⟨(hb.block b h.lt).trans h.1, h.2⟩
theorem Fr1.setC {b j : Nat} {w : World} (u : Value) : Fr1 b w (w.setCell ⟨b, j, none⟩ u) :=
  ⟨rfl, rfl, rfl, by simp [World.setCell], fun k _ hne => Below.heap_setCell _ _ _ _ hne⟩
/-- What a method that reads words leaves. -/
def FailPost (w : World) (b : Nat) (t : ByteArray) (st en er n : Nat) (e : Ending) (w' : World) : Prop :=
  (∃ v, e = .returned v) ∧ (∃ a, WS w' b t st en a (fe er n)) ∧ Fr1 b w w'
theorem fail_any (w : World) (b : Nat) (t : ByteArray) (st en : Nat) (at_ : Int) (er : Nat) (h : WS w b t st en at_ er) (k : Int) (n : Nat) :
    Calls Tryz.prog 146 #[.pointer (some ⟨b, 0, none⟩), .int .i64 k, .int .i64 (n : Int)] w (FailPost w b t st en er n) := by
  have hc4 : w.cell? ⟨b, 4, none⟩ = some (.int .i64 (er : Int)) := cell_of_row w b 4 _ _ _ h.1
  have hc3 : w.cell? ⟨b, 3, none⟩ = some (.int .i64 at_) := cell_of_row w b 3 _ _ _ h.1
  have hf3 : w.frozen? ⟨b, 3, none⟩ = false := by have := h.1; simp [World.frozen?, this]
  have hf4 : w.frozen? ⟨b, 4, none⟩ = false := by have := h.1; simp [World.frozen?, this]
  have H := Lib.hid h
  clear h
  by_cases h0 : er = 0
  · subst h0
    by_cases hn : n = 0
    · subst hn
      go_enter Tryz.func146, Tryz.ntmps146
      go_wp2_with fail
      go_end0
      exact ⟨⟨_, rfl⟩, ⟨_, H.out⟩, Fr1.refl _ _⟩
    · have hz : ((n : Int) == 0) = false := int_ne (by omega)
      have hz2 : ((n : Int) != 0) = true := by simp [bne, hz]
      have HN := Lib.hid hn
      have S2 : Hid (WS ((w.setCell ⟨b, 3, none⟩ (.int .i64 k)).setCell ⟨b, 4, none⟩ (.int .i64 (n : Int))) b t st en k n) := Lib.hid ⟨setB (setB H.out.1 3 _) 4 _, H.out.2⟩
      clear hn
      go_enter Tryz.func146, Tryz.ntmps146
      go_wp2_with fail
      go_end0
      exact ⟨⟨_, rfl⟩, ⟨_, S2.out⟩, (Fr1.setC _).trans (Fr1.setC _)⟩
  · have hz : ((er : Int) == 0) = false := int_ne (by omega)
    have HE : Hid (fe er n = er) := Lib.hid (by unfold fe; rw [if_pos h0])
    clear h0
    go_enter Tryz.func146, Tryz.ntmps146
    go_wp2_with fail
    go_end0
    exact ⟨⟨_, rfl⟩, ⟨_, by rw [HE.out]; exact H.out⟩, Fr1.refl _ _⟩
theorem cut_det (t : ByteArray) (c : UInt8) (hs : t.size < 4294967281) :
    ∃ (x y : ByteArray) (b : Bool), (bs x = upto c.toNat (bs t) ∧ bs y = (bs t).drop ((upto c.toNat (bs t)).length + 1) ∧ b = decide ((upto c.toNat (bs t)).length < (bs t).length) ∧ x.size ≤ t.size) ∧
      ∀ w : World, (∃ m, w.cell? ⟨2, 0, none⟩ = some (.int .i64 m)) → Calls Tryz.prog 67 #[.string t, .string ⟨#[c]⟩] w fun e w' => e = .returned (.tuple #[.string x, .string y, .bool b]) ∧ Dr w w' := by
  refine ⟨⟨(Lib.cut t.data.toList [c]).1.toArray⟩, ⟨(Lib.cut t.data.toList [c]).2.1.toArray⟩, (Lib.cut t.data.toList [c]).2.2, ⟨?_, ?_, ?_, ?_⟩, ?_⟩
  case refine_5 =>
    rintro w ⟨m, hm⟩
    exact (lb_strings_Cut t ⟨#[c]⟩ m w hs hm).mono fun e w' ⟨h1, h2⟩ => ⟨h1, h2⟩
  all_goals
    have hix := Lib.index_one t.data.toList c
    unfold Lib.cut
    rw [hix]
    by_cases h : Lib.indexByte t.data.toList c = -1
    · have hn := indexByte_none h
      rw [h]
      simp only [show ¬ (0 : Int) ≤ -1 by decide, if_false]
      have hu : upto c.toNat (bs t) = bs t := hn
      first
        | (rw [bs_mk]; exact hu.symm)
        | (rw [bs_mk, hu, List.drop_of_length_le (by omega)]; rfl)
        | (rw [hu]; simp)
        | exact Nat.le_refl _
    · have hge := Lib.index_ge t.data.toList [c]
      rw [hix] at hge
      obtain ⟨i, hi⟩ : ∃ i : Nat, Lib.indexByte t.data.toList c = i := ⟨(Lib.indexByte t.data.toList c).toNat, by omega⟩
      obtain ⟨h3, h4, h5⟩ := indexByte_some hi
      rw [hi]
      have hl : t.data.toList.length = (bs t).length := by simp [bs]
      have hu : upto c.toNat (bs t) = (bs t).take i := h3
      have hul : (upto c.toNat (bs t)).length = i := by rw [hu, List.length_take]; omega
      simp only [show (0 : Int) ≤ (i : Int) from Int.natCast_nonneg i, if_true, Int.toNat_natCast, List.length_singleton]
      first
        | (rw [bs_mk, hu, List.map_take]; rfl)
        | (rw [bs_mk, hul, List.map_drop]; rfl)
        | (rw [hul]; simp; omega)
        | (rw [← bs_length, bs_mk, ← bs_length]; simp [bs]; omega)
theorem Dr.fr {b : Nat} {w w' : World} (h : Dr w w') : Fr1 b w w' := Fr1.of_below (Dr.below h)
theorem fr_env {b : Nat} {w w' : World} (hE : Env w) (hb : 9 ≤ b) (h : Fr1 b w w') : Env w' := hE.below (h.below hE.size hb) (Nat.le_refl _)
/-- What the word's reader leaves: the word and whether there is one. -/
def NxPost (w : World) (b : Nat) (t : ByteArray) (st en : Nat) (er : Nat) (e : Ending) (w' : World) : Prop :=
  ∃ (x : ByteArray) (ok : Bool) (st' en' : Nat) (a : Int) (er' : Nat), e = .returned (.tuple #[.string x, .bool ok]) ∧ WS w' b t st' en' a er' ∧ Fr1 b w w' ∧ x.size ≤ t.size ∧
    ((ok = false ∧ er' ≠ 0 ∧ ∀ k, fe er (nxt ((bs t).drop en) k) = er') ∨
     (ok = true ∧ er = 0 ∧ er' = 0 ∧ ∀ k, nxt ((bs t).drop en) k = k (bs x) ((bs t).drop en')))
set_option maxHeartbeats 1000000 in
theorem next_any (w : World) (b : Nat) (t : ByteArray) (st en : Nat) (at_ : Int) (er : Nat) (h : WS w b t st en at_ er) (hE : Env w) (hb9 : 9 ≤ b) (ht : t.size ≤ 1000000) :
    Calls Tryz.prog 224 #[.pointer (some ⟨b, 0, none⟩)] w (NxPost w b t st en er) := by
  have hc0 : w.cell? ⟨b, 0, none⟩ = some (.string t) := cell_of_row w b 0 _ _ _ h.1
  have hc2 : w.cell? ⟨b, 2, none⟩ = some (.int .i64 (en : Int)) := cell_of_row w b 2 _ _ _ h.1
  have hc4 : w.cell? ⟨b, 4, none⟩ = some (.int .i64 (er : Int)) := cell_of_row w b 4 _ _ _ h.1
  have hc1 : w.cell? ⟨b, 1, none⟩ = some (.int .i64 (st : Int)) := cell_of_row w b 1 _ _ _ h.1
  have hf1 : w.frozen? ⟨b, 1, none⟩ = false := by have := h.1; simp [World.frozen?, this]
  have hen := h.2
  have H := Lib.hid h; have HE := Lib.hid hE; have LEN := Lib.hid (bs_length t)
  clear h hE
  by_cases h0 : er = 0
  · subst h0
    by_cases hq : en = t.size
    · have hz : ((en : Int) == (t.size : Int)) = true := by rw [hq]; simp
      have FL := Lib.hid (fun n : Nat => fail_any (w.drewN n) b t st en at_ 0 (H.out.below (Dr.below ⟨n, rfl⟩)) (t.size : Int) 4)
      have DR : Hid (((bs t).drop en) = []) := Lib.hid (by rw [List.drop_eq_nil_iff, LEN.out]; omega)
      clear hq
      have hc4' : w.cell? ⟨b, 4, none⟩ = some (.int .i64 0) := hc4
      clear hc4
      go_enter Tryz.func224, Tryz.ntmps224
      go_upto_region 1 with fail
      go_quiet (fail)
      go_wp2_with fail
      refine (FL.out _).mono ?_
      rintro e w1 ⟨⟨v, rfl⟩, ⟨a, h1⟩, hfr⟩
      have H1 : Hid (WS w1 b t st en a 4) := Lib.hid h1
      have F1 : Hid (Fr1 b w w1) := Lib.hid ((Dr.fr ⟨nq, rfl⟩).trans hfr)
      have hc5 : w1.cell? ⟨b, 4, none⟩ = some (.int .i64 4) := cell_of_row w1 b 4 _ _ _ h1.1
      clear h1 hfr FL hc0 hc1 hc2 hc4' hf1
      go_wp2_with fail
      go_ret2
      exact ⟨⟨#[]⟩, false, st, en, a, 4, rfl, H1.out, F1.out, Nat.zero_le _, .inl ⟨rfl, by decide, fun k => by rw [DR.out]; rfl⟩⟩
    · have hlt : en < t.size := by omega
      have hz : ((en : Int) == (t.size : Int)) = false := int_ne (by omega)
      obtain ⟨t1, ht1⟩ : ∃ t1, t1 = t.extract (en + 1) t.size := ⟨_, rfl⟩
      have hts : t1.size = t.size - (en + 1) := by rw [ht1, ByteArray.size_extract]; omega
      have hb1 : bs t1 = (bs t).drop (en + 1) := by rw [ht1, bs_extract, List.take_of_length_le (by rw [LEN.out]; exact Nat.le_refl _)]
      obtain ⟨x, y, ok, ⟨hx, hy, hok, hxs⟩, hcut⟩ := cut_det t1 32 (by omega)
      have hc4' : w.cell? ⟨b, 4, none⟩ = some (.int .i64 0) := hc4
      have HT := Lib.hid ht1
      have hxl : (bs x).length = x.size := bs_length x
      have EN : Hid (en + 1 + x.size ≤ t.size) := Lib.hid (by omega)
      have DROP : Hid (∀ k, nxt ((bs t).drop en) k = k (bs x) ((bs t).drop (en + 1 + x.size))) := Lib.hid (fun k => by
        rw [show (bs t).drop en = (bs t)[en]'(by rw [LEN.out]; exact hlt) :: (bs t).drop (en + 1) from List.drop_eq_getElem_cons _]
        unfold nxt
        simp only []
        rw [← hb1]
        have e1 : (bs t1).takeWhile (fun c => !decide (c = 32)) = bs x := hx.symm
        have e2 : (bs t1).dropWhile (fun c => !decide (c = 32)) = (bs t).drop (en + 1 + x.size) := by
          have := List.takeWhile_append_dropWhile (p := fun c => !decide (c = 32)) (l := bs t1)
          rw [e1] at this
          have e3 : (bs t1).drop x.size = (bs t1).dropWhile (fun c => !decide (c = 32)) := by
            conv => lhs; rw [← this]
            rw [List.drop_append, ← hxl, List.drop_length, Nat.sub_self]; rfl
          rw [← e3, hb1, List.drop_drop]
        rw [e1, e2])
      have hxt : x.size ≤ t.size := by omega
      have HCUT := Lib.hid hcut
      clear hc4 hq hb1 hts hx hy hok hxs hcut ht1 hxl
      go_enter Tryz.func224, Tryz.ntmps224
      go_upto_region 1 with fail
      go_quiet (fail)
      obtain ⟨w0, hw0⟩ : ∃ w0, w0 = w.drewN nq := ⟨_, rfl⟩
      have H0 : Hid (WS w0 b t st en at_ 0) := Lib.hid (by rw [hw0]; exact H.out.below (Dr.below ⟨nq, rfl⟩))
      have F0 : Hid (Fr1 b w w0) := Lib.hid (by rw [hw0]; exact Dr.fr ⟨nq, rfl⟩)
      rw [← hw0]
      clear hw0 hc0 hc1 hc2 hc4' hf1 H
      have hc2 : w0.cell? ⟨b, 2, none⟩ = some (.int .i64 (en : Int)) := cell_of_row w0 b 2 _ _ _ H0.out.1
      have hc4 : w0.cell? ⟨b, 4, none⟩ = some (.int .i64 0) := cell_of_row w0 b 4 _ _ _ H0.out.1
      have hc1 : w0.cell? ⟨b, 1, none⟩ = some (.int .i64 (st : Int)) := cell_of_row w0 b 1 _ _ _ H0.out.1
      have hf1 : w0.frozen? ⟨b, 1, none⟩ = false := by have := H0.out.1; simp [World.frozen?, this]
      go_upto_region 6 with fail
      obtain ⟨w1, hw1⟩ : ∃ w1, w1 = w0.setCell ⟨b, 1, none⟩ (.int .i64 ((en : Int) + 1)) := ⟨_, rfl⟩
      have H1 : Hid (WS w1 b t (en + 1) en at_ 0) := Lib.hid (by rw [hw1]; exact ⟨setB H0.out.1 1 _, H0.out.2⟩)
      have F1 : Hid (Fr1 b w w1) := Lib.hid (by rw [hw1]; exact F0.out.trans (Fr1.setC _))
      rw [← hw1]
      clear hw1 hc1 hc2 hc4 hf1
      have hc0 : w1.cell? ⟨b, 0, none⟩ = some (.string t) := cell_of_row w1 b 0 _ _ _ H1.out.1
      have hc1 : w1.cell? ⟨b, 1, none⟩ = some (.int .i64 ((en : Int) + 1)) := cell_of_row w1 b 1 _ _ _ H1.out.1
      have CUT : Hid (∀ n, Calls Tryz.prog 67 #[.string t1, .string ⟨#[32]⟩] (w1.drewN n) fun e w' => e = .returned (.tuple #[.string x, .string y, .bool ok]) ∧ ∃ m, w' = w1.drewN m) := Lib.hid (fun n =>
        (HCUT.out (w1.drewN n) ((fr_env HE.out hb9 F1.out).on (Dr.below ⟨n, rfl⟩)).mx).mono fun e w' ⟨h1, q, h2⟩ => ⟨h1, n + q, by rw [h2, drewN_drewN]⟩)
      go_quiet (first | (go_at_call 67; rw [show t.extract (en + 1) t.size = t1 from HT.out.symm]; exact CUT.out _))
      obtain ⟨w2, hw2⟩ : ∃ w2, w2 = w1.drewN nq := ⟨_, rfl⟩
      have H2 : Hid (WS w2 b t (en + 1) en at_ 0) := Lib.hid (by rw [hw2]; exact H1.out.below (Dr.below ⟨nq, rfl⟩))
      have F2 : Hid (Fr1 b w w2) := Lib.hid (by rw [hw2]; exact F1.out.trans (Dr.fr ⟨nq, rfl⟩))
      rw [← hw2]
      clear hw2 hc0 hc1
      have hc1 : w2.cell? ⟨b, 1, none⟩ = some (.int .i64 ((en : Int) + 1)) := cell_of_row w2 b 1 _ _ _ H2.out.1
      have hc2 : w2.cell? ⟨b, 2, none⟩ = some (.int .i64 (en : Int)) := cell_of_row w2 b 2 _ _ _ H2.out.1
      have hf2 : w2.frozen? ⟨b, 2, none⟩ = false := by have := H2.out.1; simp [World.frozen?, this]
      have H3 : Hid (WS (w2.setCell ⟨b, 2, none⟩ (.int .i64 ((en : Int) + 1 + (x.size : Int)))) b t (en + 1) (en + 1 + x.size) at_ 0) := Lib.hid ⟨setB H2.out.1 2 _, EN.out⟩
      go_wp2_with fail
      go_ret2
      exact ⟨x, true, en + 1, en + 1 + x.size, at_, 0, rfl, H3.out, F2.out.trans (Fr1.setC _), hxt, .inr ⟨rfl, rfl, rfl, DROP.out⟩⟩
  · have hz : ((er : Int) == 0) = false := int_ne (by omega)
    have hz2 : ((er : Int) != 0) = true := by simp [bne, hz]
    have HX : Hid (∀ k, fe er (nxt ((bs t).drop en) k) = er) := Lib.hid (fun k => by unfold fe; rw [if_pos h0])
    have H0 := Lib.hid h0
    clear h0
    go_enter Tryz.func224, Tryz.ntmps224
    go_upto_region 1 with fail
    go_quiet (fail)
    go_wp2_with fail
    go_ret2
    exact ⟨⟨#[]⟩, false, st, en, at_, er, rfl, H.out.below (Dr.below ⟨nq, rfl⟩), Dr.fr ⟨nq, rfl⟩, Nat.zero_le _, .inl ⟨rfl, H0.out, HX.out⟩⟩
end Go.Proofs.YtohmdledkhgdaaaGreatDoor
