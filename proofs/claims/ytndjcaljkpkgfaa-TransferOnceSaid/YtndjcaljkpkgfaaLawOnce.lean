/- Walk of the statement TransferOnce. -/
import Derived.Test.YtndjcaljkpkgfaaOnceK
namespace Go.Proofs.Ytndjcaljkpkgfaa
open Go.RowKit Go.Maps
set_option linter.unusedVariables false

set_option maxRecDepth 100000 in
theorem law_once_long (w : World) (id : List Nat) (text : ByteArray) (n : Int) (a : Option Addr) (len cap : Nat) (ht : text.size ≤ maxLen) (hn : len ≤ maxLen) (hl : 300 < text.size ∨ 20 < len) :
    Calls Try.prog 7 #[.agg (idA id), .string text, .int .u16 n, .slice a len cap] w fun e w' => e = .returned (.bool true) ∧ Below w.heap.size w w' := by
  unfold maxLen at ht hn
  have b0 : Below w.heap.size w (w.alloc (.cells (idA id) 23)) := (Below.refl _ _).alloc (Nat.le_refl _) _
  have K1 := Lib.hid (known_any (w.alloc (.cells (idA id) 23)))
  have B0 := Lib.hid b0
  clear b0
  by_cases h3 : 300 < text.size
  all_goals
    go_enter Try.func7, Try.ntmps7
    go_wp2_with fail
    refine K1.out.mono ?_
    rintro e w1 ⟨rfl, hb1⟩
    have B1 : Hid (Below w.heap.size w w1) := Lib.hid (B0.out.trans (hb1.mono B0.out.size))
    clear hb1
    go_wp2_with fail
    refine (known_any w1).mono ?_
    rintro e w2 ⟨rfl, hb2⟩
    have B2 : Hid (Below w.heap.size w w2) := Lib.hid (B1.out.trans (hb2.mono B1.out.size))
    clear hb2
    go_wp2_with fail
    go_ret
    exact ⟨rfl, B2.out⟩

/-- What holds wherever the receiver is at rest. -/
structure OnS (w : World) (b : Nat) (id : List Nat) (q : ByteArray) (xs : List Nat) (d : Bool) (w' : World) : Prop where
  rc : ∃ v, Rc w' w.heap.size b id q.size xs d v
  idb : w'.heap[w.heap.size]? = some (.cells (idA id) 23 (0, 0))
  bel : Below w.heap.size w w'
  pre : Pre q xs
  don : d = true → xs.length = q.size
def OnR (w : World) (b : Nat) (id : List Nat) (q : ByteArray) (n kk : Nat) (i : Value) (wr : World) : Prop :=
  ∃ (j : Nat) (xs : List Nat) (d : Bool), i = .int .i64 (j : Int) ∧ j ≤ n + 1 ∧ kk = n + 1 - j ∧ (j = n + 1 → d = true) ∧ OnS w b id q xs d wr
def InR (w : World) (b sb : Nat) (id : List Nat) (q : ByteArray) (C A fr kk : Nat) (i : Value) (wr : World) : Prop :=
  ∃ (k : Nat) (xs : List Nat) (d : Bool), i = .int .i64 (k : Int) ∧ k ≤ A ∧ kk = A - k ∧ OnS w b id q xs d wr ∧ fr ≤ xs.length ∧ ((d = false ∧ Sn wr sb id q C xs.length false ∧ fr + k ≤ xs.length) ∨ (d = true ∧ Sn wr sb id q C q.size true))
theorem OnC.own {w : World} {b : Nat} {id : List Nat} {n : Nat} {xs : List Nat} {d : Bool} {xb : Nat} {xc : Array Value} {w1 : World} (h : OnC w b id n xs d xb xc w1) (vb f : Int) {m : List Nat} (hm : m.length = 32) (t : ByteArray) :
    Calls Try.prog 11 #[.agg (rcmC vb f m t)] w1 fun e w' => e = .returned (.agg (cmdC vb f m t)) ∧ OnC w b id n xs d xb xc w' := (own_any w1 vb f hm t).mono fun e w2 ⟨h1, h2⟩ => ⟨h1, h.below h2⟩
theorem OnC.from {w : World} {b : Nat} {id : List Nat} {n : Nat} {xs : List Nat} {d : Bool} {xb : Nat} {xc : Array Value} {w1 : World} (h : OnC w b id n xs d xb xc w1) {xl : Nat} (hx : xl = xs.length) :
    Calls Try.prog 12 #[.pointer (some ⟨b, 0, none⟩)] w1 fun e w' => e = .returned (.int .i64 (xl : Int)) ∧ OnC w b id n xs d xb xc w' := by
  obtain ⟨v, hv⟩ := h.rc
  exact (from_any w1 hv).mono fun e w2 ⟨h1, h2⟩ => ⟨by rw [hx]; exact h1, h2 ▸ h⟩
theorem OnC.no {w : World} {b : Nat} {id : List Nat} {n : Nat} {xs : List Nat} {d : Bool} {xb : Nat} {xc : Array Value} {w1 : World} (h : OnC w b id n xs d xb xc w1) (hid : IdOk id) (hn : n ≤ 65536) (hx : xs.length ≤ n) (hlb : w.heap.size ≤ b) {vb f : Int} {m : List Nat} (hm : IdOk m) {t : ByteArray} (ht : t.size ≤ maxLen) {code : Int} (hh : hearF id n xs d vb f m t = (xs, d, code)) :
    Calls Try.prog 10 #[.pointer (some ⟨b, 0, none⟩), .agg (cmdC vb f m t)] w1 fun e w' => e = .returned (.int .i64 code) ∧ OnC w b id n xs d xb xc w' := by
  obtain ⟨v, hv⟩ := h.rc
  refine (hear_any w1 hv hid hn hx h.bel.size vb f hm t ht).mono fun e w2 ⟨h1, h2⟩ => ?_
  rw [hh] at h1 h2
  exact ⟨h1, h.hear hv hlb h2⟩
theorem OnC.drew {w : World} {b : Nat} {id : List Nat} {n : Nat} {xs : List Nat} {d : Bool} {xb : Nat} {xc : Array Value} {w1 : World} (h : OnC w b id n xs d xb xc w1) : OnC w b id n xs d xb xc w1.drew := h.below ((Below.refl _ _).drew)

set_option maxRecDepth 100000 in
set_option maxHeartbeats 4000000 in
theorem law_once (w : World) {id : List Nat} (hid : IdOk id) (text : ByteArray) (ht : text.size ≤ 300) (nn : Int) (n0 : 0 ≤ nn) (n1 : nn ≤ 65535) (a : Option Addr) (cap : Nat) (L : List At) (hn : L.length ≤ 20) (hr : RdA w a L) :
    Calls Try.prog 7 #[.agg (idA id), .string text, .int .u16 nn, .slice a L.length cap] w fun e w' => e = .returned (.bool true) ∧ Below w.heap.size w w' := by
  obtain ⟨n, hnn⟩ : ∃ n, n = L.length := ⟨_, rfl⟩
  have hn20 : n ≤ 20 := by omega
  rw [← hnn]
  have b0 : Below w.heap.size w (w.alloc (.cells (idA id) 23)) := (Below.refl _ _).alloc (Nat.le_refl _) _
  have K1 := Lib.hid (known_any (w.alloc (.cells (idA id) 23)))
  have B0 := Lib.hid b0
  have I0 : Hid ((w.alloc (.cells (idA id) 23)).heap[w.heap.size]? = some (.cells (idA id) 23 (0, 0))) := Lib.hid (heap_alloc_new w _)
  have RS := Lib.hid hr; have HN := Lib.hid hnn
  clear b0 hr hnn hn
  go_enter Try.func7, Try.ntmps7
  go_wp2_with fail
  refine K1.out.mono ?_
  rintro e w1 ⟨rfl, hb1⟩
  have B1 : Hid (Below w.heap.size w w1) := Lib.hid (B0.out.trans (hb1.mono B0.out.size))
  have I1 : Hid (w1.heap[w.heap.size]? = some (.cells (idA id) 23 (0, 0))) := Lib.hid ((hb1.block _ (lt_of_block I0.out)).trans I0.out)
  clear hb1 K1 I0 B0
  go_wp2_with fail
  refine (length_any w1 text nn n0 n1 ht).mono ?_
  rintro e w2 ⟨q, rfl, hq, hb2⟩
  have B2 : Hid (Below w.heap.size w w2) := Lib.hid (B1.out.trans (hb2.mono B1.out.size))
  have I2 : Hid (w2.heap[w.heap.size]? = some (.cells (idA id) 23 (0, 0))) := Lib.hid ((hb2.block _ (lt_of_block I1.out)).trans I1.out)
  clear hb2 I1 B1 n0 n1 ht
  go_wp2_with ((with_reducible refine wpList_load 23 rfl _ rfl ?_); refine ⟨_, _, rfl, load_id _ w.heap.size 0 _ _ _ hid.len I2.out (id_self id), ?_⟩)
  refine (newrcv_any w2 hid (q.size : Int) (by omega) (by omega)).mono ?_
  rintro e w3 ⟨rfl, hw3⟩
  have S3 : Hid (OnS w (w2.heap.size + 1) id q [] false w3) := Lib.hid (by
    have := B2.out.size
    rw [hw3]
    exact ⟨⟨_, rc_new2 w2 _ hid.len _ _⟩, alloc_block (alloc_block I2.out), (B2.out.alloc this _).alloc (by simp; omega) _, pre_nil q, fun h => by cases h⟩)
  obtain ⟨b, hb⟩ : ∃ b, b = w2.heap.size + 1 := ⟨_, rfl⟩
  have hlb : w.heap.size ≤ b := by have := B2.out.size; omega
  rw [← hb] at S3
  rw [← hb]
  clear hw3 hb I2 B2
  go_wp2_with fail
  go_loopg [11] (n + 1) (fun kk i wr => OnR w b id q n kk i wr)
  case atStart => exact ⟨0, [], false, rfl, by omega, rfl, fun h => by omega, S3.out⟩
  case round =>
    obtain ⟨j, xs, d, rfl, hj, rfl, hjd, hS⟩ := hrel
    clear S3
    have HS := Lib.hid hS; have HJD := Lib.hid hjd
    have sr := hS.bel.size
    clear hS hjd
    obtain ⟨xl, hxl⟩ : ∃ xl, xl = xs.length := ⟨_, rfl⟩
    have XL := Lib.hid hxl
    have hxq : xl ≤ q.size := by have := HS.out.pre.2; omega
    clear hxl
    by_cases hlt : j ≤ n
    · have hji : (j : Int) ≤ (n : Int) := by omega
      go_upto_if 57 with fail
      go_cut [12, 13, 14] (fun c e _x wx => ∃ C A : Nat, c = .int .i64 (C : Int) ∧ e = .int .i64 (A : Int) ∧ 1 ≤ C ∧ C ≤ 4096 ∧ A ≤ 10000 ∧ (j = n → A = 10000) ∧ OnS w b id q xs d wx)
      case first =>
        by_cases hjn : j < n
        · have hjni : (j : Int) < (n : Int) := by omega
          have hjl : j < L.length := by rw [← HN.out]; exact hjn
          obtain ⟨b0, off, rfl, hb0, hcell⟩ := RS.out.at_ (by omega)
          have hok := RS.out.each L[j] (List.getElem_mem hjl)
          have hcj : ∀ k u, L[j].cells[k]? = some u → wr.cell? ⟨b0, off + j * 37 + k, none⟩ = some u := fun k u hu => (HS.out.bel.cell (by exact hb0)).trans (hcell j hjl k u hu)
          clear hcell
          generalize L[j] = c at *
          obtain ⟨ch, ar, vb, f, m, t⟩ := c
          obtain ⟨ch, rfl⟩ : ∃ x : Nat, ch = (x : Int) := ⟨ch.toNat, by have := hok.c0; simp only at this; omega⟩
          obtain ⟨ar, rfl⟩ : ∃ x : Nat, ar = (x : Int) := ⟨ar.toNat, by have := hok.a0; simp only at this; omega⟩
          have hch : ch ≤ 65535 := by have := hok.c1; simp only at this; omega
          have har : ar ≤ 255 := by have := hok.a1; simp only at this; omega
          have hm := hok.x.id
          have ht47 := hok.x.t
          have hfr := hok.x.fr
          have LD : Hid (∀ nq, (loadVar 31 ⟨b0, off + j * 37 + 2, none⟩).run Try.prog (wr.drewN nq) = .ok (.agg (rcmC vb f m t)) (wr.drewN nq)) := Lib.hid fun nq => (load_rcm (wr.drewN nq) b0 (off + j * 37 + 2) hm.len (fun k u hu => by have := hcj (2 + k) u (At.at2 _ k u hu); rwa [← Nat.add_assoc] at this))
          have E0 := hcj 0 _ (At.at0 _)
          have E1 := hcj 1 _ (At.at1 _)
          simp only [Nat.add_zero] at hm ht47 hfr LD E0 E1
          clear hcj hok hjl
          obtain ⟨f0, f1⟩ := hfr
          have ET : Int.tmod (ch : Int) 4096 = ((ch % 4096 : Nat) : Int) := rfl
          go_wp2_with fail
          go_quiet (fail)
          have ST := Lib.hid (store_at (P := Try.prog) (wr.drewN nq) _ rfl 31 (([.int .i64 0] : List Value) ++ z32 ++ ([.int .i64 0, .string ⟨#[]⟩] : List Value)).toArray (rcmC vb f m t) (size31' hm.len) (by rw [rcm_size hm.len]; rfl) (one_rcm _ _ _ _))
          go_wp2_with (first
            | ((with_reducible refine wpList_load 31 rfl _ rfl ?_); refine ⟨_, _, rfl, LD.out nq, ?_⟩)
            | ((with_reducible refine wpList_store 31 rfl _ _ rfl ?_); refine ⟨_, _, _, rfl, rfl, ST.out, ?_⟩))
          obtain ⟨xb, hxb⟩ : ∃ xb, xb = wr.heap.size := ⟨_, rfl⟩
          have O4 : Hid (OnC w b id q.size xs d xb (rcmC vb f m t) ((wr.drewN nq).alloc (.cells (rcmC vb f m t) 31))) := Lib.hid (by
            have bd : Below wr.heap.size wr ((wr.drewN nq).alloc (.cells (rcmC vb f m t) 31)) := (below_drewN (Below.refl _ _) nq).alloc (Nat.le_refl _) _
            exact ⟨HS.out.rc.imp fun v hv => hv.below bd, (bd.block _ (lt_of_block HS.out.idb)).trans HS.out.idb, by rw [hxb]; exact heap_alloc_new (wr.drewN nq) _, HS.out.bel.trans (bd.mono sr)⟩)
          try rw [← hxb]
          generalize (wr.drewN nq).alloc (.cells (rcmC vb f m t) 31) = w4 at *
          clear hxb ST LD E0 E1 ET
          have X0 : Hid (∀ w', OnC w b id q.size xs d xb (rcmC vb f m t) w' → w'.cell? ⟨xb, 0, none⟩ = some (.int .i64 vb)) := Lib.hid fun w' h => (cellB h.xbk _).trans (rcm_at hm.len _ _ _).1
          have X33 : Hid (∀ w', OnC w b id q.size xs d xb (rcmC vb f m t) w' → w'.cell? ⟨xb, 33, none⟩ = some (.int .i64 f)) := Lib.hid fun w' h => (cellB h.xbk _).trans (rcm_at hm.len _ _ _).2.1
          have X34 : Hid (∀ w', OnC w b id q.size xs d xb (rcmC vb f m t) w' → w'.cell? ⟨xb, 34, none⟩ = some (.string t)) := Lib.hid fun w' h => (cellB h.xbk _).trans (rcm_at hm.len _ _ _).2.2
          by_cases hA : 300 < t.size
          · have HA : Hid (¬ (t.size : Int) ≤ 300) := Lib.hid (by omega)
            refine wp_region_quiet (C := fun w' => OnC w b id q.size xs d xb (rcmC vb f m t) w') mixed (by kernel_rfl) O4.out.drew ?_
            refine BigFrame.wpQuiet_want (by kernel_rfl) (fun K hK => quiet_run (v := .pointer (some ⟨xb, 34, none⟩)) (fun w' hw' => ?_) ?_)
            · go_simp
            go_simp; refine hK _ ?_; clear hK K
            refine BigFrame.wpQuiet_want (by kernel_rfl) (fun K hK => quiet_run (v := .string t) (fun w' hw' => ?_) ?_)
            · (have c := X34.out w' hw'; go_simp)
            go_simp; refine hK _ ?_; clear hK K
            refine BigFrame.wpQuiet_want (by kernel_rfl) (fun K hK => quiet_run (v := .int .i64 (t.size : Int)) (fun w' hw' => ?_) ?_)
            · go_simp
            go_simp; refine hK _ ?_; clear hK K
            refine BigFrame.wpQuiet_want (by kernel_rfl) (fun K hK => quiet_run (v := .bool false) (fun w' hw' => ?_) ?_)
            · (have c := HA.out; go_simp)
            go_simp; refine hK _ ?_; clear hK K
            refine BigFrame.wpQuiet_want (by kernel_rfl) (fun K hK => quiet_run (v := .bool false) (fun w' hw' => ?_) ?_)
            · go_simp
            go_simp; refine hK _ ?_; clear hK K
            go_big_quiet_skip
            go_big_quiet_skip
            go_big_quiet_skip
            go_big_quiet_skip
            go_big_quiet_skip
            go_big_quiet_skip
            go_big_quiet_skip
            go_big_quiet_skip
            go_big_quiet_skip
            go_big_quiet_skip
            go_big_quiet_skip
            go_big_quiet_skip
            go_big_quiet_skip
            go_big_quiet_skip
            go_big_quiet_skip
            go_big_quiet_skip
            go_big_quiet_skip
            go_big_quiet_skip
            go_big_quiet_skip
            go_big_quiet_skip
            go_big_quiet_skip
            go_big_quiet_skip
            go_big_quiet_skip
            go_big_quiet_skip
            go_big_quiet_skip
            go_big_quiet_skip
            refine BigFrame.wpQuiet_want (by kernel_rfl) (fun K hK => quiet_run (v := .bool false) (fun w' hw' => ?_) ?_)
            · go_simp
            go_simp; refine hK _ ?_; clear hK K
            refine BigFrame.wpQuiet_want (by kernel_rfl) (fun K hK => quiet_run (v := .bool false) (fun w' hw' => ?_) ?_)
            · go_simp
            go_simp; refine hK _ ?_; clear hK K
            go_big_quiet_skip
            go_big_quiet_skip
            go_big_quiet_skip
            go_big_quiet_skip
            go_big_quiet_skip
            refine BigFrame.wpQuiet_want (by kernel_rfl) (fun K hK => quiet_run (v := .bool false) (fun w' hw' => ?_) ?_)
            · go_simp
            go_simp; refine hK _ ?_; clear hK K
            refine wpQuiet_nil ?_
            intro w7 hw7
            have W7 := Lib.hid hw7
            clear hw7
            go_wp2_with fail
            go_meet
            case rel => exact ⟨1 + ch % 4096, ar, by go_num, rfl, by omega, by omega, by omega, fun h => by omega, ⟨W7.out.rc, W7.out.idb, W7.out.bel, HS.out.pre, HS.out.don⟩⟩
          have HA : Hid ((t.size : Int) ≤ 300) := Lib.hid (by omega)
          have EQ : Hid (∀ w', (Op.equal 23 (.agg (idA m)) (.agg (idA id))).run Try.prog w' = .ok (decide (m = id)) w') := Lib.hid fun w' => eq_id w' hm hid
          by_cases hmi : id = m
          · subst hmi
            rw [decide_eq_true rfl] at EQ
            by_cases hf : f = (xl : Int)
            · subst hf
              by_cases h7 : vb = 7
              · subst h7
                refine wp_region_quiet (C := fun w' => OnC w b id q.size xs d xb (rcmC 7 (xl : Int) id t) w') mixed (by kernel_rfl) O4.out.drew ?_
                refine BigFrame.wpQuiet_want (by kernel_rfl) (fun K hK => quiet_run (v := .pointer (some ⟨xb, 34, none⟩)) (fun w' hw' => ?_) ?_)
                · go_simp
                go_simp; refine hK _ ?_; clear hK K
                refine BigFrame.wpQuiet_want (by kernel_rfl) (fun K hK => quiet_run (v := .string t) (fun w' hw' => ?_) ?_)
                · (have c := X34.out w' hw'; go_simp)
                go_simp; refine hK _ ?_; clear hK K
                refine BigFrame.wpQuiet_want (by kernel_rfl) (fun K hK => quiet_run (v := .int .i64 (t.size : Int)) (fun w' hw' => ?_) ?_)
                · go_simp
                go_simp; refine hK _ ?_; clear hK K
                refine BigFrame.wpQuiet_want (by kernel_rfl) (fun K hK => quiet_run (v := .bool true) (fun w' hw' => ?_) ?_)
                · (have c := HA.out; go_simp)
                go_simp; refine hK _ ?_; clear hK K
                refine BigFrame.wpQuiet_want (by kernel_rfl) (fun K hK => quiet_run (v := .bool true) (fun w' hw' => ?_) ?_)
                · go_simp
                go_simp; refine hK _ ?_; clear hK K
                refine BigFrame.wpQuiet_want (by kernel_rfl) (fun K hK => quiet_run (v := .pointer (some ⟨xb, 1, none⟩)) (fun w' hw' => ?_) ?_)
                · go_simp
                go_simp; refine hK _ ?_; clear hK K
                refine BigFrame.wpQuiet_want (by kernel_rfl) (fun K hK => quiet_run (v := .agg (idA id)) (fun w' hw' => ?_) ?_)
                · exact exec_load rfl rfl (load_id w' xb 1 _ _ _ hm.len hw'.xbk (rcm_id _ _ _))
                go_simp; refine hK _ ?_; clear hK K
                refine BigFrame.wpQuiet_want (by kernel_rfl) (fun K hK => quiet_run (v := .agg (idA id)) (fun w' hw' => ?_) ?_)
                · exact exec_load rfl rfl (load_id w' w.heap.size 0 _ _ _ hid.len hw'.idb (id_self id))
                go_simp; refine hK _ ?_; clear hK K
                refine BigFrame.wpQuiet_want (by kernel_rfl) (fun K hK => quiet_run (v := .bool false) (fun w' hw' => ?_) ?_)
                · exact exec_neq rfl rfl rfl guard23 (EQ.out w')
                go_simp; refine hK _ ?_; clear hK K
                refine BigFrame.wpQuiet_want (by kernel_rfl) (fun K hK => quiet_run (v := .bool false) (fun w' hw' => ?_) ?_)
                · go_simp
                go_simp; refine hK _ ?_; clear hK K
                refine BigFrame.wpQuiet_want (by kernel_rfl) (fun K hK => quiet_run (v := .pointer (some ⟨xb, 33, none⟩)) (fun w' hw' => ?_) ?_)
                · go_simp
                go_simp; refine hK _ ?_; clear hK K
                refine BigFrame.wpQuiet_want (by kernel_rfl) (fun K hK => quiet_run (v := .int .i64 (xl : Int)) (fun w' hw' => ?_) ?_)
                · (have c := X33.out w' hw'; go_simp)
                go_simp; refine hK _ ?_; clear hK K
                refine BigFrame.wpQuiet_want (by kernel_rfl) (fun K hK => quiet_run (v := .pointer (some ⟨b, 0, none⟩)) (fun w' hw' => ?_) ?_)
                · go_simp
                go_simp; refine hK _ ?_; clear hK K
                refine BigFrame.wpQuiet_want (by kernel_rfl) (fun K hK => ⟨.int .i64 (xl : Int), fun w' hw' => ?_, ?_⟩)
                · unfold Oper.quietAt
                  go_simp
                  exact hw'.from XL.out
                go_simp; refine hK _ ?_; clear hK K
                refine BigFrame.wpQuiet_want (by kernel_rfl) (fun K hK => quiet_run (v := .bool false) (fun w' hw' => ?_) ?_)
                · go_simp
                go_simp; refine hK _ ?_; clear hK K
                refine BigFrame.wpQuiet_want (by kernel_rfl) (fun K hK => quiet_run (v := .bool false) (fun w' hw' => ?_) ?_)
                · go_simp
                go_simp; refine hK _ ?_; clear hK K
                go_big_quiet_skip
                go_big_quiet_skip
                go_big_quiet_skip
                refine BigFrame.wpQuiet_want (by kernel_rfl) (fun K hK => quiet_run (v := .bool false) (fun w' hw' => ?_) ?_)
                · go_simp
                go_simp; refine hK _ ?_; clear hK K
                refine BigFrame.wpQuiet_want (by kernel_rfl) (fun K hK => quiet_run (v := .bool false) (fun w' hw' => ?_) ?_)
                · go_simp
                go_simp; refine hK _ ?_; clear hK K
                refine BigFrame.wpQuiet_want (by kernel_rfl) (fun K hK => quiet_run (v := .bool false) (fun w' hw' => ?_) ?_)
                · go_simp
                go_simp; refine hK _ ?_; clear hK K
                refine BigFrame.wpQuiet_want (by kernel_rfl) (fun K hK => quiet_run (v := .pointer (some ⟨xb, 0, none⟩)) (fun w' hw' => ?_) ?_)
                · go_simp
                go_simp; refine hK _ ?_; clear hK K
                refine BigFrame.wpQuiet_want (by kernel_rfl) (fun K hK => quiet_run (v := .int .i64 7) (fun w' hw' => ?_) ?_)
                · (have c := X0.out w' hw'; go_simp)
                go_simp; refine hK _ ?_; clear hK K
                refine BigFrame.wpQuiet_want (by kernel_rfl) (fun K hK => quiet_run (v := .bool false) (fun w' hw' => ?_) ?_)
                · go_simp
                go_simp; refine hK _ ?_; clear hK K
                refine BigFrame.wpQuiet_want (by kernel_rfl) (fun K hK => quiet_run (v := .bool false) (fun w' hw' => ?_) ?_)
                · go_simp
                go_simp; refine hK _ ?_; clear hK K
                go_big_quiet_skip
                go_big_quiet_skip
                go_big_quiet_skip
                refine BigFrame.wpQuiet_want (by kernel_rfl) (fun K hK => quiet_run (v := .bool false) (fun w' hw' => ?_) ?_)
                · go_simp
                go_simp; refine hK _ ?_; clear hK K
                refine BigFrame.wpQuiet_want (by kernel_rfl) (fun K hK => quiet_run (v := .bool false) (fun w' hw' => ?_) ?_)
                · go_simp
                go_simp; refine hK _ ?_; clear hK K
                refine BigFrame.wpQuiet_want (by kernel_rfl) (fun K hK => quiet_run (v := .bool false) (fun w' hw' => ?_) ?_)
                · go_simp
                go_simp; refine hK _ ?_; clear hK K
                refine BigFrame.wpQuiet_want (by kernel_rfl) (fun K hK => quiet_run (v := .bool false) (fun w' hw' => ?_) ?_)
                · go_simp
                go_simp; refine hK _ ?_; clear hK K
                go_big_quiet_skip
                go_big_quiet_skip
                go_big_quiet_skip
                go_big_quiet_skip
                go_big_quiet_skip
                refine BigFrame.wpQuiet_want (by kernel_rfl) (fun K hK => quiet_run (v := .bool false) (fun w' hw' => ?_) ?_)
                · go_simp
                go_simp; refine hK _ ?_; clear hK K
                refine wpQuiet_nil ?_
                intro w7 hw7
                have W7 := Lib.hid hw7
                clear hw7
                go_wp2_with fail
                go_meet
                case rel => exact ⟨1 + ch % 4096, ar, by go_num, rfl, by omega, by omega, by omega, fun h => by omega, ⟨W7.out.rc, W7.out.idb, W7.out.bel, HS.out.pre, HS.out.don⟩⟩
              have E7 : Hid ((vb == 7) = false ∧ (vb != 7) = true ∧ ¬ vb = 7) := Lib.hid ⟨by simp; exact h7, by simp; exact h7, h7⟩
              by_cases h8 : vb = 8
              · subst h8
                clear E7 h7
                refine wp_region_quiet (C := fun w' => OnC w b id q.size xs d xb (rcmC 8 (xl : Int) id t) w') mixed (by kernel_rfl) O4.out.drew ?_
                refine BigFrame.wpQuiet_want (by kernel_rfl) (fun K hK => quiet_run (v := .pointer (some ⟨xb, 34, none⟩)) (fun w' hw' => ?_) ?_)
                · go_simp
                go_simp; refine hK _ ?_; clear hK K
                refine BigFrame.wpQuiet_want (by kernel_rfl) (fun K hK => quiet_run (v := .string t) (fun w' hw' => ?_) ?_)
                · (have c := X34.out w' hw'; go_simp)
                go_simp; refine hK _ ?_; clear hK K
                refine BigFrame.wpQuiet_want (by kernel_rfl) (fun K hK => quiet_run (v := .int .i64 (t.size : Int)) (fun w' hw' => ?_) ?_)
                · go_simp
                go_simp; refine hK _ ?_; clear hK K
                refine BigFrame.wpQuiet_want (by kernel_rfl) (fun K hK => quiet_run (v := .bool true) (fun w' hw' => ?_) ?_)
                · (have c := HA.out; go_simp)
                go_simp; refine hK _ ?_; clear hK K
                refine BigFrame.wpQuiet_want (by kernel_rfl) (fun K hK => quiet_run (v := .bool true) (fun w' hw' => ?_) ?_)
                · go_simp
                go_simp; refine hK _ ?_; clear hK K
                refine BigFrame.wpQuiet_want (by kernel_rfl) (fun K hK => quiet_run (v := .pointer (some ⟨xb, 1, none⟩)) (fun w' hw' => ?_) ?_)
                · go_simp
                go_simp; refine hK _ ?_; clear hK K
                refine BigFrame.wpQuiet_want (by kernel_rfl) (fun K hK => quiet_run (v := .agg (idA id)) (fun w' hw' => ?_) ?_)
                · exact exec_load rfl rfl (load_id w' xb 1 _ _ _ hm.len hw'.xbk (rcm_id _ _ _))
                go_simp; refine hK _ ?_; clear hK K
                refine BigFrame.wpQuiet_want (by kernel_rfl) (fun K hK => quiet_run (v := .agg (idA id)) (fun w' hw' => ?_) ?_)
                · exact exec_load rfl rfl (load_id w' w.heap.size 0 _ _ _ hid.len hw'.idb (id_self id))
                go_simp; refine hK _ ?_; clear hK K
                refine BigFrame.wpQuiet_want (by kernel_rfl) (fun K hK => quiet_run (v := .bool false) (fun w' hw' => ?_) ?_)
                · exact exec_neq rfl rfl rfl guard23 (EQ.out w')
                go_simp; refine hK _ ?_; clear hK K
                refine BigFrame.wpQuiet_want (by kernel_rfl) (fun K hK => quiet_run (v := .bool false) (fun w' hw' => ?_) ?_)
                · go_simp
                go_simp; refine hK _ ?_; clear hK K
                refine BigFrame.wpQuiet_want (by kernel_rfl) (fun K hK => quiet_run (v := .pointer (some ⟨xb, 33, none⟩)) (fun w' hw' => ?_) ?_)
                · go_simp
                go_simp; refine hK _ ?_; clear hK K
                refine BigFrame.wpQuiet_want (by kernel_rfl) (fun K hK => quiet_run (v := .int .i64 (xl : Int)) (fun w' hw' => ?_) ?_)
                · (have c := X33.out w' hw'; go_simp)
                go_simp; refine hK _ ?_; clear hK K
                refine BigFrame.wpQuiet_want (by kernel_rfl) (fun K hK => quiet_run (v := .pointer (some ⟨b, 0, none⟩)) (fun w' hw' => ?_) ?_)
                · go_simp
                go_simp; refine hK _ ?_; clear hK K
                refine BigFrame.wpQuiet_want (by kernel_rfl) (fun K hK => ⟨.int .i64 (xl : Int), fun w' hw' => ?_, ?_⟩)
                · unfold Oper.quietAt
                  go_simp
                  exact hw'.from XL.out
                go_simp; refine hK _ ?_; clear hK K
                refine BigFrame.wpQuiet_want (by kernel_rfl) (fun K hK => quiet_run (v := .bool false) (fun w' hw' => ?_) ?_)
                · go_simp
                go_simp; refine hK _ ?_; clear hK K
                refine BigFrame.wpQuiet_want (by kernel_rfl) (fun K hK => quiet_run (v := .bool false) (fun w' hw' => ?_) ?_)
                · go_simp
                go_simp; refine hK _ ?_; clear hK K
                go_big_quiet_skip
                go_big_quiet_skip
                go_big_quiet_skip
                refine BigFrame.wpQuiet_want (by kernel_rfl) (fun K hK => quiet_run (v := .bool false) (fun w' hw' => ?_) ?_)
                · go_simp
                go_simp; refine hK _ ?_; clear hK K
                refine BigFrame.wpQuiet_want (by kernel_rfl) (fun K hK => quiet_run (v := .bool false) (fun w' hw' => ?_) ?_)
                · go_simp
                go_simp; refine hK _ ?_; clear hK K
                refine BigFrame.wpQuiet_want (by kernel_rfl) (fun K hK => quiet_run (v := .bool false) (fun w' hw' => ?_) ?_)
                · go_simp
                go_simp; refine hK _ ?_; clear hK K
                refine BigFrame.wpQuiet_want (by kernel_rfl) (fun K hK => quiet_run (v := .pointer (some ⟨xb, 0, none⟩)) (fun w' hw' => ?_) ?_)
                · go_simp
                go_simp; refine hK _ ?_; clear hK K
                refine BigFrame.wpQuiet_want (by kernel_rfl) (fun K hK => quiet_run (v := .int .i64 8) (fun w' hw' => ?_) ?_)
                · (have c := X0.out w' hw'; go_simp)
                go_simp; refine hK _ ?_; clear hK K
                refine BigFrame.wpQuiet_want (by kernel_rfl) (fun K hK => quiet_run (v := .bool true) (fun w' hw' => ?_) ?_)
                · go_simp
                go_simp; refine hK _ ?_; clear hK K
                refine BigFrame.wpQuiet_want (by kernel_rfl) (fun K hK => quiet_run (v := .bool true) (fun w' hw' => ?_) ?_)
                · go_simp
                go_simp; refine hK _ ?_; clear hK K
                refine BigFrame.wpQuiet_want (by kernel_rfl) (fun K hK => quiet_run (v := .pointer (some ⟨xb, 0, none⟩)) (fun w' hw' => ?_) ?_)
                · go_simp
                go_simp; refine hK _ ?_; clear hK K
                refine BigFrame.wpQuiet_want (by kernel_rfl) (fun K hK => quiet_run (v := .int .i64 8) (fun w' hw' => ?_) ?_)
                · (have c := X0.out w' hw'; go_simp)
                go_simp; refine hK _ ?_; clear hK K
                refine BigFrame.wpQuiet_want (by kernel_rfl) (fun K hK => quiet_run (v := .bool false) (fun w' hw' => ?_) ?_)
                · go_simp
                go_simp; refine hK _ ?_; clear hK K
                refine BigFrame.wpQuiet_want (by kernel_rfl) (fun K hK => quiet_run (v := .bool false) (fun w' hw' => ?_) ?_)
                · go_simp
                go_simp; refine hK _ ?_; clear hK K
                refine BigFrame.wpQuiet_want (by kernel_rfl) (fun K hK => quiet_run (v := .bool false) (fun w' hw' => ?_) ?_)
                · go_simp
                go_simp; refine hK _ ?_; clear hK K
                refine BigFrame.wpQuiet_want (by kernel_rfl) (fun K hK => quiet_run (v := .bool false) (fun w' hw' => ?_) ?_)
                · go_simp
                go_simp; refine hK _ ?_; clear hK K
                refine BigFrame.wpQuiet_want (by kernel_rfl) (fun K hK => quiet_run (v := .bool false) (fun w' hw' => ?_) ?_)
                · go_simp
                go_simp; refine hK _ ?_; clear hK K
                go_big_quiet_skip
                go_big_quiet_skip
                go_big_quiet_skip
                go_big_quiet_skip
                go_big_quiet_skip
                refine BigFrame.wpQuiet_want (by kernel_rfl) (fun K hK => quiet_run (v := .bool false) (fun w' hw' => ?_) ?_)
                · go_simp
                go_simp; refine hK _ ?_; clear hK K
                refine wpQuiet_nil ?_
                intro w7 hw7
                have W7 := Lib.hid hw7
                clear hw7
                go_wp2_with fail
                go_meet
                case rel => exact ⟨1 + ch % 4096, ar, by go_num, rfl, by omega, by omega, by omega, fun h => by omega, ⟨W7.out.rc, W7.out.idb, W7.out.bel, HS.out.pre, HS.out.don⟩⟩
              have E8 : Hid ((vb == 8) = false ∧ (vb != 8) = true ∧ ¬ vb = 8) := Lib.hid ⟨by simp; exact h8, by simp; exact h8, h8⟩
              obtain ⟨code, hc0, hh⟩ := hear_strange (l := id) (n := q.size) (xs := xs) (d := d) (vb := vb) (f := (xl : Int)) (m := id) (t := t) (.inr (.inr ⟨h7, h8⟩))
              have HH := Lib.hid hh
              have HC : Hid ((code == 0) = false ∧ (code != 0) = true ∧ ¬ code = 0) := Lib.hid ⟨by simp; exact hc0, by simp; exact hc0, hc0⟩
              clear hh hc0
              refine wp_region_quiet (C := fun w' => OnC w b id q.size xs d xb (rcmC vb (xl : Int) id t) w') mixed (by kernel_rfl) O4.out.drew ?_
              refine BigFrame.wpQuiet_want (by kernel_rfl) (fun K hK => quiet_run (v := .pointer (some ⟨xb, 34, none⟩)) (fun w' hw' => ?_) ?_)
              · go_simp
              go_simp; refine hK _ ?_; clear hK K
              refine BigFrame.wpQuiet_want (by kernel_rfl) (fun K hK => quiet_run (v := .string t) (fun w' hw' => ?_) ?_)
              · (have c := X34.out w' hw'; go_simp)
              go_simp; refine hK _ ?_; clear hK K
              refine BigFrame.wpQuiet_want (by kernel_rfl) (fun K hK => quiet_run (v := .int .i64 (t.size : Int)) (fun w' hw' => ?_) ?_)
              · go_simp
              go_simp; refine hK _ ?_; clear hK K
              refine BigFrame.wpQuiet_want (by kernel_rfl) (fun K hK => quiet_run (v := .bool true) (fun w' hw' => ?_) ?_)
              · (have c := HA.out; go_simp)
              go_simp; refine hK _ ?_; clear hK K
              refine BigFrame.wpQuiet_want (by kernel_rfl) (fun K hK => quiet_run (v := .bool true) (fun w' hw' => ?_) ?_)
              · go_simp
              go_simp; refine hK _ ?_; clear hK K
              refine BigFrame.wpQuiet_want (by kernel_rfl) (fun K hK => quiet_run (v := .pointer (some ⟨xb, 1, none⟩)) (fun w' hw' => ?_) ?_)
              · go_simp
              go_simp; refine hK _ ?_; clear hK K
              refine BigFrame.wpQuiet_want (by kernel_rfl) (fun K hK => quiet_run (v := .agg (idA id)) (fun w' hw' => ?_) ?_)
              · exact exec_load rfl rfl (load_id w' xb 1 _ _ _ hm.len hw'.xbk (rcm_id _ _ _))
              go_simp; refine hK _ ?_; clear hK K
              refine BigFrame.wpQuiet_want (by kernel_rfl) (fun K hK => quiet_run (v := .agg (idA id)) (fun w' hw' => ?_) ?_)
              · exact exec_load rfl rfl (load_id w' w.heap.size 0 _ _ _ hid.len hw'.idb (id_self id))
              go_simp; refine hK _ ?_; clear hK K
              refine BigFrame.wpQuiet_want (by kernel_rfl) (fun K hK => quiet_run (v := .bool false) (fun w' hw' => ?_) ?_)
              · exact exec_neq rfl rfl rfl guard23 (EQ.out w')
              go_simp; refine hK _ ?_; clear hK K
              refine BigFrame.wpQuiet_want (by kernel_rfl) (fun K hK => quiet_run (v := .bool false) (fun w' hw' => ?_) ?_)
              · go_simp
              go_simp; refine hK _ ?_; clear hK K
              refine BigFrame.wpQuiet_want (by kernel_rfl) (fun K hK => quiet_run (v := .pointer (some ⟨xb, 33, none⟩)) (fun w' hw' => ?_) ?_)
              · go_simp
              go_simp; refine hK _ ?_; clear hK K
              refine BigFrame.wpQuiet_want (by kernel_rfl) (fun K hK => quiet_run (v := .int .i64 (xl : Int)) (fun w' hw' => ?_) ?_)
              · (have c := X33.out w' hw'; go_simp)
              go_simp; refine hK _ ?_; clear hK K
              refine BigFrame.wpQuiet_want (by kernel_rfl) (fun K hK => quiet_run (v := .pointer (some ⟨b, 0, none⟩)) (fun w' hw' => ?_) ?_)
              · go_simp
              go_simp; refine hK _ ?_; clear hK K
              refine BigFrame.wpQuiet_want (by kernel_rfl) (fun K hK => ⟨.int .i64 (xl : Int), fun w' hw' => ?_, ?_⟩)
              · unfold Oper.quietAt
                go_simp
                exact hw'.from XL.out
              go_simp; refine hK _ ?_; clear hK K
              refine BigFrame.wpQuiet_want (by kernel_rfl) (fun K hK => quiet_run (v := .bool false) (fun w' hw' => ?_) ?_)
              · go_simp
              go_simp; refine hK _ ?_; clear hK K
              refine BigFrame.wpQuiet_want (by kernel_rfl) (fun K hK => quiet_run (v := .bool false) (fun w' hw' => ?_) ?_)
              · go_simp
              go_simp; refine hK _ ?_; clear hK K
              go_big_quiet_skip
              go_big_quiet_skip
              go_big_quiet_skip
              refine BigFrame.wpQuiet_want (by kernel_rfl) (fun K hK => quiet_run (v := .bool false) (fun w' hw' => ?_) ?_)
              · go_simp
              go_simp; refine hK _ ?_; clear hK K
              refine BigFrame.wpQuiet_want (by kernel_rfl) (fun K hK => quiet_run (v := .bool false) (fun w' hw' => ?_) ?_)
              · go_simp
              go_simp; refine hK _ ?_; clear hK K
              refine BigFrame.wpQuiet_want (by kernel_rfl) (fun K hK => quiet_run (v := .bool false) (fun w' hw' => ?_) ?_)
              · go_simp
              go_simp; refine hK _ ?_; clear hK K
              refine BigFrame.wpQuiet_want (by kernel_rfl) (fun K hK => quiet_run (v := .pointer (some ⟨xb, 0, none⟩)) (fun w' hw' => ?_) ?_)
              · go_simp
              go_simp; refine hK _ ?_; clear hK K
              refine BigFrame.wpQuiet_want (by kernel_rfl) (fun K hK => quiet_run (v := .int .i64 vb) (fun w' hw' => ?_) ?_)
              · (have c := X0.out w' hw'; go_simp)
              go_simp; refine hK _ ?_; clear hK K
              refine BigFrame.wpQuiet_want (by kernel_rfl) (fun K hK => quiet_run (v := .bool true) (fun w' hw' => ?_) ?_)
              · (obtain ⟨c1, c2, c3⟩ := E7.out; go_simp)
              go_simp; refine hK _ ?_; clear hK K
              refine BigFrame.wpQuiet_want (by kernel_rfl) (fun K hK => quiet_run (v := .bool true) (fun w' hw' => ?_) ?_)
              · go_simp
              go_simp; refine hK _ ?_; clear hK K
              refine BigFrame.wpQuiet_want (by kernel_rfl) (fun K hK => quiet_run (v := .pointer (some ⟨xb, 0, none⟩)) (fun w' hw' => ?_) ?_)
              · go_simp
              go_simp; refine hK _ ?_; clear hK K
              refine BigFrame.wpQuiet_want (by kernel_rfl) (fun K hK => quiet_run (v := .int .i64 vb) (fun w' hw' => ?_) ?_)
              · (have c := X0.out w' hw'; go_simp)
              go_simp; refine hK _ ?_; clear hK K
              refine BigFrame.wpQuiet_want (by kernel_rfl) (fun K hK => quiet_run (v := .bool true) (fun w' hw' => ?_) ?_)
              · (obtain ⟨c1, c2, c3⟩ := E8.out; go_simp)
              go_simp; refine hK _ ?_; clear hK K
              refine BigFrame.wpQuiet_want (by kernel_rfl) (fun K hK => quiet_run (v := .bool true) (fun w' hw' => ?_) ?_)
              · go_simp
              go_simp; refine hK _ ?_; clear hK K
              refine BigFrame.wpQuiet_want (by kernel_rfl) (fun K hK => quiet_run (v := .bool true) (fun w' hw' => ?_) ?_)
              · go_simp
              go_simp; refine hK _ ?_; clear hK K
              refine BigFrame.wpQuiet_want (by kernel_rfl) (fun K hK => quiet_run (v := .bool true) (fun w' hw' => ?_) ?_)
              · go_simp
              go_simp; refine hK _ ?_; clear hK K
              refine BigFrame.wpQuiet_want (by kernel_rfl) (fun K hK => quiet_run (v := .bool true) (fun w' hw' => ?_) ?_)
              · go_simp
              go_simp; refine hK _ ?_; clear hK K
              refine BigFrame.wpQuiet_want (by kernel_rfl) (fun K hK => quiet_run (v := .pointer (some ⟨b, 0, none⟩)) (fun w' hw' => ?_) ?_)
              · go_simp
              go_simp; refine hK _ ?_; clear hK K
              refine BigFrame.wpQuiet_want (by kernel_rfl) (fun K hK => quiet_run (v := .agg (rcmC vb (xl : Int) id t)) (fun w' hw' => ?_) ?_)
              · exact exec_load rfl rfl (load_rcm w' xb 0 hm.len (fun x u hu => by rw [Nat.zero_add]; exact (cellB hw'.xbk x).trans hu))
              go_simp; refine hK _ ?_; clear hK K
              refine BigFrame.wpQuiet_want (by kernel_rfl) (fun K hK => ⟨.agg (cmdC vb (xl : Int) id t), fun w' hw' => ?_, ?_⟩)
              · unfold Oper.quietAt
                go_simp
                exact hw'.own vb (xl : Int) hm.len t
              go_simp; refine hK _ ?_; clear hK K
              refine BigFrame.wpQuiet_want (by kernel_rfl) (fun K hK => ⟨.int .i64 code, fun w' hw' => ?_, ?_⟩)
              · unfold Oper.quietAt
                go_simp
                exact hw'.no hid (by omega) (by rw [← XL.out]; exact hxq) hlb hm (by unfold maxLen; omega) HH.out
              go_simp; refine hK _ ?_; clear hK K
              refine BigFrame.wpQuiet_want (by kernel_rfl) (fun K hK => quiet_run (v := .bool false) (fun w' hw' => ?_) ?_)
              · (have c := HC.out; go_simp)
              go_simp; refine hK _ ?_; clear hK K
              refine BigFrame.wpQuiet_want (by kernel_rfl) (fun K hK => quiet_run (v := .bool false) (fun w' hw' => ?_) ?_)
              · go_simp
              go_simp; refine hK _ ?_; clear hK K
              refine wpQuiet_nil ?_
              intro w7 hw7
              have W7 := Lib.hid hw7
              clear hw7
              go_wp2_with fail
              go_meet
              case rel => exact ⟨1 + ch % 4096, ar, by go_num, rfl, by omega, by omega, by omega, fun h => by omega, ⟨W7.out.rc, W7.out.idb, W7.out.bel, HS.out.pre, HS.out.don⟩⟩
            have EF : Hid ((f == (xl : Int)) = false ∧ (f != (xl : Int)) = true ∧ ¬ f = (xl : Int)) := Lib.hid ⟨by simp; exact hf, by simp; exact hf, hf⟩
            by_cases h7 : vb = 7
            · subst h7
              obtain ⟨code, hc0, hh⟩ := hear_strange (l := id) (n := q.size) (xs := xs) (d := d) (vb := 7) (f := f) (m := id) (t := t) (.inr (.inl ⟨by rw [← XL.out]; exact hf, rfl⟩))
              have HH := Lib.hid hh
              have HC : Hid ((code == 0) = false ∧ (code != 0) = true ∧ ¬ code = 0) := Lib.hid ⟨by simp; exact hc0, by simp; exact hc0, hc0⟩
              clear hh hc0
              refine wp_region_quiet (C := fun w' => OnC w b id q.size xs d xb (rcmC 7 f id t) w') mixed (by kernel_rfl) O4.out.drew ?_
              refine BigFrame.wpQuiet_want (by kernel_rfl) (fun K hK => quiet_run (v := .pointer (some ⟨xb, 34, none⟩)) (fun w' hw' => ?_) ?_)
              · go_simp
              go_simp; refine hK _ ?_; clear hK K
              refine BigFrame.wpQuiet_want (by kernel_rfl) (fun K hK => quiet_run (v := .string t) (fun w' hw' => ?_) ?_)
              · (have c := X34.out w' hw'; go_simp)
              go_simp; refine hK _ ?_; clear hK K
              refine BigFrame.wpQuiet_want (by kernel_rfl) (fun K hK => quiet_run (v := .int .i64 (t.size : Int)) (fun w' hw' => ?_) ?_)
              · go_simp
              go_simp; refine hK _ ?_; clear hK K
              refine BigFrame.wpQuiet_want (by kernel_rfl) (fun K hK => quiet_run (v := .bool true) (fun w' hw' => ?_) ?_)
              · (have c := HA.out; go_simp)
              go_simp; refine hK _ ?_; clear hK K
              refine BigFrame.wpQuiet_want (by kernel_rfl) (fun K hK => quiet_run (v := .bool true) (fun w' hw' => ?_) ?_)
              · go_simp
              go_simp; refine hK _ ?_; clear hK K
              refine BigFrame.wpQuiet_want (by kernel_rfl) (fun K hK => quiet_run (v := .pointer (some ⟨xb, 1, none⟩)) (fun w' hw' => ?_) ?_)
              · go_simp
              go_simp; refine hK _ ?_; clear hK K
              refine BigFrame.wpQuiet_want (by kernel_rfl) (fun K hK => quiet_run (v := .agg (idA id)) (fun w' hw' => ?_) ?_)
              · exact exec_load rfl rfl (load_id w' xb 1 _ _ _ hm.len hw'.xbk (rcm_id _ _ _))
              go_simp; refine hK _ ?_; clear hK K
              refine BigFrame.wpQuiet_want (by kernel_rfl) (fun K hK => quiet_run (v := .agg (idA id)) (fun w' hw' => ?_) ?_)
              · exact exec_load rfl rfl (load_id w' w.heap.size 0 _ _ _ hid.len hw'.idb (id_self id))
              go_simp; refine hK _ ?_; clear hK K
              refine BigFrame.wpQuiet_want (by kernel_rfl) (fun K hK => quiet_run (v := .bool false) (fun w' hw' => ?_) ?_)
              · exact exec_neq rfl rfl rfl guard23 (EQ.out w')
              go_simp; refine hK _ ?_; clear hK K
              refine BigFrame.wpQuiet_want (by kernel_rfl) (fun K hK => quiet_run (v := .bool false) (fun w' hw' => ?_) ?_)
              · go_simp
              go_simp; refine hK _ ?_; clear hK K
              refine BigFrame.wpQuiet_want (by kernel_rfl) (fun K hK => quiet_run (v := .pointer (some ⟨xb, 33, none⟩)) (fun w' hw' => ?_) ?_)
              · go_simp
              go_simp; refine hK _ ?_; clear hK K
              refine BigFrame.wpQuiet_want (by kernel_rfl) (fun K hK => quiet_run (v := .int .i64 f) (fun w' hw' => ?_) ?_)
              · (have c := X33.out w' hw'; go_simp)
              go_simp; refine hK _ ?_; clear hK K
              refine BigFrame.wpQuiet_want (by kernel_rfl) (fun K hK => quiet_run (v := .pointer (some ⟨b, 0, none⟩)) (fun w' hw' => ?_) ?_)
              · go_simp
              go_simp; refine hK _ ?_; clear hK K
              refine BigFrame.wpQuiet_want (by kernel_rfl) (fun K hK => ⟨.int .i64 (xl : Int), fun w' hw' => ?_, ?_⟩)
              · unfold Oper.quietAt
                go_simp
                exact hw'.from XL.out
              go_simp; refine hK _ ?_; clear hK K
              refine BigFrame.wpQuiet_want (by kernel_rfl) (fun K hK => quiet_run (v := .bool true) (fun w' hw' => ?_) ?_)
              · (obtain ⟨c1, c2, c3⟩ := EF.out; go_simp)
              go_simp; refine hK _ ?_; clear hK K
              refine BigFrame.wpQuiet_want (by kernel_rfl) (fun K hK => quiet_run (v := .bool true) (fun w' hw' => ?_) ?_)
              · go_simp
              go_simp; refine hK _ ?_; clear hK K
              refine BigFrame.wpQuiet_want (by kernel_rfl) (fun K hK => quiet_run (v := .pointer (some ⟨xb, 0, none⟩)) (fun w' hw' => ?_) ?_)
              · go_simp
              go_simp; refine hK _ ?_; clear hK K
              refine BigFrame.wpQuiet_want (by kernel_rfl) (fun K hK => quiet_run (v := .int .i64 7) (fun w' hw' => ?_) ?_)
              · (have c := X0.out w' hw'; go_simp)
              go_simp; refine hK _ ?_; clear hK K
              refine BigFrame.wpQuiet_want (by kernel_rfl) (fun K hK => quiet_run (v := .bool true) (fun w' hw' => ?_) ?_)
              · go_simp
              go_simp; refine hK _ ?_; clear hK K
              refine BigFrame.wpQuiet_want (by kernel_rfl) (fun K hK => quiet_run (v := .bool true) (fun w' hw' => ?_) ?_)
              · go_simp
              go_simp; refine hK _ ?_; clear hK K
              refine BigFrame.wpQuiet_want (by kernel_rfl) (fun K hK => quiet_run (v := .bool true) (fun w' hw' => ?_) ?_)
              · go_simp
              go_simp; refine hK _ ?_; clear hK K
              refine BigFrame.wpQuiet_want (by kernel_rfl) (fun K hK => quiet_run (v := .bool true) (fun w' hw' => ?_) ?_)
              · go_simp
              go_simp; refine hK _ ?_; clear hK K
              go_big_quiet_skip
              go_big_quiet_skip
              go_big_quiet_skip
              go_big_quiet_skip
              go_big_quiet_skip
              go_big_quiet_skip
              go_big_quiet_skip
              go_big_quiet_skip
              refine BigFrame.wpQuiet_want (by kernel_rfl) (fun K hK => quiet_run (v := .bool true) (fun w' hw' => ?_) ?_)
              · go_simp
              go_simp; refine hK _ ?_; clear hK K
              refine BigFrame.wpQuiet_want (by kernel_rfl) (fun K hK => quiet_run (v := .bool true) (fun w' hw' => ?_) ?_)
              · go_simp
              go_simp; refine hK _ ?_; clear hK K
              refine BigFrame.wpQuiet_want (by kernel_rfl) (fun K hK => quiet_run (v := .bool true) (fun w' hw' => ?_) ?_)
              · go_simp
              go_simp; refine hK _ ?_; clear hK K
              refine BigFrame.wpQuiet_want (by kernel_rfl) (fun K hK => quiet_run (v := .pointer (some ⟨b, 0, none⟩)) (fun w' hw' => ?_) ?_)
              · go_simp
              go_simp; refine hK _ ?_; clear hK K
              refine BigFrame.wpQuiet_want (by kernel_rfl) (fun K hK => quiet_run (v := .agg (rcmC 7 f id t)) (fun w' hw' => ?_) ?_)
              · exact exec_load rfl rfl (load_rcm w' xb 0 hm.len (fun x u hu => by rw [Nat.zero_add]; exact (cellB hw'.xbk x).trans hu))
              go_simp; refine hK _ ?_; clear hK K
              refine BigFrame.wpQuiet_want (by kernel_rfl) (fun K hK => ⟨.agg (cmdC 7 f id t), fun w' hw' => ?_, ?_⟩)
              · unfold Oper.quietAt
                go_simp
                exact hw'.own 7 f hm.len t
              go_simp; refine hK _ ?_; clear hK K
              refine BigFrame.wpQuiet_want (by kernel_rfl) (fun K hK => ⟨.int .i64 code, fun w' hw' => ?_, ?_⟩)
              · unfold Oper.quietAt
                go_simp
                exact hw'.no hid (by omega) (by rw [← XL.out]; exact hxq) hlb hm (by unfold maxLen; omega) HH.out
              go_simp; refine hK _ ?_; clear hK K
              refine BigFrame.wpQuiet_want (by kernel_rfl) (fun K hK => quiet_run (v := .bool false) (fun w' hw' => ?_) ?_)
              · (have c := HC.out; go_simp)
              go_simp; refine hK _ ?_; clear hK K
              refine BigFrame.wpQuiet_want (by kernel_rfl) (fun K hK => quiet_run (v := .bool false) (fun w' hw' => ?_) ?_)
              · go_simp
              go_simp; refine hK _ ?_; clear hK K
              refine wpQuiet_nil ?_
              intro w7 hw7
              have W7 := Lib.hid hw7
              clear hw7
              go_wp2_with fail
              go_meet
              case rel => exact ⟨1 + ch % 4096, ar, by go_num, rfl, by omega, by omega, by omega, fun h => by omega, ⟨W7.out.rc, W7.out.idb, W7.out.bel, HS.out.pre, HS.out.don⟩⟩
            have E7 : Hid ((vb == 7) = false ∧ (vb != 7) = true ∧ ¬ vb = 7) := Lib.hid ⟨by simp; exact h7, by simp; exact h7, h7⟩
            by_cases h8 : vb = 8
            · subst h8
              clear E7 h7
              refine wp_region_quiet (C := fun w' => OnC w b id q.size xs d xb (rcmC 8 f id t) w') mixed (by kernel_rfl) O4.out.drew ?_
              refine BigFrame.wpQuiet_want (by kernel_rfl) (fun K hK => quiet_run (v := .pointer (some ⟨xb, 34, none⟩)) (fun w' hw' => ?_) ?_)
              · go_simp
              go_simp; refine hK _ ?_; clear hK K
              refine BigFrame.wpQuiet_want (by kernel_rfl) (fun K hK => quiet_run (v := .string t) (fun w' hw' => ?_) ?_)
              · (have c := X34.out w' hw'; go_simp)
              go_simp; refine hK _ ?_; clear hK K
              refine BigFrame.wpQuiet_want (by kernel_rfl) (fun K hK => quiet_run (v := .int .i64 (t.size : Int)) (fun w' hw' => ?_) ?_)
              · go_simp
              go_simp; refine hK _ ?_; clear hK K
              refine BigFrame.wpQuiet_want (by kernel_rfl) (fun K hK => quiet_run (v := .bool true) (fun w' hw' => ?_) ?_)
              · (have c := HA.out; go_simp)
              go_simp; refine hK _ ?_; clear hK K
              refine BigFrame.wpQuiet_want (by kernel_rfl) (fun K hK => quiet_run (v := .bool true) (fun w' hw' => ?_) ?_)
              · go_simp
              go_simp; refine hK _ ?_; clear hK K
              refine BigFrame.wpQuiet_want (by kernel_rfl) (fun K hK => quiet_run (v := .pointer (some ⟨xb, 1, none⟩)) (fun w' hw' => ?_) ?_)
              · go_simp
              go_simp; refine hK _ ?_; clear hK K
              refine BigFrame.wpQuiet_want (by kernel_rfl) (fun K hK => quiet_run (v := .agg (idA id)) (fun w' hw' => ?_) ?_)
              · exact exec_load rfl rfl (load_id w' xb 1 _ _ _ hm.len hw'.xbk (rcm_id _ _ _))
              go_simp; refine hK _ ?_; clear hK K
              refine BigFrame.wpQuiet_want (by kernel_rfl) (fun K hK => quiet_run (v := .agg (idA id)) (fun w' hw' => ?_) ?_)
              · exact exec_load rfl rfl (load_id w' w.heap.size 0 _ _ _ hid.len hw'.idb (id_self id))
              go_simp; refine hK _ ?_; clear hK K
              refine BigFrame.wpQuiet_want (by kernel_rfl) (fun K hK => quiet_run (v := .bool false) (fun w' hw' => ?_) ?_)
              · exact exec_neq rfl rfl rfl guard23 (EQ.out w')
              go_simp; refine hK _ ?_; clear hK K
              refine BigFrame.wpQuiet_want (by kernel_rfl) (fun K hK => quiet_run (v := .bool false) (fun w' hw' => ?_) ?_)
              · go_simp
              go_simp; refine hK _ ?_; clear hK K
              refine BigFrame.wpQuiet_want (by kernel_rfl) (fun K hK => quiet_run (v := .pointer (some ⟨xb, 33, none⟩)) (fun w' hw' => ?_) ?_)
              · go_simp
              go_simp; refine hK _ ?_; clear hK K
              refine BigFrame.wpQuiet_want (by kernel_rfl) (fun K hK => quiet_run (v := .int .i64 f) (fun w' hw' => ?_) ?_)
              · (have c := X33.out w' hw'; go_simp)
              go_simp; refine hK _ ?_; clear hK K
              refine BigFrame.wpQuiet_want (by kernel_rfl) (fun K hK => quiet_run (v := .pointer (some ⟨b, 0, none⟩)) (fun w' hw' => ?_) ?_)
              · go_simp
              go_simp; refine hK _ ?_; clear hK K
              refine BigFrame.wpQuiet_want (by kernel_rfl) (fun K hK => ⟨.int .i64 (xl : Int), fun w' hw' => ?_, ?_⟩)
              · unfold Oper.quietAt
                go_simp
                exact hw'.from XL.out
              go_simp; refine hK _ ?_; clear hK K
              refine BigFrame.wpQuiet_want (by kernel_rfl) (fun K hK => quiet_run (v := .bool true) (fun w' hw' => ?_) ?_)
              · (obtain ⟨c1, c2, c3⟩ := EF.out; go_simp)
              go_simp; refine hK _ ?_; clear hK K
              refine BigFrame.wpQuiet_want (by kernel_rfl) (fun K hK => quiet_run (v := .bool true) (fun w' hw' => ?_) ?_)
              · go_simp
              go_simp; refine hK _ ?_; clear hK K
              refine BigFrame.wpQuiet_want (by kernel_rfl) (fun K hK => quiet_run (v := .pointer (some ⟨xb, 0, none⟩)) (fun w' hw' => ?_) ?_)
              · go_simp
              go_simp; refine hK _ ?_; clear hK K
              refine BigFrame.wpQuiet_want (by kernel_rfl) (fun K hK => quiet_run (v := .int .i64 8) (fun w' hw' => ?_) ?_)
              · (have c := X0.out w' hw'; go_simp)
              go_simp; refine hK _ ?_; clear hK K
              refine BigFrame.wpQuiet_want (by kernel_rfl) (fun K hK => quiet_run (v := .bool false) (fun w' hw' => ?_) ?_)
              · go_simp
              go_simp; refine hK _ ?_; clear hK K
              refine BigFrame.wpQuiet_want (by kernel_rfl) (fun K hK => quiet_run (v := .bool false) (fun w' hw' => ?_) ?_)
              · go_simp
              go_simp; refine hK _ ?_; clear hK K
              refine BigFrame.wpQuiet_want (by kernel_rfl) (fun K hK => quiet_run (v := .bool false) (fun w' hw' => ?_) ?_)
              · go_simp
              go_simp; refine hK _ ?_; clear hK K
              refine BigFrame.wpQuiet_want (by kernel_rfl) (fun K hK => quiet_run (v := .bool false) (fun w' hw' => ?_) ?_)
              · go_simp
              go_simp; refine hK _ ?_; clear hK K
              refine BigFrame.wpQuiet_want (by kernel_rfl) (fun K hK => quiet_run (v := .pointer (some ⟨xb, 0, none⟩)) (fun w' hw' => ?_) ?_)
              · go_simp
              go_simp; refine hK _ ?_; clear hK K
              refine BigFrame.wpQuiet_want (by kernel_rfl) (fun K hK => quiet_run (v := .int .i64 8) (fun w' hw' => ?_) ?_)
              · (have c := X0.out w' hw'; go_simp)
              go_simp; refine hK _ ?_; clear hK K
              refine BigFrame.wpQuiet_want (by kernel_rfl) (fun K hK => quiet_run (v := .bool true) (fun w' hw' => ?_) ?_)
              · go_simp
              go_simp; refine hK _ ?_; clear hK K
              refine BigFrame.wpQuiet_want (by kernel_rfl) (fun K hK => quiet_run (v := .bool true) (fun w' hw' => ?_) ?_)
              · go_simp
              go_simp; refine hK _ ?_; clear hK K
              refine BigFrame.wpQuiet_want (by kernel_rfl) (fun K hK => quiet_run (v := .pointer (some ⟨xb, 0, none⟩)) (fun w' hw' => ?_) ?_)
              · go_simp
              go_simp; refine hK _ ?_; clear hK K
              refine BigFrame.wpQuiet_want (by kernel_rfl) (fun K hK => quiet_run (v := .int .i64 8) (fun w' hw' => ?_) ?_)
              · (have c := X0.out w' hw'; go_simp)
              go_simp; refine hK _ ?_; clear hK K
              refine BigFrame.wpQuiet_want (by kernel_rfl) (fun K hK => quiet_run (v := .bool false) (fun w' hw' => ?_) ?_)
              · go_simp
              go_simp; refine hK _ ?_; clear hK K
              refine BigFrame.wpQuiet_want (by kernel_rfl) (fun K hK => quiet_run (v := .bool false) (fun w' hw' => ?_) ?_)
              · go_simp
              go_simp; refine hK _ ?_; clear hK K
              refine BigFrame.wpQuiet_want (by kernel_rfl) (fun K hK => quiet_run (v := .bool false) (fun w' hw' => ?_) ?_)
              · go_simp
              go_simp; refine hK _ ?_; clear hK K
              refine BigFrame.wpQuiet_want (by kernel_rfl) (fun K hK => quiet_run (v := .bool false) (fun w' hw' => ?_) ?_)
              · go_simp
              go_simp; refine hK _ ?_; clear hK K
              refine BigFrame.wpQuiet_want (by kernel_rfl) (fun K hK => quiet_run (v := .bool false) (fun w' hw' => ?_) ?_)
              · go_simp
              go_simp; refine hK _ ?_; clear hK K
              go_big_quiet_skip
              go_big_quiet_skip
              go_big_quiet_skip
              go_big_quiet_skip
              go_big_quiet_skip
              refine BigFrame.wpQuiet_want (by kernel_rfl) (fun K hK => quiet_run (v := .bool false) (fun w' hw' => ?_) ?_)
              · go_simp
              go_simp; refine hK _ ?_; clear hK K
              refine wpQuiet_nil ?_
              intro w7 hw7
              have W7 := Lib.hid hw7
              clear hw7
              go_wp2_with fail
              go_meet
              case rel => exact ⟨1 + ch % 4096, ar, by go_num, rfl, by omega, by omega, by omega, fun h => by omega, ⟨W7.out.rc, W7.out.idb, W7.out.bel, HS.out.pre, HS.out.don⟩⟩
            have E8 : Hid ((vb == 8) = false ∧ (vb != 8) = true ∧ ¬ vb = 8) := Lib.hid ⟨by simp; exact h8, by simp; exact h8, h8⟩
            obtain ⟨code, hc0, hh⟩ := hear_strange (l := id) (n := q.size) (xs := xs) (d := d) (vb := vb) (f := f) (m := id) (t := t) (.inr (.inr ⟨h7, h8⟩))
            have HH := Lib.hid hh
            have HC : Hid ((code == 0) = false ∧ (code != 0) = true ∧ ¬ code = 0) := Lib.hid ⟨by simp; exact hc0, by simp; exact hc0, hc0⟩
            clear hh hc0
            refine wp_region_quiet (C := fun w' => OnC w b id q.size xs d xb (rcmC vb f id t) w') mixed (by kernel_rfl) O4.out.drew ?_
            refine BigFrame.wpQuiet_want (by kernel_rfl) (fun K hK => quiet_run (v := .pointer (some ⟨xb, 34, none⟩)) (fun w' hw' => ?_) ?_)
            · go_simp
            go_simp; refine hK _ ?_; clear hK K
            refine BigFrame.wpQuiet_want (by kernel_rfl) (fun K hK => quiet_run (v := .string t) (fun w' hw' => ?_) ?_)
            · (have c := X34.out w' hw'; go_simp)
            go_simp; refine hK _ ?_; clear hK K
            refine BigFrame.wpQuiet_want (by kernel_rfl) (fun K hK => quiet_run (v := .int .i64 (t.size : Int)) (fun w' hw' => ?_) ?_)
            · go_simp
            go_simp; refine hK _ ?_; clear hK K
            refine BigFrame.wpQuiet_want (by kernel_rfl) (fun K hK => quiet_run (v := .bool true) (fun w' hw' => ?_) ?_)
            · (have c := HA.out; go_simp)
            go_simp; refine hK _ ?_; clear hK K
            refine BigFrame.wpQuiet_want (by kernel_rfl) (fun K hK => quiet_run (v := .bool true) (fun w' hw' => ?_) ?_)
            · go_simp
            go_simp; refine hK _ ?_; clear hK K
            refine BigFrame.wpQuiet_want (by kernel_rfl) (fun K hK => quiet_run (v := .pointer (some ⟨xb, 1, none⟩)) (fun w' hw' => ?_) ?_)
            · go_simp
            go_simp; refine hK _ ?_; clear hK K
            refine BigFrame.wpQuiet_want (by kernel_rfl) (fun K hK => quiet_run (v := .agg (idA id)) (fun w' hw' => ?_) ?_)
            · exact exec_load rfl rfl (load_id w' xb 1 _ _ _ hm.len hw'.xbk (rcm_id _ _ _))
            go_simp; refine hK _ ?_; clear hK K
            refine BigFrame.wpQuiet_want (by kernel_rfl) (fun K hK => quiet_run (v := .agg (idA id)) (fun w' hw' => ?_) ?_)
            · exact exec_load rfl rfl (load_id w' w.heap.size 0 _ _ _ hid.len hw'.idb (id_self id))
            go_simp; refine hK _ ?_; clear hK K
            refine BigFrame.wpQuiet_want (by kernel_rfl) (fun K hK => quiet_run (v := .bool false) (fun w' hw' => ?_) ?_)
            · exact exec_neq rfl rfl rfl guard23 (EQ.out w')
            go_simp; refine hK _ ?_; clear hK K
            refine BigFrame.wpQuiet_want (by kernel_rfl) (fun K hK => quiet_run (v := .bool false) (fun w' hw' => ?_) ?_)
            · go_simp
            go_simp; refine hK _ ?_; clear hK K
            refine BigFrame.wpQuiet_want (by kernel_rfl) (fun K hK => quiet_run (v := .pointer (some ⟨xb, 33, none⟩)) (fun w' hw' => ?_) ?_)
            · go_simp
            go_simp; refine hK _ ?_; clear hK K
            refine BigFrame.wpQuiet_want (by kernel_rfl) (fun K hK => quiet_run (v := .int .i64 f) (fun w' hw' => ?_) ?_)
            · (have c := X33.out w' hw'; go_simp)
            go_simp; refine hK _ ?_; clear hK K
            refine BigFrame.wpQuiet_want (by kernel_rfl) (fun K hK => quiet_run (v := .pointer (some ⟨b, 0, none⟩)) (fun w' hw' => ?_) ?_)
            · go_simp
            go_simp; refine hK _ ?_; clear hK K
            refine BigFrame.wpQuiet_want (by kernel_rfl) (fun K hK => ⟨.int .i64 (xl : Int), fun w' hw' => ?_, ?_⟩)
            · unfold Oper.quietAt
              go_simp
              exact hw'.from XL.out
            go_simp; refine hK _ ?_; clear hK K
            refine BigFrame.wpQuiet_want (by kernel_rfl) (fun K hK => quiet_run (v := .bool true) (fun w' hw' => ?_) ?_)
            · (obtain ⟨c1, c2, c3⟩ := EF.out; go_simp)
            go_simp; refine hK _ ?_; clear hK K
            refine BigFrame.wpQuiet_want (by kernel_rfl) (fun K hK => quiet_run (v := .bool true) (fun w' hw' => ?_) ?_)
            · go_simp
            go_simp; refine hK _ ?_; clear hK K
            refine BigFrame.wpQuiet_want (by kernel_rfl) (fun K hK => quiet_run (v := .pointer (some ⟨xb, 0, none⟩)) (fun w' hw' => ?_) ?_)
            · go_simp
            go_simp; refine hK _ ?_; clear hK K
            refine BigFrame.wpQuiet_want (by kernel_rfl) (fun K hK => quiet_run (v := .int .i64 vb) (fun w' hw' => ?_) ?_)
            · (have c := X0.out w' hw'; go_simp)
            go_simp; refine hK _ ?_; clear hK K
            refine BigFrame.wpQuiet_want (by kernel_rfl) (fun K hK => quiet_run (v := .bool false) (fun w' hw' => ?_) ?_)
            · (obtain ⟨c1, c2, c3⟩ := E7.out; go_simp)
            go_simp; refine hK _ ?_; clear hK K
            refine BigFrame.wpQuiet_want (by kernel_rfl) (fun K hK => quiet_run (v := .bool false) (fun w' hw' => ?_) ?_)
            · go_simp
            go_simp; refine hK _ ?_; clear hK K
            refine BigFrame.wpQuiet_want (by kernel_rfl) (fun K hK => quiet_run (v := .bool false) (fun w' hw' => ?_) ?_)
            · go_simp
            go_simp; refine hK _ ?_; clear hK K
            refine BigFrame.wpQuiet_want (by kernel_rfl) (fun K hK => quiet_run (v := .bool false) (fun w' hw' => ?_) ?_)
            · go_simp
            go_simp; refine hK _ ?_; clear hK K
            refine BigFrame.wpQuiet_want (by kernel_rfl) (fun K hK => quiet_run (v := .pointer (some ⟨xb, 0, none⟩)) (fun w' hw' => ?_) ?_)
            · go_simp
            go_simp; refine hK _ ?_; clear hK K
            refine BigFrame.wpQuiet_want (by kernel_rfl) (fun K hK => quiet_run (v := .int .i64 vb) (fun w' hw' => ?_) ?_)
            · (have c := X0.out w' hw'; go_simp)
            go_simp; refine hK _ ?_; clear hK K
            refine BigFrame.wpQuiet_want (by kernel_rfl) (fun K hK => quiet_run (v := .bool true) (fun w' hw' => ?_) ?_)
            · (obtain ⟨c1, c2, c3⟩ := E7.out; go_simp)
            go_simp; refine hK _ ?_; clear hK K
            refine BigFrame.wpQuiet_want (by kernel_rfl) (fun K hK => quiet_run (v := .bool true) (fun w' hw' => ?_) ?_)
            · go_simp
            go_simp; refine hK _ ?_; clear hK K
            refine BigFrame.wpQuiet_want (by kernel_rfl) (fun K hK => quiet_run (v := .pointer (some ⟨xb, 0, none⟩)) (fun w' hw' => ?_) ?_)
            · go_simp
            go_simp; refine hK _ ?_; clear hK K
            refine BigFrame.wpQuiet_want (by kernel_rfl) (fun K hK => quiet_run (v := .int .i64 vb) (fun w' hw' => ?_) ?_)
            · (have c := X0.out w' hw'; go_simp)
            go_simp; refine hK _ ?_; clear hK K
            refine BigFrame.wpQuiet_want (by kernel_rfl) (fun K hK => quiet_run (v := .bool true) (fun w' hw' => ?_) ?_)
            · (obtain ⟨c1, c2, c3⟩ := E8.out; go_simp)
            go_simp; refine hK _ ?_; clear hK K
            refine BigFrame.wpQuiet_want (by kernel_rfl) (fun K hK => quiet_run (v := .bool true) (fun w' hw' => ?_) ?_)
            · go_simp
            go_simp; refine hK _ ?_; clear hK K
            refine BigFrame.wpQuiet_want (by kernel_rfl) (fun K hK => quiet_run (v := .bool true) (fun w' hw' => ?_) ?_)
            · go_simp
            go_simp; refine hK _ ?_; clear hK K
            refine BigFrame.wpQuiet_want (by kernel_rfl) (fun K hK => quiet_run (v := .bool true) (fun w' hw' => ?_) ?_)
            · go_simp
            go_simp; refine hK _ ?_; clear hK K
            refine BigFrame.wpQuiet_want (by kernel_rfl) (fun K hK => quiet_run (v := .bool true) (fun w' hw' => ?_) ?_)
            · go_simp
            go_simp; refine hK _ ?_; clear hK K
            refine BigFrame.wpQuiet_want (by kernel_rfl) (fun K hK => quiet_run (v := .pointer (some ⟨b, 0, none⟩)) (fun w' hw' => ?_) ?_)
            · go_simp
            go_simp; refine hK _ ?_; clear hK K
            refine BigFrame.wpQuiet_want (by kernel_rfl) (fun K hK => quiet_run (v := .agg (rcmC vb f id t)) (fun w' hw' => ?_) ?_)
            · exact exec_load rfl rfl (load_rcm w' xb 0 hm.len (fun x u hu => by rw [Nat.zero_add]; exact (cellB hw'.xbk x).trans hu))
            go_simp; refine hK _ ?_; clear hK K
            refine BigFrame.wpQuiet_want (by kernel_rfl) (fun K hK => ⟨.agg (cmdC vb f id t), fun w' hw' => ?_, ?_⟩)
            · unfold Oper.quietAt
              go_simp
              exact hw'.own vb f hm.len t
            go_simp; refine hK _ ?_; clear hK K
            refine BigFrame.wpQuiet_want (by kernel_rfl) (fun K hK => ⟨.int .i64 code, fun w' hw' => ?_, ?_⟩)
            · unfold Oper.quietAt
              go_simp
              exact hw'.no hid (by omega) (by rw [← XL.out]; exact hxq) hlb hm (by unfold maxLen; omega) HH.out
            go_simp; refine hK _ ?_; clear hK K
            refine BigFrame.wpQuiet_want (by kernel_rfl) (fun K hK => quiet_run (v := .bool false) (fun w' hw' => ?_) ?_)
            · (have c := HC.out; go_simp)
            go_simp; refine hK _ ?_; clear hK K
            refine BigFrame.wpQuiet_want (by kernel_rfl) (fun K hK => quiet_run (v := .bool false) (fun w' hw' => ?_) ?_)
            · go_simp
            go_simp; refine hK _ ?_; clear hK K
            refine wpQuiet_nil ?_
            intro w7 hw7
            have W7 := Lib.hid hw7
            clear hw7
            go_wp2_with fail
            go_meet
            case rel => exact ⟨1 + ch % 4096, ar, by go_num, rfl, by omega, by omega, by omega, fun h => by omega, ⟨W7.out.rc, W7.out.idb, W7.out.bel, HS.out.pre, HS.out.don⟩⟩
          have hmi2 : m ≠ id := fun h => hmi h.symm
          rw [decide_eq_false hmi2] at EQ
          obtain ⟨code, hc0, hh⟩ := hear_strange (l := id) (n := q.size) (xs := xs) (d := d) (vb := vb) (f := f) (m := m) (t := t) (.inl hmi2)
          have HH := Lib.hid hh
          have HC : Hid ((code == 0) = false ∧ (code != 0) = true ∧ ¬ code = 0) := Lib.hid ⟨by simp; exact hc0, by simp; exact hc0, hc0⟩
          clear hh hc0
          refine wp_region_quiet (C := fun w' => OnC w b id q.size xs d xb (rcmC vb f m t) w') mixed (by kernel_rfl) O4.out.drew ?_
          refine BigFrame.wpQuiet_want (by kernel_rfl) (fun K hK => quiet_run (v := .pointer (some ⟨xb, 34, none⟩)) (fun w' hw' => ?_) ?_)
          · go_simp
          go_simp; refine hK _ ?_; clear hK K
          refine BigFrame.wpQuiet_want (by kernel_rfl) (fun K hK => quiet_run (v := .string t) (fun w' hw' => ?_) ?_)
          · (have c := X34.out w' hw'; go_simp)
          go_simp; refine hK _ ?_; clear hK K
          refine BigFrame.wpQuiet_want (by kernel_rfl) (fun K hK => quiet_run (v := .int .i64 (t.size : Int)) (fun w' hw' => ?_) ?_)
          · go_simp
          go_simp; refine hK _ ?_; clear hK K
          refine BigFrame.wpQuiet_want (by kernel_rfl) (fun K hK => quiet_run (v := .bool true) (fun w' hw' => ?_) ?_)
          · (have c := HA.out; go_simp)
          go_simp; refine hK _ ?_; clear hK K
          refine BigFrame.wpQuiet_want (by kernel_rfl) (fun K hK => quiet_run (v := .bool true) (fun w' hw' => ?_) ?_)
          · go_simp
          go_simp; refine hK _ ?_; clear hK K
          refine BigFrame.wpQuiet_want (by kernel_rfl) (fun K hK => quiet_run (v := .pointer (some ⟨xb, 1, none⟩)) (fun w' hw' => ?_) ?_)
          · go_simp
          go_simp; refine hK _ ?_; clear hK K
          refine BigFrame.wpQuiet_want (by kernel_rfl) (fun K hK => quiet_run (v := .agg (idA m)) (fun w' hw' => ?_) ?_)
          · exact exec_load rfl rfl (load_id w' xb 1 _ _ _ hm.len hw'.xbk (rcm_id _ _ _))
          go_simp; refine hK _ ?_; clear hK K
          refine BigFrame.wpQuiet_want (by kernel_rfl) (fun K hK => quiet_run (v := .agg (idA id)) (fun w' hw' => ?_) ?_)
          · exact exec_load rfl rfl (load_id w' w.heap.size 0 _ _ _ hid.len hw'.idb (id_self id))
          go_simp; refine hK _ ?_; clear hK K
          refine BigFrame.wpQuiet_want (by kernel_rfl) (fun K hK => quiet_run (v := .bool true) (fun w' hw' => ?_) ?_)
          · exact exec_neq rfl rfl rfl guard23 (EQ.out w')
          go_simp; refine hK _ ?_; clear hK K
          refine BigFrame.wpQuiet_want (by kernel_rfl) (fun K hK => quiet_run (v := .bool true) (fun w' hw' => ?_) ?_)
          · go_simp
          go_simp; refine hK _ ?_; clear hK K
          go_big_quiet_skip
          go_big_quiet_skip
          go_big_quiet_skip
          go_big_quiet_skip
          go_big_quiet_skip
          go_big_quiet_skip
          go_big_quiet_skip
          go_big_quiet_skip
          go_big_quiet_skip
          go_big_quiet_skip
          refine BigFrame.wpQuiet_want (by kernel_rfl) (fun K hK => quiet_run (v := .bool true) (fun w' hw' => ?_) ?_)
          · go_simp
          go_simp; refine hK _ ?_; clear hK K
          refine BigFrame.wpQuiet_want (by kernel_rfl) (fun K hK => quiet_run (v := .bool true) (fun w' hw' => ?_) ?_)
          · go_simp
          go_simp; refine hK _ ?_; clear hK K
          go_big_quiet_skip
          go_big_quiet_skip
          go_big_quiet_skip
          go_big_quiet_skip
          go_big_quiet_skip
          go_big_quiet_skip
          go_big_quiet_skip
          go_big_quiet_skip
          refine BigFrame.wpQuiet_want (by kernel_rfl) (fun K hK => quiet_run (v := .bool true) (fun w' hw' => ?_) ?_)
          · go_simp
          go_simp; refine hK _ ?_; clear hK K
          refine BigFrame.wpQuiet_want (by kernel_rfl) (fun K hK => quiet_run (v := .bool true) (fun w' hw' => ?_) ?_)
          · go_simp
          go_simp; refine hK _ ?_; clear hK K
          refine BigFrame.wpQuiet_want (by kernel_rfl) (fun K hK => quiet_run (v := .bool true) (fun w' hw' => ?_) ?_)
          · go_simp
          go_simp; refine hK _ ?_; clear hK K
          refine BigFrame.wpQuiet_want (by kernel_rfl) (fun K hK => quiet_run (v := .pointer (some ⟨b, 0, none⟩)) (fun w' hw' => ?_) ?_)
          · go_simp
          go_simp; refine hK _ ?_; clear hK K
          refine BigFrame.wpQuiet_want (by kernel_rfl) (fun K hK => quiet_run (v := .agg (rcmC vb f m t)) (fun w' hw' => ?_) ?_)
          · exact exec_load rfl rfl (load_rcm w' xb 0 hm.len (fun x u hu => by rw [Nat.zero_add]; exact (cellB hw'.xbk x).trans hu))
          go_simp; refine hK _ ?_; clear hK K
          refine BigFrame.wpQuiet_want (by kernel_rfl) (fun K hK => ⟨.agg (cmdC vb f m t), fun w' hw' => ?_, ?_⟩)
          · unfold Oper.quietAt
            go_simp
            exact hw'.own vb f hm.len t
          go_simp; refine hK _ ?_; clear hK K
          refine BigFrame.wpQuiet_want (by kernel_rfl) (fun K hK => ⟨.int .i64 code, fun w' hw' => ?_, ?_⟩)
          · unfold Oper.quietAt
            go_simp
            exact hw'.no hid (by omega) (by rw [← XL.out]; exact hxq) hlb hm (by unfold maxLen; omega) HH.out
          go_simp; refine hK _ ?_; clear hK K
          refine BigFrame.wpQuiet_want (by kernel_rfl) (fun K hK => quiet_run (v := .bool false) (fun w' hw' => ?_) ?_)
          · (have c := HC.out; go_simp)
          go_simp; refine hK _ ?_; clear hK K
          refine BigFrame.wpQuiet_want (by kernel_rfl) (fun K hK => quiet_run (v := .bool false) (fun w' hw' => ?_) ?_)
          · go_simp
          go_simp; refine hK _ ?_; clear hK K
          refine wpQuiet_nil ?_
          intro w7 hw7
          have W7 := Lib.hid hw7
          clear hw7
          go_wp2_with fail
          go_meet
          case rel => exact ⟨1 + ch % 4096, ar, by go_num, rfl, by omega, by omega, by omega, fun h => by omega, ⟨W7.out.rc, W7.out.idb, W7.out.bel, HS.out.pre, HS.out.don⟩⟩
        · have hjni : ¬ (j : Int) < (n : Int) := by omega
          go_wp2_with fail
          go_meet
          case rel => exact ⟨4096, 10000, rfl, rfl, by omega, by omega, by omega, fun _ => rfl, HS.out⟩
      case rest =>
        obtain ⟨C, A, rfl, rfl, c0, c1, a1, hAn, hS4⟩ := hcut
        have S4 := Lib.hid hS4; have HAN := Lib.hid hAn
        clear hS4 hAn HS
        obtain ⟨v4, hR4⟩ := S4.out.rc
        have CO := Lib.hid (complete_any wc hR4 hid.len)
        have FRo := from_any wc hR4
        rw [← XL.out] at FRo
        have FR4 := Lib.hid FRo
        have I4 := Lib.hid S4.out.idb
        clear hR4 FRo
        cases d with
        | true =>
          go_wp2_with (go_at_call 25; refine CO.out.mono ?_; rintro e w7 ⟨rfl, hw7⟩; subst hw7)
          obtain ⟨vf, hRf⟩ := S4.out.rc
          have RF := Lib.hid hRf
          clear hRf
          refine (text_yes wc RF.out hid.len (pre_lt S4.out.pre) (by have := S4.out.pre.2; omega)).mono ?_
          rintro e w5 ⟨rfl, hr5, hf5⟩
          rw [pre_full S4.out.pre (S4.out.don rfl)]
          have B5 : Hid (Below w.heap.size w w5) := Lib.hid (hf5.law RF.out S4.out.bel hlb)
          have FR5 := from_any w5 hr5
          rw [S4.out.don rfl] at FR5
          have FR := Lib.hid FR5
          clear hr5 hf5 FR5
          go_wp2_with (go_at_call 12; refine FR.out.mono ?_; rintro e w7 ⟨rfl, hw7⟩; subst hw7)
          go_ret
          exact ⟨by simp, B5.out⟩
        | false =>
          go_wp2_with (first
            | (go_at_call 25; refine CO.out.mono ?_; rintro e w7 ⟨rfl, hw7⟩; subst hw7)
            | (go_at_call 12; refine FR4.out.mono ?_; rintro e w7 ⟨rfl, hw7⟩; subst hw7)
            | ((with_reducible refine wpList_load 23 rfl _ rfl ?_); refine ⟨_, _, rfl, load_id _ w.heap.size 0 _ _ _ hid.len I4.out (id_self id), ?_⟩))
          refine (newsnd_any wc hid q (C : Int) (xl : Int) (by omega) (by omega) (by omega) (by omega) (by omega)).mono ?_
          rintro e w5 ⟨rfl, hw5⟩
          have S5 : Hid (OnS w b id q xs false w5) := Lib.hid (by
            have hbb : Below wc.heap.size wc w5 := by rw [hw5]; exact ((Below.refl _ _).alloc (Nat.le_refl _) _).alloc (by simp) _
            exact ⟨S4.out.rc.imp fun v hv => hv.below hbb, (hbb.block _ (lt_of_block S4.out.idb)).trans S4.out.idb, S4.out.bel.trans (hbb.mono S4.out.bel.size), S4.out.pre, S4.out.don⟩)
          have N5 : Hid (Sn w5 (wc.heap.size + 1) id q C xl false) := Lib.hid (by rw [hw5]; exact sn_new wc _ id q C xl)
          obtain ⟨sb, hsb⟩ : ∃ sb, sb = wc.heap.size + 1 := ⟨_, rfl⟩
          have hlsb : w.heap.size ≤ sb := by have := S4.out.bel.size; omega
          rw [← hsb] at N5
          rw [← hsb]
          clear hw5 hsb S4 CO FR4 I4
          go_wp2_with fail
          go_loopg [18] A (fun kk i ws => InR w b sb id q C A xl kk i ws)
          case atStart => exact ⟨0, xs, false, rfl, by omega, rfl, S5.out, Nat.le_of_eq XL.out, .inl ⟨rfl, by rw [← XL.out]; exact N5.out, Nat.le_of_eq XL.out⟩⟩
          case round =>
            obtain ⟨k, ys, d', rfl, hk, rfl, hS6, hge, hst⟩ := hrel
            clear S5 N5
            have S6 := Lib.hid hS6
            obtain ⟨yl, hyl⟩ : ∃ yl, yl = ys.length := ⟨_, rfl⟩
            rw [← hyl] at hge
            have YL := Lib.hid hyl
            have hyq : yl ≤ q.size := by have := hS6.pre.2; omega
            have ss := hS6.bel.size
            clear hS6 hyl
            by_cases hkA : k < A
            · have hkAi : (k : Int) < (A : Int) := by omega
              rcases hst with ⟨rfl, hSn, hfk⟩ | ⟨rfl, hSn⟩
              · rw [← YL.out] at hSn hfk
                by_cases hfull : yl < q.size
                · obtain ⟨p2, hp2⟩ : ∃ p2, p2 = min (yl + C) q.size := ⟨_, rfl⟩
                  have hpp : yl < p2 := by omega
                  have hpz : p2 ≤ q.size := by omega
                  obtain ⟨tx, htx⟩ : ∃ tx, tx = q.extract yl p2 := ⟨_, rfl⟩
                  have htz : tx.size = p2 - yl := by rw [htx, ByteArray.size_extract]; omega
                  have SY := say_data wr hSn hid (by omega) hfull c1
                  rw [← hp2, ← htx] at SY
                  have HF := hear_fit (l := id) (n := q.size) (xs := ys) (t := tx) (by rw [← YL.out]; omega)
                  rw [← YL.out] at HF
                  have HP : Hid (Pre q (ys ++ bs tx) ∧ (ys ++ bs tx).length = p2) := Lib.hid (by
                    have := pre_grow S6.out.pre (p2 := p2) (by rw [← YL.out]; omega) hpz
                    rw [← YL.out, ← htx] at this
                    exact this)
                  have htx8 : tx.size ≤ 8000 := by omega
                  clear hp2 htx htz
                  have HS7 := Lib.hid SY; have HH := Lib.hid HF; have NS := Lib.hid hSn
                  clear SY HF hSn
                  go_wp2_with fail
                  refine HS7.out.mono ?_
                  rintro e w7 ⟨rfl, hs7⟩
                  have S7 : Hid (OnS w b id q ys false w7) := Lib.hid ⟨S6.out.rc.imp fun v hv => hv.snd NS.out hs7, (hs7.2.1 _ (lt_of_block S6.out.idb) (by rintro rfl; have := NS.out; unfold Sn at this; rw [S6.out.idb] at this; simp at this)).trans S6.out.idb, S6.out.bel.trans (hs7.2.2.mono hlsb), S6.out.pre, S6.out.don⟩
                  have N7 : Hid (Sn w7 sb id q C p2 false) := Lib.hid hs7.1
                  clear hs7 HS7 NS S6
                  have ST := Lib.hid (store_at (P := Try.prog) w7 _ rfl 34 zc34 (cmdC 7 (yl : Int) id tx) (size34' hid.len) (by rw [cmd_size hid.len]; rfl) (one_cmd _ _ _ _))
                  have LC : Hid ((loadVar 34 ⟨w7.heap.size, 0, none⟩).run Try.prog (w7.alloc (.cells (cmdC 7 (yl : Int) id tx) 34)) = .ok (.agg (cmdC 7 (yl : Int) id tx)) (w7.alloc (.cells (cmdC 7 (yl : Int) id tx) 34))) := Lib.hid (load_cmd _ _ _ _ hid.len (heap_alloc_new w7 _))
                  have S8 : Hid (OnS w b id q ys false (w7.alloc (.cells (cmdC 7 (yl : Int) id tx) 34))) := Lib.hid ⟨S7.out.rc.imp fun v hv => hv.below ((Below.refl _ _).alloc (Nat.le_refl _) _), alloc_block S7.out.idb, S7.out.bel.alloc S7.out.bel.size _, S7.out.pre, S7.out.don⟩
                  have N8 : Hid (Sn (w7.alloc (.cells (cmdC 7 (yl : Int) id tx) 34)) sb id q C p2 false) := Lib.hid (alloc_block N7.out)
                  clear S7 N7
                  go_wp2_with (first
                    | ((with_reducible refine wpList_store 34 rfl _ _ rfl ?_); refine ⟨_, _, _, rfl, rfl, ST.out, ?_⟩)
                    | ((with_reducible refine wpList_load 34 rfl _ rfl ?_); refine ⟨_, _, rfl, LC.out, ?_⟩))
                  generalize w7.alloc (.cells (cmdC 7 (yl : Int) id tx) 34) = w8 at *
                  clear ST LC
                  obtain ⟨v8, hR8⟩ := S8.out.rc
                  have HE := hear_any w8 hR8 hid (by omega) (by rw [← YL.out]; exact hyq) S8.out.bel.size 7 (yl : Int) hid tx (by unfold maxLen; omega)
                  rw [HH.out] at HE
                  refine HE.mono ?_
                  rintro e w9 ⟨rfl, v9, hr9, hv9, hf9⟩
                  have S9 : Hid (OnS w b id q (ys ++ bs tx) false w9) := Lib.hid ⟨⟨v9, hr9⟩, hf9.keep hR8 S8.out.idb (by decide) (hR8.ne S8.out.idb (by decide)), hf9.law hR8 S8.out.bel hlb, HP.out.1, fun h => by cases h⟩
                  have N9 : Hid (Sn w9 sb id q C p2 false) := Lib.hid (Sn.hear hR8 N8.out hf9)
                  clear hR8 HE hr9 hv9 hf9 S8 N8 HH
                  go_wp2_with fail
                  go_roundg (A - (k + 1))
                  case measure => omega
                  case rel => exact ⟨k + 1, (ys ++ bs tx), false, by go_num, by omega, rfl, S9.out, by rw [HP.out.2]; omega, .inl ⟨rfl, by rw [HP.out.2]; exact N9.out, by rw [HP.out.2]; omega⟩⟩
                · have hye : yl = q.size := by omega
                  have SY := say_last wr (by rw [← hye]; exact hSn) hid (by omega)
                  rw [← hye] at SY
                  have HF := hear_fin (l := id) (n := q.size) (xs := ys) (by rw [← YL.out]; exact hye)
                  have HP : Hid (Pre q ys ∧ ys.length = yl) := Lib.hid ⟨S6.out.pre, YL.out.symm⟩
                  have HS7 := Lib.hid SY; have HH := Lib.hid HF; have NS := Lib.hid hSn
                  clear SY HF hSn
                  go_wp2_with fail
                  refine HS7.out.mono ?_
                  rintro e w7 ⟨rfl, hs7⟩
                  have S7 : Hid (OnS w b id q ys false w7) := Lib.hid ⟨S6.out.rc.imp fun v hv => hv.snd NS.out hs7, (hs7.2.1 _ (lt_of_block S6.out.idb) (by rintro rfl; have := NS.out; unfold Sn at this; rw [S6.out.idb] at this; simp at this)).trans S6.out.idb, S6.out.bel.trans (hs7.2.2.mono hlsb), S6.out.pre, S6.out.don⟩
                  have N7 : Hid (Sn w7 sb id q C yl true) := Lib.hid hs7.1
                  clear hs7 HS7 NS S6
                  have ST := Lib.hid (store_at (P := Try.prog) w7 _ rfl 34 zc34 (cmdC 8 0 id ⟨#[]⟩) (size34' hid.len) (by rw [cmd_size hid.len]; rfl) (one_cmd _ _ _ _))
                  have LC : Hid ((loadVar 34 ⟨w7.heap.size, 0, none⟩).run Try.prog (w7.alloc (.cells (cmdC 8 0 id ⟨#[]⟩) 34)) = .ok (.agg (cmdC 8 0 id ⟨#[]⟩)) (w7.alloc (.cells (cmdC 8 0 id ⟨#[]⟩) 34))) := Lib.hid (load_cmd _ _ _ _ hid.len (heap_alloc_new w7 _))
                  have S8 : Hid (OnS w b id q ys false (w7.alloc (.cells (cmdC 8 0 id ⟨#[]⟩) 34))) := Lib.hid ⟨S7.out.rc.imp fun v hv => hv.below ((Below.refl _ _).alloc (Nat.le_refl _) _), alloc_block S7.out.idb, S7.out.bel.alloc S7.out.bel.size _, S7.out.pre, S7.out.don⟩
                  have N8 : Hid (Sn (w7.alloc (.cells (cmdC 8 0 id ⟨#[]⟩) 34)) sb id q C yl true) := Lib.hid (alloc_block N7.out)
                  clear S7 N7
                  go_wp2_with (first
                    | ((with_reducible refine wpList_store 34 rfl _ _ rfl ?_); refine ⟨_, _, _, rfl, rfl, ST.out, ?_⟩)
                    | ((with_reducible refine wpList_load 34 rfl _ rfl ?_); refine ⟨_, _, rfl, LC.out, ?_⟩))
                  generalize w7.alloc (.cells (cmdC 8 0 id ⟨#[]⟩) 34) = w8 at *
                  clear ST LC
                  obtain ⟨v8, hR8⟩ := S8.out.rc
                  have HE := hear_any w8 hR8 hid (by omega) (by rw [← YL.out]; exact hyq) S8.out.bel.size 8 0 hid ⟨#[]⟩ (by decide)
                  rw [HH.out] at HE
                  refine HE.mono ?_
                  rintro e w9 ⟨rfl, v9, hr9, hv9, hf9⟩
                  have S9 : Hid (OnS w b id q ys true w9) := Lib.hid ⟨⟨v9, hr9⟩, hf9.keep hR8 S8.out.idb (by decide) (hR8.ne S8.out.idb (by decide)), hf9.law hR8 S8.out.bel hlb, HP.out.1, fun _ => by rw [HP.out.2]; exact hye⟩
                  have N9 : Hid (Sn w9 sb id q C yl true) := Lib.hid (Sn.hear hR8 N8.out hf9)
                  clear hR8 HE hr9 hv9 hf9 S8 N8 HH
                  go_wp2_with fail
                  go_roundg (A - (k + 1))
                  case measure => omega
                  case rel => exact ⟨k + 1, ys, true, by go_num, by omega, rfl, S9.out, by rw [HP.out.2]; omega, .inr ⟨rfl, by rw [← hye]; exact N9.out⟩⟩
              · have hye : yl = q.size := by rw [YL.out]; exact S6.out.don rfl
                rw [← hye] at hSn
                have SY := Lib.hid (say_ended wr hSn hid.len)
                have NS := Lib.hid hSn
                clear hSn hye
                go_wp2_with fail
                refine SY.out.mono ?_
                rintro e w7 ⟨rfl, hs7⟩
                have S7 : Hid (OnS w b id q ys true w7) := Lib.hid ⟨S6.out.rc.imp fun v hv => hv.snd NS.out hs7, (hs7.2.1 _ (lt_of_block S6.out.idb) (by rintro rfl; have := NS.out; unfold Sn at this; rw [S6.out.idb] at this; simp at this)).trans S6.out.idb, S6.out.bel.trans (hs7.2.2.mono hlsb), S6.out.pre, S6.out.don⟩
                have N7 : Hid (Sn w7 sb id q C yl true) := Lib.hid hs7.1
                clear hs7 SY NS S6
                have ST := Lib.hid (store_at (P := Try.prog) w7 _ rfl 34 zc34 cmdZ size34z (by rw [cmdZ_size]; rfl) one_cmdZ)
                have S6 : Hid (OnS w b id q ys true (w7.alloc (.cells cmdZ 34))) := Lib.hid ⟨S7.out.rc.imp fun v hv => hv.below ((Below.refl _ _).alloc (Nat.le_refl _) _), alloc_block S7.out.idb, S7.out.bel.alloc S7.out.bel.size _, S7.out.pre, S7.out.don⟩
                have N6 : Hid (Sn (w7.alloc (.cells cmdZ 34)) sb id q C yl true) := Lib.hid (alloc_block N7.out)
                clear S7 N7
                go_wp2_with (((with_reducible refine wpList_store 34 rfl _ _ rfl ?_); refine ⟨_, _, _, rfl, rfl, ST.out, ?_⟩))
                obtain ⟨vo, hRo⟩ := S6.out.rc
                have FRo := from_any (w7.alloc (.cells cmdZ 34)) hRo
                rw [← YL.out] at FRo
                have FR := Lib.hid FRo
                have SE := Lib.hid (sent_any (w7.alloc (.cells cmdZ 34)) N6.out hid.len)
                clear hRo FRo
                go_wp2_with (first
                  | (go_at_call 12; refine FR.out.mono ?_; rintro e w7 ⟨rfl, hw7⟩; subst hw7)
                  | (go_at_call 21; refine SE.out.mono ?_; rintro e w7 ⟨rfl, hw7⟩; subst hw7))
                go_roundg (n + 1 - (j + 1))
                case measure => omega
                case rel => exact ⟨j + 1, ys, true, by go_num, by omega, rfl, fun _ => rfl, S6.out⟩
            · have hkAi : ¬ (k : Int) < (A : Int) := by omega
              have N6 : Hid (Sn wr sb id q C yl d') := Lib.hid (by
                rcases hst with ⟨rfl, hSn, hfk⟩ | ⟨rfl, hSn⟩
                · rw [YL.out]; exact hSn
                · rw [YL.out, S6.out.don rfl]; exact hSn)
              have DJ : Hid (j + 1 = n + 1 → d' = true) := Lib.hid fun h => by
                rcases hst with ⟨rfl, hSn, hfk⟩ | ⟨rfl, hSn⟩
                · have := HAN.out (by omega); have := YL.out; omega
                · rfl
              clear hst
              obtain ⟨vo, hRo⟩ := S6.out.rc
              have FRo := from_any wr hRo
              rw [← YL.out] at FRo
              have FR := Lib.hid FRo
              have SE := Lib.hid (sent_any wr N6.out hid.len)
              clear hRo FRo
              go_wp2_with (first
                | (go_at_call 12; refine FR.out.mono ?_; rintro e w7 ⟨rfl, hw7⟩; subst hw7)
                | (go_at_call 21; refine SE.out.mono ?_; rintro e w7 ⟨rfl, hw7⟩; subst hw7))
              go_roundg (n + 1 - (j + 1))
              case measure => omega
              case rel => exact ⟨j + 1, ys, d', by go_num, by omega, rfl, DJ.out, S6.out⟩
    · have hji : ¬ (j : Int) ≤ (n : Int) := by omega
      obtain rfl : d = true := HJD.out (by omega)
      obtain ⟨vf, hRf⟩ := HS.out.rc
      have RF := Lib.hid hRf
      clear hRf
      go_wp2_with fail
      refine (text_yes wr RF.out hid.len (pre_lt HS.out.pre) (by have := HS.out.pre.2; omega)).mono ?_
      rintro e w5 ⟨rfl, hr5, hf5⟩
      rw [pre_full HS.out.pre (HS.out.don rfl)]
      have B5 : Hid (Below w.heap.size w w5) := Lib.hid (hf5.law RF.out HS.out.bel hlb)
      have FR5 := from_any w5 hr5
      rw [HS.out.don rfl] at FR5
      have FR := Lib.hid FR5
      clear hr5 hf5 FR5
      go_wp2_with (go_at_call 12; refine FR.out.mono ?_; rintro e w7 ⟨rfl, hw7⟩; subst hw7)
      go_ret
      exact ⟨by simp, B5.out⟩

theorem law_once_all (w : World) {id : List Nat} (hid : IdOk id) (text : ByteArray) (ht : text.size ≤ maxLen) (n : Int) (hn : (Lit.int .u16 n).wf = true) (a : Option Addr) (cap : Nat) (L : List At) (hm : L.length ≤ maxLen) (hr : RdA w a L) :
    Calls Try.prog 7 #[.agg (idA id), .string text, .int .u16 n, .slice a L.length cap] w fun e w' => e = .returned (.bool true) ∧ Below w.heap.size w w' := by
  have hn' : 0 ≤ n ∧ n ≤ 65535 := by simpa [Lit.wf, IntKind.min, IntKind.max, IntKind.signed, IntKind.bits] using hn
  by_cases hl : 300 < text.size ∨ 20 < L.length
  · exact law_once_long w id text n a L.length cap ht hm hl
  · exact law_once w hid text (by omega) n hn'.1 hn'.2 a cap L (by omega) hr

end Go.Proofs.Ytndjcaljkpkgfaa
