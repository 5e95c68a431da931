/- sha256: Write. -/
import Derived.Test.YtohmdledkhgdaaaGreatDoorLo22
namespace Go.Proofs.YtohmdledkhgdaaaGreatDoor
open Go.RowKit Go.Maps
set_option linter.unusedVariables false
set_option maxRecDepth 100000
theorem Rd.fr1 {w w' : World} {a : Option Addr} {l : List Nat} {b : Nat} (h : Rd w a l) (hf : Fr1 b w w') (hne : ∀ ad, a = some ad → 0 < l.length → ad.block ≠ b) : Rd w' a l :=
  ⟨h.lt, fun h0 => by
    obtain ⟨b', off, rfl, hbw, hc⟩ := h.at_ h0
    refine ⟨b', off, rfl, Nat.lt_of_lt_of_le hbw hf.size, fun i hi => ?_⟩
    rw [← hc i hi]
    have := hf.other b' hbw (hne _ rfl h0)
    unfold World.cell?
    simp only []
    rw [this]⟩
theorem Rd.drop {w : World} {b off n : Nat} {l : List Nat} (h : Rd w (some ⟨b, off, none⟩) l) : Rd w (some ⟨b, off + n, none⟩) (l.drop n) :=
  ⟨fun x hx => h.lt x (List.mem_of_mem_drop hx), fun h0 => by
    rw [List.length_drop] at h0
    obtain ⟨b', off', e, hbw, hc⟩ := h.at_ (by omega)
    cases e
    refine ⟨b, off + n, rfl, hbw, fun i hi => ?_⟩
    rw [List.length_drop] at hi
    rw [List.getElem_drop, ← hc (n + i) (by omega), Nat.add_assoc]⟩
theorem Rd.nil (w : World) (a : Option Addr) : Rd w a [] := ⟨fun x hx => (by cases hx), fun h => absurd h (by simp)⟩
theorem any_val {P : Program} {ops : Array Oper} {Q : Exit → Act → World → Prop} {i : Nat} {o : Oper} {K : Act → World → Prop} {a : Act} {w : World} {v : Value} (ho : ops[i]? = some o) (hg : o.guard = none)
    (he : (execOp a.eval o).run P w = .ok (.value v) w) (h : K (a.put o.dst v) w) : wpOp P ops Q i K a w := wpOp_of ho hg (exec_value_wp he h)
theorem any_skip {P : Program} {ops : Array Oper} {Q : Exit → Act → World → Prop} {i : Nat} {o : Oper} {K : Act → World → Prop} {a : Act} {w w' : World} (ho : ops[i]? = some o) (hg : o.guard = none)
    (he : (execOp a.eval o).run P w = .ok .skip w') (h : K (a.put o.dst undef) w') : wpOp P ops Q i K a w := wpOp_of ho hg (exec_skip_wp he h)
theorem any_call {P : Program} {ops : Array Oper} {Q : Exit → Act → World → Prop} {i : Nat} {o : Oper} {K : Act → World → Prop} {a : Act} {w : World} {f : FuncId} {args : Array Value} (ho : ops[i]? = some o) (hg : o.guard = none)
    (he : (execOp a.eval o).run P w = .ok (.enter f args) w) (hc : Calls P f args w fun e w' => ∃ v, e = .returned v ∧ K (a.put o.dst v) w') : wpOp P ops Q i K a w := wpOp_of ho hg (wp_enter he hc)
theorem any_one {P : Program} {md : Region.Mode} {ops : Array Oper} {Q : Exit → Act → World → Prop} {i : Nat} {fuel : Nat} {listed : Array Bool} {a : Act} {w : World} (hr : Region.ready md ops listed = [i])
    (h : wpOp P ops Q i (wpAny P md ops Q fuel (listed.setIfInBounds i true)) a w) : wpAny P md ops Q (fuel + 1) listed a w :=
  wpAny_all hr (by simp) (fun j hj => by
    obtain rfl : j = i := by simpa using hj
    exact h)
theorem any_two {P : Program} {md : Region.Mode} {ops : Array Oper} {Q : Exit → Act → World → Prop} {i k : Nat} {fuel : Nat} {listed : Array Bool} {a : Act} {w : World} (hr : Region.ready md ops listed = [i, k])
    (h : wpOp P ops Q i (wpAny P md ops Q fuel (listed.setIfInBounds i true)) a w) (h2 : wpOp P ops Q k (wpAny P md ops Q fuel (listed.setIfInBounds k true)) a w) : wpAny P md ops Q (fuel + 1) listed a w :=
  wpAny_all hr (by simp) (fun j hj => by
    simp only [List.mem_cons, List.not_mem_nil, or_false] at hj
    rcases hj with rfl | rfl
    · exact h
    · exact h2)
set_option maxHeartbeats 4000000 in
theorem write_any (w : World) (b : Nat) (h : Hs) (a : Option Addr) (cap : Nat) (l : List Nat) (hk : HK w b h) (ho : h.Ok) (hr : Rd w a l) (hne : ∀ ad, a = some ad → 0 < l.length → ad.block ≠ b) (hl : h.len + l.length ≤ 1000000000) (hcap : l.length ≤ cap) (hcm : cap ≤ maxLen) (hE : Env w) (hb9 : 9 ≤ b) :
    Calls Tryz.prog 73 #[.pointer (some ⟨b, 0, none⟩), .slice a l.length cap] w fun e w' => (∃ v, e = .returned v) ∧ HK w' b (wrF h l) ∧ Fr1 b w w' := by
  obtain ⟨h1, hh1⟩ : ∃ h1 : Hs, h1 = ⟨if h.len = 0 then sh0 else h.st, h.blk, h.len⟩ := ⟨_, rfl⟩
  have LAW : Hid (wrF h l = wrN l.length h1 l) := Lib.hid (by rw [hh1]; rfl)
  have HO := Lib.hid ho
  have HO1 : Hid h1.Ok := Lib.hid (by rw [hh1]; exact ⟨by show W8.Ok (if _ then _ else _); split; exact sh0_ok; exact ho.st, ho.blk⟩)
  have LN : Hid (h1.len = h.len) := Lib.hid (by rw [hh1])
  have IN := Lib.hid (init_any w)
  have c72 := hk.len ho.blk.len
  have HK0 := Lib.hid hk; have HR := Lib.hid hr; have NE := Lib.hid hne; have HE := Lib.hid hE; have HH1 := Lib.hid hh1
  unfold maxLen at hcm
  obtain ⟨L, hL⟩ : ∃ L, L = l.length := ⟨_, rfl⟩
  have HL := Lib.hid hL
  have HLN : Hid (h.len + L ≤ 1000000000) := Lib.hid (by rw [hL]; exact hl)
  have hcap' : L ≤ cap := by rw [hL]; exact hcap
  obtain ⟨hlen, hhl⟩ : ∃ n, n = h.len := ⟨_, rfl⟩
  rw [← hhl] at c72
  have HHL := Lib.hid hhl
  rw [← hL]
  clear hk ho hr hne hE hh1 hL hl hcap hhl
  go_enter Tryz.func73, Tryz.ntmps73
  go_upto_if 12 with fail
  go_cut [] (fun wx => Hid (HK wx b h1) ∧ Hid (Fr1 b w wx))
  case first =>
    by_cases h0 : hlen = 0
    · have hz : ((hlen : Int) == 0) = true := by rw [h0]; rfl
      have E1 : Hid (h1 = ⟨sh0, h.blk, h.len⟩) := Lib.hid (by rw [HH1.out, if_pos (by rw [← HHL.out]; exact h0)])
      obtain ⟨vs, hvs⟩ : ∃ vs, vs = wC sh0 := ⟨_, rfl⟩
      rw [← hvs] at IN
      have HVS := Lib.hid hvs
      clear hvs h0
      go_wp2_with fail
      refine IN.out.mono ?_
      rintro e w1 ⟨rfl, hb1⟩
      obtain ⟨s1, s2⟩ := (HK0.out.below hb1).setSt sh0
      rw [← HVS.out] at s1
      rw [← E1.out] at s1 s2
      have S1 := Lib.hid s1; have S2 := Lib.hid s2
      have FF : Hid (Fr1 b w (w1.setRow b (hC h1))) := Lib.hid ((Fr1.of_below hb1).trans ⟨rfl, rfl, rfl, by simp [World.setRow], fun k hk hne => setRow_other w1 b k _ hne⟩)
      clear s1 s2 hb1 IN c72
      go_wp2_with ((with_reducible refine wpList_store 176 rfl _ _ rfl ?_); refine ⟨_, _, _, rfl, rfl, S1.out, ?_⟩)
      go_meet
      exact ⟨S2, FF⟩
    · have hz : ((hlen : Int) == 0) = false := int_ne (by omega)
      have E1 : Hid (h1 = h) := Lib.hid (by rw [HH1.out, if_neg (by rw [← HHL.out]; exact h0)])
      clear h0
      go_wp2_with fail
      go_meet
      exact ⟨Lib.hid (by rw [E1.out]; exact HK0.out), Lib.hid (Fr1.refl _ _)⟩
  case rest =>
  obtain ⟨wd, hwd⟩ : ∃ x, x = wc := ⟨_, rfl⟩
  rw [← hwd] at hcut ⊢
  obtain ⟨hk1, f1⟩ := hcut
  have HR1 : Hid (Rd wd a l) := Lib.hid (HR.out.fr1 f1.out NE.out)
  have HE1 : Hid (Env wd) := Lib.hid (fr_env HE.out hb9 f1.out)
  clear hwd c72 IN HK0 HR
  go_wp2_with fail
  go_loopg [1, 5] L (fun k v1 v5 wr => ∃ (hc : Hs) (lc : List Nat) (ac : Option Addr) (cc m : Nat), k = m ∧ v1 = .slice ac m cc ∧ m ≤ cc ∧ cc ≤ 9223372036854775807 ∧ Hid (m = lc.length) ∧ Hid (hc.Ok) ∧ Hid (HK wr b hc) ∧ Hid (Rd wr ac lc) ∧ Hid (∀ ad, ac = some ad → 0 < lc.length → ad.block ≠ b) ∧ Hid (hc.len + lc.length ≤ 1000000000) ∧ Hid (wrF h l = wrN lc.length hc lc) ∧ Hid (Fr1 b w wr))
  case atStart => exact ⟨h1, l, a, cap, L, rfl, rfl, hcap', by omega, HL, HO1, hk1, HR1, NE, Lib.hid (by rw [LN.out, ← HL.out]; exact HLN.out), LAW, f1⟩
  case round =>
    obtain ⟨hc, lc, ac, cc, m, rfl, rfl, hm, hcc, HM, OKc, HKc, RDc, NEc, LEc, LAWc, Fc⟩ := hrel
    clear hk1 f1 HR1 LAW
    by_cases h0 : 0 < gk
    · obtain ⟨b', off, rfl, hbw, hcl⟩ := RDc.out.at_ (by rw [← HM.out]; exact h0)
      have CL := Lib.hid hcl
      obtain ⟨N, hN⟩ : ∃ N, N = hc.len := ⟨_, rfl⟩
      have hN2 : N ≤ 1000000000 := by have := LEc.out; omega
      obtain ⟨p, hp⟩ : ∃ p, p = N % 64 := ⟨_, rfl⟩
      have hp2 : p < 64 := by omega
      obtain ⟨n, hn⟩ : ∃ n, n = min (64 - p) gk := ⟨_, rfl⟩
      have hn1 : 1 ≤ n := by omega
      have hn2 : n ≤ gk := by omega
      have hn3 : p + n ≤ 64 := by omega
      have jt : (N : Int).tmod 64 = (p : Int) := by rw [Int.tmod_eq_emod_of_nonneg (by omega)]; omega
      have p0 : (0 : Int) ≤ (p : Int) := by omega
      have p1 : (p : Int) < 64 := by omega
      have p2 : (p : Int) ≤ 64 := by omega
      have p3 : ¬ (64 = p) := by omega
      have hlcn : (lc.take n).length = n := by rw [List.length_take, ← HM.out]; omega
      obtain ⟨wY, hY⟩ : ∃ wY, wY = wr.drew := ⟨_, rfl⟩
      have dY : Below wr.heap.size wr wY := by rw [hY]; exact (Below.refl _ _).drew
      have K1 := HKc.out.below dY
      have c72 : wY.cell? ⟨b, 72, none⟩ = some (.int .i64 (N : Int)) := by rw [hN]; exact K1.len OKc.out.blk.len
      have KY := Lib.hid K1
      have DY := Lib.hid dY
      have HN := Lib.hid hN; have HP := Lib.hid hp; have HNn := Lib.hid hn
      clear K1 dY hN hp hn hcl
      go_upto_region 6 with fail
      refine wp_region_still_tail 10 (by kernel_rfl) (by kernel_rfl) ?_
      simp only [List.take_succ_cons, List.take_zero, List.drop_succ_cons, List.drop_zero]
      change wpStill _ _ wr.drew (fun a' => wpList _ _ _ _ a' wr.drew) _ _
      rw [← hY]
      clear hY
      repeat still_step
      refine wpStill_nil ?_
      have LB := OKc.out.blk.len
      have CC := copy_cells (h := hc) LB (p := p) (cs := lc.take n) (by rw [hlcn]; exact hn3)
      obtain ⟨hd, hhd⟩ : ∃ hd : Hs, hd = ⟨hc.st, hc.blk.take p ++ lc.take n ++ hc.blk.drop (p + (lc.take n).length), hc.len⟩ := ⟨_, rfl⟩
      rw [← hhd] at CC
      obtain ⟨cs, hcs⟩ : ∃ cs, cs = (lc.take n).map U := ⟨_, rfl⟩
      have csl : cs.length = n := by rw [hcs, List.length_map, hlcn]
      rw [← hcs] at CC
      have SRC : Hid (∀ j v, cs[j]? = some v → wY.cell? ((⟨b', off, none⟩ : Addr).add j) = some v) := Lib.hid (fun j v hv => by
        have hj : j < n := by rw [← csl]; exact (List.getElem?_eq_some_iff.1 hv).1
        have hjl : j < lc.length := by rw [← HM.out]; omega
        rw [Addr.add_mid, DY.out.cell (p := ⟨b', off + j, none⟩) hbw, CL.out j hjl, ← hv, hcs, List.getElem?_map, List.getElem?_take_of_lt hj, List.getElem?_eq_getElem hjl]
        rfl)
      have C1 : Hid (∀ v ∈ cs, v.oneCell' = true) := Lib.hid (fun v hv => by rw [hcs] at hv; obtain ⟨y, _, rfl⟩ := List.mem_map.1 hv; rfl)
      have HFIT : Hid (8 + p + cs.length ≤ (hC hc).size) := Lib.hid (by rw [hC_size LB, csl]; omega)
      have HMIN : Hid (cs.length = Nat.min gk (64 - p)) := Lib.hid (by rw [csl, HNn.out]; exact Nat.min_comm _ _)
      have GI : Hid (goInt cs.length = .int .i64 (n : Int)) := Lib.hid (by rw [csl]; rfl)
      obtain ⟨w1, hw1⟩ : ∃ w1, w1 = wY.setRow b ((hC hc).toList.take (8 + p) ++ (cs ++ (hC hc).toList.drop (8 + p + cs.length))).toArray := ⟨_, rfl⟩
      have CC2 := Lib.hid CC
      have HD1 : Hid (HK w1 b hd) := Lib.hid (by rw [hw1, CC2.out]; exact setRow_heap wY b _ _ _ _ KY.out)
      have F1 : Hid (Fr1 b w w1) := Lib.hid (Fc.out.trans ((Fr1.of_below DY.out).trans (by rw [hw1]; exact ⟨rfl, rfl, rfl, by simp [World.setRow], fun k hk hne => setRow_other wY b k _ hne⟩)))
      have HW1 := Lib.hid hw1
      have HCS := Lib.hid hcs; have HHD := Lib.hid hhd
      clear LB CC hhd hcs csl hw1 CC2 c72 jt hlcn CL
      refine wpList_copy_own rfl (.tmp 28) (.tmp 29) 62 62 rfl 5 Tryz.underlying62 (by kernel_rfl) b (8 + p) (64 - p) (64 - p) ⟨b', off, none⟩ gk cc rfl rfl (hC hc) _ KY.out cs HMIN.out SRC.out HFIT.out C1.out ?_
      rw [GI.out, ← HW1.out]
      obtain ⟨oa, hoa⟩ : ∃ oa : Option Addr, oa = if cc = n then some ⟨b', off, none⟩ else some ⟨b', off + n, none⟩ := ⟨_, rfl⟩
      have hb'b : b' ≠ b := NEc.out _ rfl (by rw [← HM.out]; exact h0)
      have NE2 : Hid (∀ ad, oa = some ad → 0 < (lc.drop n).length → ad.block ≠ b) := Lib.hid (fun ad e _ => by
        rw [hoa] at e
        by_cases e2 : cc = n
        · rw [if_pos e2] at e; cases e; exact hb'b
        · rw [if_neg e2] at e; cases e; exact hb'b)
      have RD2 : Hid (∀ wx, Fr1 b wr wx → Rd wx oa (lc.drop n)) := Lib.hid (fun wx hf => by
        have r1 : Rd wx (some ⟨b', off, none⟩) lc := RDc.out.fr1 hf NEc.out
        rw [hoa]
        by_cases e : cc = n
        · have : lc.drop n = [] := List.drop_of_length_le (by rw [← HM.out]; omega)
          rw [this]; exact Rd.nil _ _
        · rw [if_neg e]; exact r1.drop)
      have n0 : (0 : Int) ≤ (n : Int) := by omega
      have nG : (n : Int) ≤ (gk : Int) := by omega
      have nC : n ≤ cc := by omega
      have HOA := Lib.hid hoa
      have c1 : w1.cell? ⟨b, 72, none⟩ = some (.int .i64 (N : Int)) := by
        have := HD1.out.len (by rw [HHD.out]; show (hc.blk.take p ++ lc.take n ++ hc.blk.drop (p + (lc.take n).length)).length = 64; simp [OKc.out.blk.len]; have := HM.out; omega)
        rw [this, HHD.out]; show some (Value.int .i64 (hc.len : Int)) = _; rw [← HN.out]
      have f1 : w1.frozen? ⟨b, 72, none⟩ = false := freeB HD1.out 72
      have wN : IntKind.i64.wrap ((N : Int) + (n : Int)) = (N : Int) + (n : Int) := IntWalk.i64_in _ (by omega)
      obtain ⟨M, hM⟩ : ∃ M, M = N + n := ⟨_, rfl⟩
      have eM : (N : Int) + (n : Int) = (M : Int) := by omega
      have FW : Hid (Fr1 b wr w1) := Lib.hid ((Fr1.of_below DY.out).trans (by rw [HW1.out]; exact ⟨rfl, rfl, rfl, by simp [World.setRow], fun k hk hne => setRow_other wY b k _ hne⟩))
      clear hoa
      go_upto_region 8 with fail
      rw [← HOA.out]
      clear HOA
      obtain ⟨he, hhe⟩ : ∃ he : Hs, he = ⟨hd.st, hd.blk, M⟩ := ⟨_, rfl⟩
      obtain ⟨w2, hw2⟩ : ∃ w2, w2 = w1.setCell ⟨b, 72, none⟩ (.int .i64 (M : Int)) := ⟨_, rfl⟩
      have hdb : hd.blk.length = 64 := by rw [HHD.out]; show (hc.blk.take p ++ lc.take n ++ hc.blk.drop (p + (lc.take n).length)).length = 64; simp [OKc.out.blk.len]; have := HM.out; omega
      have H2 : Hid (HK w2 b he) := Lib.hid (by rw [hw2, hhe]; exact HD1.out.setLen hdb M)
      have F2 : Hid (Fr1 b w w2) := Lib.hid (F1.out.trans (by rw [hw2]; exact Fr1.setC _))
      have FW2 : Hid (Fr1 b wr w2) := Lib.hid (FW.out.trans (by rw [hw2]; exact Fr1.setC _))
      have c2 : w2.cell? ⟨b, 72, none⟩ = some (.int .i64 (M : Int)) := by have := H2.out.len (by rw [hhe]; exact hdb); rw [this, hhe]
      have HW2 := Lib.hid hw2
      have bl : hd.blk = hc.blk.take (hc.len % 64) ++ lc.take (min (64 - hc.len % 64) lc.length) ++ hc.blk.drop (hc.len % 64 + min (64 - hc.len % 64) lc.length) := by
        rw [HHD.out, ← HN.out, ← HP.out, ← HM.out, ← HNn.out]
        show hc.blk.take p ++ lc.take n ++ hc.blk.drop (p + (lc.take n).length) = _
        rw [show (lc.take n).length = n by rw [List.length_take, ← HM.out]; omega]
      have BL := Lib.hid bl
      have WS := wrStep_ok OKc.out RDc.out.lt
      rw [← bl] at WS
      have OKe : Hid (he.Ok) := Lib.hid (by rw [hhe]; exact ⟨by show W8.Ok hd.st; rw [HHD.out]; exact OKc.out.st, WS.2⟩)
      have STEP : Hid (wrStep hc lc = ⟨if M % 64 = 0 then procF hc.st (ldF hd.blk) else hc.st, hd.blk, M⟩) := Lib.hid (by
        unfold wrStep
        simp only []
        rw [← bl, ← HN.out, ← HP.out, ← HM.out, ← HNn.out, ← hM])
      have LAW2 : Hid (wrF h l = wrN (lc.drop n).length (wrStep hc lc) (lc.drop n)) := Lib.hid (by
        rw [LAWc.out, wrN_step hc lc (by rw [← HM.out]; exact h0), ← HN.out, ← HP.out, ← HM.out, ← HNn.out])
      have LEN2 : Hid (gk - n = (lc.drop n).length) := Lib.hid (by rw [List.length_drop, ← HM.out])
      have LE2 : Hid (M + (lc.drop n).length ≤ 1000000000) := Lib.hid (by have := LEc.out; rw [← HN.out, ← HM.out] at this; rw [← LEN2.out, hM]; omega)
      have HHE := Lib.hid hhe
      have HST : Hid (he.st = hc.st) := Lib.hid (by rw [hhe, HHD.out])
      have HE2 : Hid (Env w2) := Lib.hid (fr_env HE.out hb9 F2.out)
      have WS1 := Lib.hid WS.1
      clear hhe hw2 hdb bl WS hM
      go_upto_region 9 with fail
      rw [← HW2.out]
      clear HW2 c1 f1 HD1 HHD
      by_cases e64 : M % 64 = 0
      · have jm : (M : Int).tmod 64 = 0 := by rw [Int.tmod_eq_emod_of_nonneg (by omega)]; omega
        have S2 : Hid (wrStep hc lc = ⟨procF he.st (ldF he.blk), he.blk, he.len⟩) := Lib.hid (by rw [STEP.out, if_pos e64, HST.out, HHE.out])
        clear e64
        obtain ⟨wZ, hZ⟩ : ∃ wZ, wZ = w2.drew := ⟨_, rfl⟩
        have dZ : Below w2.heap.size w2 wZ := by rw [hZ]; exact (Below.refl _ _).drew
        have DZ := Lib.hid dZ
        have HZ := Lib.hid (H2.out.below dZ)
        have EZ := Lib.hid (HE2.out.on dZ)
        have LS : Hid (∀ wx, HK wx b he → (loadVar 176 ⟨b, 0, none⟩).run Tryz.prog wx = .ok (.agg (wC he.st)) wx) := Lib.hid (fun wx hx => HK.st hx)
        have LB : Hid (∀ wx, HK wx b he → (loadVar 177 ⟨b, 8, none⟩).run Tryz.prog wx = .ok (.agg (idA he.blk)) wx) := Lib.hid (fun wx hx => HK.blk hx OKe.out.blk.len)
        have LDC := Lib.hid (load_any wZ OKe.out.blk)
        have L6 : Hid (L16 (ldF he.blk)) := Lib.hid (ldSt_ok OKe.out.blk.lt 64)
        have PRC : Hid (∀ wx, Below wZ.heap.size wZ wx → Calls Tryz.prog 122 #[.agg (wC he.st), .agg (wA (ldF he.blk))] wx fun e w' => e = .returned (.agg (wC (procF he.st (ldF he.blk)))) ∧ Below wx.heap.size wx w') := Lib.hid (fun wx hb => process_any wx OKe.out.st L6.out (EZ.out.on hb))
        have FIN : Hid (∀ wx, Below wZ.heap.size wZ wx → (storeVar 176 ⟨b, 0, none⟩ (.agg (wC (procF he.st (ldF he.blk))))).run Tryz.prog wx = .ok () (wx.setRow b (hC (wrStep hc lc))) ∧ HK (wx.setRow b (hC (wrStep hc lc))) b (wrStep hc lc) ∧ Fr1 b w2 (wx.setRow b (hC (wrStep hc lc)))) := Lib.hid (fun wx hb => by
          rw [S2.out]
          obtain ⟨s1, s2⟩ := (HZ.out.below hb).setSt (procF he.st (ldF he.blk))
          exact ⟨s1, s2, (Fr1.of_below DZ.out).trans ((Fr1.of_below hb).trans ⟨rfl, rfl, rfl, by simp [World.setRow], fun k hk hne => setRow_other wx b k _ hne⟩)⟩)
        have LENE : Hid ((wrStep hc lc).len = M) := Lib.hid (by rw [STEP.out])
        obtain ⟨v1, hv1⟩ : ∃ v1, v1 = wC he.st := ⟨_, rfl⟩
        obtain ⟨v2, hv2⟩ : ∃ v2, v2 = idA he.blk := ⟨_, rfl⟩
        obtain ⟨v3, hv3⟩ : ∃ v3, v3 = wA (ldF he.blk) := ⟨_, rfl⟩
        obtain ⟨v4, hv4⟩ : ∃ v4, v4 = wC (procF he.st (ldF he.blk)) := ⟨_, rfl⟩
        rw [← hv1] at LS PRC
        rw [← hv2] at LB LDC
        rw [← hv3] at LDC PRC
        rw [← hv4] at PRC FIN
        clear hv1 hv2 hv3 hv4 dZ S2 STEP
        go_upto_region 10 with fail
        refine wp_region_any (by kernel_rfl) ?_
        change wpAny _ _ _ _ _ _ _ w2.drew
        rw [← hZ]
        clear hZ c2
        refine wpAny_take (i := 0) (v := .pointer (some ⟨b, 0, none⟩)) rfl (by kernel_rfl) (by kernel_rfl) (by kernel_rfl) (fun _ _ _ h => h) (Or.inl ⟨by kernel_rfl, fun w' => by go_simp⟩) ?_
        refine wpAny_take (i := 1) (v := .pointer (some ⟨b, 0, none⟩)) rfl (by kernel_rfl) (by kernel_rfl) (by kernel_rfl) (fun _ _ _ h => h) (Or.inl ⟨by kernel_rfl, fun w' => by go_simp⟩) ?_
        refine wpAny_take (i := 2) (v := .pointer (some ⟨b, 0, none⟩)) rfl (by kernel_rfl) (by kernel_rfl) (by kernel_rfl) (fun _ _ _ h => h) (Or.inl ⟨by kernel_rfl, fun w' => by go_simp⟩) ?_
        refine wpAny_take (i := 3) (v := .pointer (some ⟨b, 0, none⟩)) rfl (by kernel_rfl) (by kernel_rfl) (by kernel_rfl) (fun _ _ _ h => h) (Or.inl ⟨by kernel_rfl, fun w' => by go_simp⟩) ?_
        refine wpAny_take (i := 5) (v := .pointer (some ⟨b, 0, none⟩)) rfl (by kernel_rfl) (by kernel_rfl) (by kernel_rfl) (fun _ _ _ h => h) (Or.inl ⟨by kernel_rfl, fun w' => by go_simp⟩) ?_
        refine wpAny_take (i := 6) (v := .pointer (some ⟨b, 0, none⟩)) rfl (by kernel_rfl) (by kernel_rfl) (by kernel_rfl) (fun _ _ _ h => h) (Or.inl ⟨by kernel_rfl, fun w' => by go_simp⟩) ?_
        refine wpAny_take (i := 7) (v := .pointer (some ⟨b, 8, none⟩)) rfl (by kernel_rfl) (by kernel_rfl) (by kernel_rfl) (fun _ _ _ h => h) (Or.inl ⟨by kernel_rfl, fun w' => by go_simp⟩) ?_
        refine any_two (i := 4) (k := 8) (by kernel_rfl) ?_ ?_
        · refine any_val rfl rfl (exec_load (ty := 176) (x := .tmp 51) (ad := ⟨b, 0, none⟩) rfl (by kernel_rfl) (LS.out _ HZ.out)) ?_
          refine any_one (i := 8) (by kernel_rfl) ?_
          refine any_val rfl rfl (exec_load (ty := 177) (x := .tmp 55) (ad := ⟨b, 8, none⟩) rfl (by kernel_rfl) (LB.out _ HZ.out)) ?_
          refine any_one (i := 9) (by kernel_rfl) ?_
          refine any_call (f := 123) (args := #[.agg v2]) rfl rfl (by kernel_rfl) ?_
          refine LDC.out.mono ?_
          rintro e w3 ⟨rfl, hb3⟩
          have P3 := Lib.hid (PRC.out w3 hb3)
          have B3 := Lib.hid hb3
          have H3 := Lib.hid (HZ.out.below hb3)
          refine ⟨_, rfl, ?_⟩
          clear hb3
          refine any_one (i := 10) (by kernel_rfl) ?_
          refine any_call (f := 122) (args := #[.agg v1, .agg v3]) rfl rfl (by kernel_rfl) ?_
          refine P3.out.mono ?_
          rintro e w4 ⟨rfl, hb4⟩
          have hb34 := B3.out.trans (hb4.mono B3.out.size)
          obtain ⟨g1, g2, g3⟩ := FIN.out w4 hb34
          obtain ⟨w5, hw5⟩ : ∃ w5, w5 = w4.setRow b (hC (wrStep hc lc)) := ⟨_, rfl⟩
          rw [← hw5] at g1 g2 g3
          have G1 := Lib.hid g1; have G2 := Lib.hid g2; have G3 := Lib.hid g3
          refine ⟨_, rfl, ?_⟩
          clear g1 g2 g3 hw5 hb4 P3 FIN B3 hb34 H3
          refine any_one (i := 11) (by kernel_rfl) ?_
          refine any_val (v := .pointer (some ⟨b, 0, none⟩)) rfl rfl (by kernel_rfl) ?_
          refine any_one (i := 12) (by kernel_rfl) ?_
          refine any_val (v := .pointer (some ⟨b, 0, none⟩)) rfl rfl (by kernel_rfl) ?_
          refine any_one (i := 13) (by kernel_rfl) ?_
          refine any_skip rfl rfl (exec_store (t := 176) (x := .tmp 60) (y := .tmp 58) (ad := ⟨b, 0, none⟩) (u := .agg v4) rfl (by kernel_rfl) (by kernel_rfl) G1.out) ?_
          refine wpAny_done (by kernel_rfl) ?_ _
          go_simp
          refine ‹∀ (a : Act) (w_1 : World), _ → _› _ _ ?_
          go_wp2_with fail
          go_roundg (gk - n)
          case measure => omega
          case rel => exact ⟨wrStep hc lc, lc.drop n, oa, cc - n, gk - n, rfl, rfl, by omega, by omega, LEN2, WS1, G2, Lib.hid (RD2.out w5 (FW2.out.trans G3.out)), NE2, Lib.hid (by rw [LENE.out]; exact LE2.out), LAW2, Lib.hid (F2.out.trans G3.out)⟩
        · refine any_val rfl rfl (exec_load (ty := 177) (x := .tmp 55) (ad := ⟨b, 8, none⟩) rfl (by kernel_rfl) (LB.out _ HZ.out)) ?_
          refine any_two (i := 4) (k := 9) (by kernel_rfl) ?_ ?_
          · refine any_val rfl rfl (exec_load (ty := 176) (x := .tmp 51) (ad := ⟨b, 0, none⟩) rfl (by kernel_rfl) (LS.out _ HZ.out)) ?_
            refine any_one (i := 9) (by kernel_rfl) ?_
            refine any_call (f := 123) (args := #[.agg v2]) rfl rfl (by kernel_rfl) ?_
            refine LDC.out.mono ?_
            rintro e w3 ⟨rfl, hb3⟩
            have P3 := Lib.hid (PRC.out w3 hb3)
            have B3 := Lib.hid hb3
            have H3 := Lib.hid (HZ.out.below hb3)
            refine ⟨_, rfl, ?_⟩
            clear hb3
            refine any_one (i := 10) (by kernel_rfl) ?_
            refine any_call (f := 122) (args := #[.agg v1, .agg v3]) rfl rfl (by kernel_rfl) ?_
            refine P3.out.mono ?_
            rintro e w4 ⟨rfl, hb4⟩
            have hb34 := B3.out.trans (hb4.mono B3.out.size)
            obtain ⟨g1, g2, g3⟩ := FIN.out w4 hb34
            obtain ⟨w5, hw5⟩ : ∃ w5, w5 = w4.setRow b (hC (wrStep hc lc)) := ⟨_, rfl⟩
            rw [← hw5] at g1 g2 g3
            have G1 := Lib.hid g1; have G2 := Lib.hid g2; have G3 := Lib.hid g3
            refine ⟨_, rfl, ?_⟩
            clear g1 g2 g3 hw5 hb4 P3 FIN B3 hb34 H3
            refine any_one (i := 11) (by kernel_rfl) ?_
            refine any_val (v := .pointer (some ⟨b, 0, none⟩)) rfl rfl (by kernel_rfl) ?_
            refine any_one (i := 12) (by kernel_rfl) ?_
            refine any_val (v := .pointer (some ⟨b, 0, none⟩)) rfl rfl (by kernel_rfl) ?_
            refine any_one (i := 13) (by kernel_rfl) ?_
            refine any_skip rfl rfl (exec_store (t := 176) (x := .tmp 60) (y := .tmp 58) (ad := ⟨b, 0, none⟩) (u := .agg v4) rfl (by kernel_rfl) (by kernel_rfl) G1.out) ?_
            refine wpAny_done (by kernel_rfl) ?_ _
            go_simp
            refine ‹∀ (a : Act) (w_1 : World), _ → _› _ _ ?_
            go_wp2_with fail
            go_roundg (gk - n)
            case measure => omega
            case rel => exact ⟨wrStep hc lc, lc.drop n, oa, cc - n, gk - n, rfl, rfl, by omega, by omega, LEN2, WS1, G2, Lib.hid (RD2.out w5 (FW2.out.trans G3.out)), NE2, Lib.hid (by rw [LENE.out]; exact LE2.out), LAW2, Lib.hid (F2.out.trans G3.out)⟩
          · refine any_call (f := 123) (args := #[.agg v2]) rfl rfl (by kernel_rfl) ?_
            refine LDC.out.mono ?_
            rintro e w3 ⟨rfl, hb3⟩
            have P3 := Lib.hid (PRC.out w3 hb3)
            have B3 := Lib.hid hb3
            have H3 := Lib.hid (HZ.out.below hb3)
            refine ⟨_, rfl, ?_⟩
            clear hb3
            refine any_one (i := 4) (by kernel_rfl) ?_
            refine any_val rfl rfl (exec_load (ty := 176) (x := .tmp 51) (ad := ⟨b, 0, none⟩) rfl (by kernel_rfl) (LS.out _ H3.out)) ?_
            refine any_one (i := 10) (by kernel_rfl) ?_
            refine any_call (f := 122) (args := #[.agg v1, .agg v3]) rfl rfl (by kernel_rfl) ?_
            refine P3.out.mono ?_
            rintro e w4 ⟨rfl, hb4⟩
            have hb34 := B3.out.trans (hb4.mono B3.out.size)
            obtain ⟨g1, g2, g3⟩ := FIN.out w4 hb34
            obtain ⟨w5, hw5⟩ : ∃ w5, w5 = w4.setRow b (hC (wrStep hc lc)) := ⟨_, rfl⟩
            rw [← hw5] at g1 g2 g3
            have G1 := Lib.hid g1; have G2 := Lib.hid g2; have G3 := Lib.hid g3
            refine ⟨_, rfl, ?_⟩
            clear g1 g2 g3 hw5 hb4 P3 FIN B3 hb34 H3
            refine any_one (i := 11) (by kernel_rfl) ?_
            refine any_val (v := .pointer (some ⟨b, 0, none⟩)) rfl rfl (by kernel_rfl) ?_
            refine any_one (i := 12) (by kernel_rfl) ?_
            refine any_val (v := .pointer (some ⟨b, 0, none⟩)) rfl rfl (by kernel_rfl) ?_
            refine any_one (i := 13) (by kernel_rfl) ?_
            refine any_skip rfl rfl (exec_store (t := 176) (x := .tmp 60) (y := .tmp 58) (ad := ⟨b, 0, none⟩) (u := .agg v4) rfl (by kernel_rfl) (by kernel_rfl) G1.out) ?_
            refine wpAny_done (by kernel_rfl) ?_ _
            go_simp
            refine ‹∀ (a : Act) (w_1 : World), _ → _› _ _ ?_
            go_wp2_with fail
            go_roundg (gk - n)
            case measure => omega
            case rel => exact ⟨wrStep hc lc, lc.drop n, oa, cc - n, gk - n, rfl, rfl, by omega, by omega, LEN2, WS1, G2, Lib.hid (RD2.out w5 (FW2.out.trans G3.out)), NE2, Lib.hid (by rw [LENE.out]; exact LE2.out), LAW2, Lib.hid (F2.out.trans G3.out)⟩
      · have jm : (M : Int).tmod 64 = ((M % 64 : Nat) : Int) := by rw [Int.tmod_eq_emod_of_nonneg (by omega)]; omega
        obtain ⟨r, hr⟩ : ∃ r, r = M % 64 := ⟨_, rfl⟩
        rw [← hr] at jm e64
        have hz : ((r : Int) == 0) = false := int_ne (by omega)
        have S2 : Hid (wrStep hc lc = he) := Lib.hid (by rw [STEP.out, if_neg (by rw [← hr]; exact e64), HHE.out, ← HST.out, HHE.out])
        clear hr
        go_wp2_with fail
        go_roundg (gk - n)
        case measure => omega
        case rel => exact ⟨he, lc.drop n, oa, cc - n, gk - n, rfl, rfl, by omega, by omega, LEN2, OKe, H2, Lib.hid (RD2.out w2 FW2.out), NE2, Lib.hid (by rw [HHE.out]; exact LE2.out), Lib.hid (by rw [LAW2.out, S2.out]), F2⟩
    · obtain rfl : gk = 0 := by omega
      have hnil : lc = [] := List.eq_nil_of_length_eq_zero HM.out.symm
      have FIN : Hid (wrF h l = hc) := Lib.hid (by rw [LAWc.out, hnil]; rfl)
      go_wp2_with fail
      go_ret
      exact ⟨⟨_, rfl⟩, by rw [FIN.out]; exact HKc.out, Fc.out⟩
end Go.Proofs.YtohmdledkhgdaaaGreatDoor
