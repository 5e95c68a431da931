/- sha256: Sum. -/
import Derived.Test.YtohmdledkhgdaaaGreatDoorLo23
namespace Go.Proofs.YtohmdledkhgdaaaGreatDoor
open Go.RowKit Go.Maps
set_option linter.unusedVariables false
set_option maxRecDepth 100000
theorem rd_ow {w : World} {B n cap : Nat} {a : Option Addr} {xs : List Nat} (h : w.ownsRow B 5 1 (.slice a n cap) n (xs.map U)) (hx : ∀ x ∈ xs, x < 256) : Rd w a xs := by
  have hl := h.1
  rw [Nat.mul_one, List.length_map] at hl
  rcases h.2 with ⟨e, _⟩ | ⟨g, c, cur, e, _, hg, _, _, _, ht⟩
  · cases e
    exact ⟨hx, fun h0 => by omega⟩
  · cases e
    refine ⟨hx, fun h0 => ⟨g, 0, rfl, lt_of_block hg, fun i hi => ?_⟩⟩
    rw [cell_of_row w g (0 + i) _ _ _ hg, Nat.zero_add]
    have := congrArg (fun z => z[i]?) ht
    simp only [List.getElem?_map, List.getElem?_eq_getElem hi, Option.map_some] at this
    rw [← this, Nat.mul_one, List.getElem?_take_of_lt (by omega)]
    simp
def cntB (len k : Nat) : Nat := (8 * len % 18446744073709551616) / 2 ^ (56 - 8 * k) % 256
def padP (len k : Nat) : List Nat := 128 :: List.replicate (padN len) 0 ++ (List.range k).map (cntB len)
theorem padP_succ (len k : Nat) : padP len (k + 1) = padP len k ++ [cntB len k] := by simp [padP, List.range_succ]
theorem padP_8 (len : Nat) : padP len 8 = padF len := rfl
theorem padF_lt (len : Nat) : ∀ x ∈ padF len, x < 256 := by
  intro x hx
  rw [← padP_8] at hx
  unfold padP cntB at hx
  simp only [List.cons_append, List.mem_cons, List.mem_append, List.mem_replicate, List.mem_map] at hx
  rcases hx with rfl | ⟨_, rfl⟩ | ⟨k, _, rfl⟩
  · decide
  · decide
  · exact Nat.mod_lt _ (by decide)
theorem padF_len (len : Nat) : (padF len).length ≤ 100 := by
  rw [← padP_8]; simp [padP, padN]; omega
theorem OW.slice {B : Nat} {xs : List Nat} {v : Value} {w : World} (h : OW B xs v w) (h0 : 0 < xs.length) : ∃ g c, v = .slice (some ⟨g, 0, none⟩) xs.length c ∧ xs.length ≤ c ∧ c ≤ maxLen ∧ B ≤ g ∧ g < w.heap.size := by
  rcases h.2 with ⟨_, e⟩ | ⟨g, c, cur, e, hb, hg, hc, hm, _, _⟩
  · omega
  · exact ⟨g, c, e, hc, hm, hb, lt_of_block hg⟩
theorem hC_hs0 : hC hs0 = #[.int .u32 0, .int .u32 0, .int .u32 0, .int .u32 0, .int .u32 0, .int .u32 0, .int .u32 0, .int .u32 0, .int .u8 0, .int .u8 0, .int .u8 0, .int .u8 0, .int .u8 0, .int .u8 0, .int .u8 0, .int .u8 0, .int .u8 0, .int .u8 0, .int .u8 0, .int .u8 0, .int .u8 0, .int .u8 0, .int .u8 0, .int .u8 0, .int .u8 0, .int .u8 0, .int .u8 0, .int .u8 0, .int .u8 0, .int .u8 0, .int .u8 0, .int .u8 0, .int .u8 0, .int .u8 0, .int .u8 0, .int .u8 0, .int .u8 0, .int .u8 0, .int .u8 0, .int .u8 0, .int .u8 0, .int .u8 0, .int .u8 0, .int .u8 0, .int .u8 0, .int .u8 0, .int .u8 0, .int .u8 0, .int .u8 0, .int .u8 0, .int .u8 0, .int .u8 0, .int .u8 0, .int .u8 0, .int .u8 0, .int .u8 0, .int .u8 0, .int .u8 0, .int .u8 0, .int .u8 0, .int .u8 0, .int .u8 0, .int .u8 0, .int .u8 0, .int .u8 0, .int .u8 0, .int .u8 0, .int .u8 0, .int .u8 0, .int .u8 0, .int .u8 0, .int .u8 0, .int .i64 0] := by rfl
theorem Rd.onB {w w' : World} {a : Option Addr} {l : List Nat} (h : Rd w a l) (hb : Below w.heap.size w w') : Rd w' a l := by
  refine ⟨h.lt, fun h0 => ?_⟩
  obtain ⟨b, off, rfl, hbw, hc⟩ := h.at_ h0
  exact ⟨b, off, rfl, Nat.lt_of_lt_of_le hbw hb.size, fun i hi => (hb.cell (by exact hbw)).trans (hc i hi)⟩
theorem padP_0 (n : Nat) : padP n 0 = 128 :: List.replicate (padN n) 0 := by simp [padP]
theorem fr1_row (w : World) (b : Nat) (cs : Array Value) : Fr1 b w (w.setRow b cs) := ⟨rfl, rfl, rfl, by simp [World.setRow], fun k hk hne => setRow_other w b k cs hne⟩
theorem repl_succ (k : Nat) : 128 :: List.replicate (k + 1) 0 = (128 :: List.replicate k 0) ++ [0] := by rw [List.replicate_succ']; rfl
set_option maxHeartbeats 4000000 in
theorem hsum_any (w : World) (b : Nat) (h : Hs) (hk : HK w b h) (ho : h.Ok) (hl : h.len ≤ 100000000) (hE : Env w) :
    Calls Tryz.prog 74 #[.pointer (some ⟨b, 0, none⟩)] w fun e w' => e = .returned (.agg (idA (smF h))) ∧ Below w.heap.size w w' := by
  obtain ⟨i0, hi0, hz0, hz1, hz2⟩ := info_parts info5
  have hb := hk.lt
  obtain ⟨zs, hzs⟩ : ∃ zs, zs = idA (List.replicate 32 0) := ⟨_, rfl⟩
  have Z0 : Hid (zs = #[.int .u8 0, .int .u8 0, .int .u8 0, .int .u8 0, .int .u8 0, .int .u8 0, .int .u8 0, .int .u8 0, .int .u8 0, .int .u8 0, .int .u8 0, .int .u8 0, .int .u8 0, .int .u8 0, .int .u8 0, .int .u8 0, .int .u8 0, .int .u8 0, .int .u8 0, .int .u8 0, .int .u8 0, .int .u8 0, .int .u8 0, .int .u8 0, .int .u8 0, .int .u8 0, .int .u8 0, .int .u8 0, .int .u8 0, .int .u8 0, .int .u8 0, .int .u8 0]) := Lib.hid (by rw [hzs]; rfl)
  obtain ⟨wA, hwA⟩ : ∃ wA, wA = w.alloc (.cells zs 60) := ⟨_, rfl⟩
  have BA : Hid (Below w.heap.size w wA) := Lib.hid (by rw [hwA]; exact (Below.refl _ _).alloc (Nat.le_refl _) _)
  have RA : Hid (IB wA w.heap.size 60 (List.replicate 32 0)) := Lib.hid (by unfold IB; rw [hwA, ← hzs]; exact heap_alloc_last w _)
  have SA : wA.heap.size = w.heap.size + 1 := by rw [hwA]; simp
  have HKA : Hid (HK wA b h) := Lib.hid (hk.below BA.out)
  have WA := Lib.hid hwA
  obtain ⟨n, hn⟩ : ∃ n, n = h.len := ⟨_, rfl⟩
  have HN := Lib.hid hn
  rw [← hn] at hl
  have HO := Lib.hid ho; have HE := Lib.hid hE
  clear hwA hzs hk hn ho hE
  go_enter Tryz.func74, Tryz.ntmps74
  go_upto_region 3 with fail
  have WA' := WA.out
  rw [Z0.out] at WA'
  rw [← WA']
  clear WA' WA
  have SA' := Lib.hid SA
  go_wp2_with fail
  have O1 : Hid (OW (w.heap.size + 1) [128] (.slice (some ⟨w.heap.size + 1, 0, none⟩) 1 1) (wA.alloc (.cells #[.int .u8 128] 5))) := Lib.hid (by
    have := heap_alloc_last wA (.cells #[.int .u8 128] 5)
    rw [SA'.out] at this
    exact ⟨rfl, .inr ⟨w.heap.size + 1, 1, #[.int .u8 128], rfl, Nat.le_refl _, this, Nat.le_refl _, by decide, rfl, rfl⟩⟩)
  have B1 : Hid (Below (w.heap.size + 1) wA (wA.alloc (.cells #[.int .u8 128] 5))) := Lib.hid ((Below.refl _ _).alloc (by rw [SA'.out]; exact Nat.le_refl _) _)
  obtain ⟨P, hP⟩ : ∃ P, P = padN n := ⟨_, rfl⟩
  have hP2 : P = (119 - n % 64) % 64 := hP
  go_loopg [3] P (fun k v wr => ∃ j : Nat, j ≤ P ∧ k = P - j ∧ Hid (OW (w.heap.size + 1) (128 :: List.replicate j 0) v wr) ∧ Hid (Below (w.heap.size + 1) wA wr))
  case atStart => exact ⟨0, by omega, rfl, O1, B1⟩
  case round =>
    clear O1 B1
    obtain ⟨j, hj, rfl, ow, bw⟩ := hrel
    have c72 : wr.cell? ⟨b, 72, none⟩ = some (.int .i64 (n : Int)) := by
      rw [HN.out]; exact HK.len ((bw.out.block b (by omega)).trans HKA.out) HO.out.blk.len
    obtain ⟨g, c, rfl, hgc, hcm, hBg, hgw⟩ := ow.out.slice (by simp)
    obtain ⟨m, hm⟩ : ∃ m, m = j + 1 := ⟨_, rfl⟩
    have hml : (128 :: List.replicate j 0 : List Nat).length = m := by simp [hm]
    rw [hml] at ow hgc ⊢
    have hsz : w.heap.size + 1 ≤ wr.heap.size := by have := bw.out.size; omega
    obtain ⟨r, hr⟩ : ∃ r, r = (n + m) % 64 := ⟨_, rfl⟩
    have jt : ((n : Int) + (m : Int)).tmod 64 = (r : Int) := by rw [Int.tmod_eq_emod_of_nonneg (by omega)]; omega
    have wN : IntKind.i64.wrap ((n : Int) + (m : Int)) = (n : Int) + (m : Int) := IntWalk.i64_in _ (by omega)
    have OWN : Hid (wr.ownsRow (w.heap.size + 1) 5 1 (.slice (some ⟨g, 0, none⟩) m c) m ((128 :: List.replicate j 0 : List Nat).map U)) := Lib.hid (by have := ow.out; unfold OW at this; rw [hml] at this; exact this)
    have hP63 : P ≤ 63 := by omega
    have hm64 : m ≤ 64 := by omega
    obtain ⟨xs, hxs⟩ : ∃ xs, xs = (128 :: List.replicate j 0 : List Nat) := ⟨_, rfl⟩
    by_cases hlt : j < P
    · have hne : ((r : Int) != 56) = true := by
        have : r ≠ 56 := by omega
        simpa using (by omega : ¬ ((r : Int) = 56))
      have FIN : Hid (∀ (v' : Value) (w1 : World), w1.ownsRow (w.heap.size + 1) 5 1 v' (m + 1) (xs.map U ++ [.int .u8 0]) → (wr.alloc (.cells #[.int .u8 0] 5)).grownBy w1 (Value.slice (some ⟨g, 0, none⟩) m c).ownBlock → OW (w.heap.size + 1) (128 :: List.replicate (j + 1) 0) v' w1 ∧ Below (w.heap.size + 1) wA w1) := Lib.hid (fun v' w1 h1 h2 => ⟨by
          rw [repl_succ, ← hxs]; rw [hxs] at h1 ⊢; rw [← hml] at h1; exact OW.app (ys := [0]) rfl rfl h1, below_app bw.out hsz (Nat.le_refl _) ow.out h2⟩)
      rw [← hxs] at OWN
      have HP := Lib.hid hP2
      clear hr hm hP2 hP hml SA hxs hgc
      go_wp2_with (at_builtin; refine wpList_append_own _ rfl _ _ 62 rfl (w.heap.size + 1) 5 i0 (.int .u8 0) 1 1 Tryz.underlying62 hi0 hz0 hz1 hz2 rfl (by decide) _ _ _ rfl (OWN.out.alloc _) ⟨wr.heap.size, 0, none⟩ 1 1 [.int .u8 0] rfl rfl (World.news_of_block (cs := #[.int .u8 0]) (t := 5) (fr := (0, 0)) (heap_alloc_new wr _)) (by simp [Value.oneCell']) (by unfold maxLen; omega) (by omega) (by simp; omega) ?_; intro v' w3 hown' hgrow _)
      have F := Lib.hid (FIN.out _ w3 hown' hgrow)
      clear hown' hgrow FIN
      go_wp2_with fail
      go_roundg (P - (j + 1))
      case measure => omega
      case rel => exact ⟨j + 1, by omega, rfl, Lib.hid F.out.1, Lib.hid F.out.2⟩
    · obtain rfl : j = P := by omega
      have he : ((r : Int) != 56) = false := by
        have : r = 56 := by omega
        rw [this]; rfl
      have O2 : Hid (OW (w.heap.size + 1) (padP n 0) (.slice (some ⟨g, 0, none⟩) m c) wr) := Lib.hid (by rw [padP_0, ← hP]; exact ow.out)
      have B2 := Lib.hid bw.out
      obtain ⟨C, hC⟩ : ∃ C, C = 8 * n := ⟨_, rfl⟩
      have eC : (8 * (n : Int)) % 18446744073709551616 = (C : Int) := by omega
      have eC2 : (8 * (n : Int)) = (C : Int) := by omega
      have hC2 : C ≤ 800000000 := by omega
      have n64 : (n : Int) % 18446744073709551616 = (n : Int) := by omega
      have PL := Lib.hid (padF_len n)
      have HCN := Lib.hid hC
      have hPN : Hid (∀ q, (padP n q).length = 1 + j + q) := Lib.hid (fun q => by unfold padP; rw [← hP]; simp; omega)
      clear hr hm hP2 hP hml SA hxs OWN hgc ow bw hC
      go_wp2_with fail
      go_loopg [3, 5, 29] 8 (fun k v v5 i wq => ∃ q : Nat, q ≤ 8 ∧ k = 8 - q ∧ i = .int .i64 (q : Int) ∧ Hid (OW (w.heap.size + 1) (padP n q) v wq) ∧ Hid (Below (w.heap.size + 1) wA wq))
      case atStart => exact ⟨0, by omega, rfl, rfl, O2, B2⟩
      case round =>
        clear O2 B2 c72 he jt wN
        obtain ⟨q, hq, rfl, rfl, ow, bw⟩ := hrel
        by_cases hq8 : q < 8
        · have hgs : ∃ g c, u3 = .slice (some ⟨g, 0, none⟩) (1 + j + q) c := by
            obtain ⟨g, c, h1, _⟩ := ow.out.slice (by rw [hPN.out]; omega)
            rw [hPN.out] at h1
            exact ⟨g, c, h1⟩
          obtain ⟨g2, c2, rfl⟩ := hgs
          obtain ⟨r2, hr2⟩ : ∃ r2, r2 = 56 - 8 * q := ⟨_, rfl⟩
          have e56 : (56 : Int) - 8 * (q : Int) = (r2 : Int) := by omega
          obtain ⟨y, hy⟩ : ∃ y, y = cntB n q := ⟨_, rfl⟩
          have YI : Hid (((y : Nat) : Int) = (C : Int) / 2 ^ r2 % 256) := Lib.hid (by
            rw [hy, cntB, ← HCN.out, ← hr2, show C % 18446744073709551616 = C from Nat.mod_eq_of_lt (by omega), Int.natCast_emod, Int.natCast_ediv, Int.natCast_pow]; rfl)
          have OWN : Hid (wr.ownsRow (w.heap.size + 1) 5 1 (.slice (some ⟨g2, 0, none⟩) (1 + j + q) c2) (1 + j + q) ((padP n q).map U)) := Lib.hid (by have := ow.out; unfold OW at this; rw [hPN.out] at this; exact this)
          have hsz : w.heap.size + 1 ≤ wr.heap.size := by have := bw.out.size; have := SA'.out; omega
          have FIN : Hid (∀ (v' : Value) (w1 : World) (z : Value), z = .int .u8 (y : Int) → w1.ownsRow (w.heap.size + 1) 5 1 v' ((1 + j + q) + 1) ((padP n q).map U ++ [z]) → (wr.alloc (.cells #[z] 5)).grownBy w1 (Value.slice (some ⟨g2, 0, none⟩) (1 + j + q) c2).ownBlock → OW (w.heap.size + 1) (padP n (q + 1)) v' w1 ∧ Below (w.heap.size + 1) wA w1) := Lib.hid (fun v' w1 z hz h1 h2 => ⟨by
              subst hz; rw [padP_succ, ← hy]; rw [← hPN.out q] at h1; exact OW.app (ys := [y]) rfl rfl h1, below_app bw.out hsz (Nat.le_refl _) ow.out h2⟩)
          obtain ⟨ps, hps⟩ : ∃ ps, ps = (padP n q).map U := ⟨_, rfl⟩
          rw [← hps] at OWN FIN
          obtain ⟨m2, hm2⟩ : ∃ m2, m2 = 1 + j + q := ⟨_, rfl⟩
          rw [← hm2] at OWN FIN ⊢
          have hm3 : m2 ≤ 100 := by omega
          have hYZ : Hid (Value.int .u8 ((C : Int) / 2 ^ r2 % 256) = .int .u8 (y : Int)) := Lib.hid (by rw [YI.out])
          clear hr2 hy hps hm2 ow bw
          go_wp2_with (at_builtin; refine wpList_append_own _ rfl _ _ 62 rfl (w.heap.size + 1) 5 i0 (.int .u8 0) 1 1 Tryz.underlying62 hi0 hz0 hz1 hz2 rfl (by decide) _ _ _ rfl (OWN.out.alloc _) ⟨wr.heap.size, 0, none⟩ 1 1 [.int .u8 ((C : Int) / 2 ^ r2 % 256)] rfl rfl (World.news_of_block (cs := #[.int .u8 ((C : Int) / 2 ^ r2 % 256)]) (t := 5) (fr := (0, 0)) (heap_alloc_new wr _)) (by simp [Value.oneCell']) (by unfold maxLen; omega) (by omega) (by simp; omega) ?_; intro v' w3 hown' hgrow _)
          have F := Lib.hid (FIN.out _ w3 _ hYZ.out hown' hgrow)
          clear hown' hgrow FIN
          go_wp2_with fail
          go_roundg (8 - (q + 1))
          case measure => omega
          case rel => exact ⟨q + 1, by omega, rfl, by go_num, Lib.hid F.out.1, Lib.hid F.out.2⟩
        · obtain rfl : q = 8 := by omega
          obtain ⟨g2, c2, rfl, hgc2, hcm2, hBg2, hgw2⟩ := ow.out.slice (by rw [hPN.out]; omega)
          have OWN := ow.out
          unfold OW at OWN
          rw [hPN.out] at OWN hgc2 ⊢
          rw [padP_8] at OWN
          have RD : Hid (Rd wr (some ⟨g2, 0, none⟩) (padF n)) := Lib.hid (rd_ow OWN (padF_lt n))
          have PLN : Hid ((padF n).length = 1 + j + 8) := Lib.hid (by rw [← padP_8]; exact hPN.out 8)
          have HKq : Hid (HK wr b h) := Lib.hid ((bw.out.block b (by have := SA'.out; omega)).trans HKA.out)
          have LD := Lib.hid (HKq.out.all HO.out.blk.len)
          have h9 := HE.out.size
          have hwz : w.heap.size + 1 ≤ wr.heap.size := by have := bw.out.size; have := SA'.out; omega
          obtain ⟨w4, hw4⟩ : ∃ w4, w4 = wr.alloc (.cells (hC hs0) 179) := ⟨_, rfl⟩
          have H4 : HK w4 wr.heap.size hs0 := by rw [hw4]; exact heap_alloc_last wr _
          have ST0 : (storeVar 179 ⟨wr.heap.size, 0, none⟩ (.agg (hC h))).run Tryz.prog w4 = .ok () (w4.setRow wr.heap.size (hC h)) := run_storeVar_row w4 wr.heap.size _ 179 _ _ H4 (by rw [hC_size HO.out.blk.len]; exact size_hash) (by rw [hC_size HO.out.blk.len, hC_size (by simp [hs0])]) (hC_one h)
          obtain ⟨w5, hw5⟩ : ∃ w5, w5 = w4.setRow wr.heap.size (hC h) := ⟨_, rfl⟩
          have H5 : HK w5 wr.heap.size h := by rw [hw5]; exact setRow_heap w4 _ _ _ _ _ H4
          have B5 : Below wr.heap.size wr w5 := by rw [hw5, hw4]; exact below_setRow ((Below.refl _ _).alloc (Nat.le_refl _) _) (Nat.le_refl _) _
          have ST : Hid ((storeVar 179 ⟨wr.heap.size, 0, none⟩ (.agg (hC h))).run Tryz.prog (wr.alloc (.cells #[.int .u32 0, .int .u32 0, .int .u32 0, .int .u32 0, .int .u32 0, .int .u32 0, .int .u32 0, .int .u32 0, .int .u8 0, .int .u8 0, .int .u8 0, .int .u8 0, .int .u8 0, .int .u8 0, .int .u8 0, .int .u8 0, .int .u8 0, .int .u8 0, .int .u8 0, .int .u8 0, .int .u8 0, .int .u8 0, .int .u8 0, .int .u8 0, .int .u8 0, .int .u8 0, .int .u8 0, .int .u8 0, .int .u8 0, .int .u8 0, .int .u8 0, .int .u8 0, .int .u8 0, .int .u8 0, .int .u8 0, .int .u8 0, .int .u8 0, .int .u8 0, .int .u8 0, .int .u8 0, .int .u8 0, .int .u8 0, .int .u8 0, .int .u8 0, .int .u8 0, .int .u8 0, .int .u8 0, .int .u8 0, .int .u8 0, .int .u8 0, .int .u8 0, .int .u8 0, .int .u8 0, .int .u8 0, .int .u8 0, .int .u8 0, .int .u8 0, .int .u8 0, .int .u8 0, .int .u8 0, .int .u8 0, .int .u8 0, .int .u8 0, .int .u8 0, .int .u8 0, .int .u8 0, .int .u8 0, .int .u8 0, .int .u8 0, .int .u8 0, .int .u8 0, .int .u8 0, .int .i64 0] 179)) = .ok () w5) := Lib.hid (by
            rw [hw4] at ST0 hw5
            rw [hC_hs0] at ST0 hw5
            rw [hw5]; exact ST0)
          have RD5 : Rd w5 (some ⟨g2, 0, none⟩) (padF n) := RD.out.onB B5
          have WR := Lib.hid (write_any w5 wr.heap.size h (some ⟨g2, 0, none⟩) c2 (padF n) H5 HO.out RD5 (fun ad e _ => by cases e; show g2 ≠ wr.heap.size; omega) (by rw [← HN.out]; have := PL.out; omega) (by rw [PLN.out]; exact hgc2) hcm2 (HE.out.below ((BA.out.trans (bw.out.mono (by omega))).trans (B5.mono (by omega))) HE.out.size) (by omega))
          rw [PLN.out] at WR
          have FOK : Hid ((wrF h (padF n)).Ok) := Lib.hid (wrF_ok HO.out (padF_lt n))
          have R5 : Hid (IB w5 w.heap.size 60 (List.replicate 32 0)) := Lib.hid ((B5.block w.heap.size (by omega)).trans ((bw.out.block w.heap.size (by have := SA'.out; omega)).trans RA.out))
          have BW5 : Hid (Below w.heap.size w w5) := Lib.hid ((BA.out.trans (bw.out.mono (by omega))).trans (B5.mono (by omega)))
          have s5 : w.heap.size < w5.heap.size := by have := B5.size; omega
          obtain ⟨hv, hhv⟩ : ∃ hv, hv = hC h := ⟨_, rfl⟩
          rw [← hhv] at LD ST
          clear hw4 hw5 H4 ST0 H5 B5 RD5 hhv ow bw OWN RD HKq
          go_wp2_with (first
            | ((with_reducible refine wpList_load 179 rfl _ rfl ?_); refine ⟨_, _, rfl, LD.out, ?_⟩)
            | ((with_reducible refine wpList_store 179 rfl _ _ rfl ?_); refine ⟨_, _, _, rfl, rfl, ST.out, ?_⟩))
          refine WR.out.mono ?_
          rintro e w6 ⟨⟨v6, rfl⟩, h6, f6⟩
          have L6 := Lib.hid h6.st
          have DG := Lib.hid (digest_any w6 FOK.out.st)
          have R6 : IB w6 w.heap.size 60 (List.replicate 32 0) := (f6.other w.heap.size s5 (by omega)).trans R5.out
          have FIN : Hid (∀ w7, Below w6.heap.size w6 w7 → (storeVar 60 ⟨w.heap.size, 0, none⟩ (.agg (idA (smF h)))).run Tryz.prog w7 = .ok () (w7.setRow w.heap.size (idA (smF h))) ∧ IB (w7.setRow w.heap.size (idA (smF h))) w.heap.size 60 (smF h) ∧ Below w.heap.size w (w7.setRow w.heap.size (idA (smF h)))) := Lib.hid (fun w7 hb7 => by
            have R7 := R6.below hb7
            have bw6 : Below w.heap.size w w6 := BW5.out.trans (f6.below BW5.out.size (by omega))
            have sl : (smF h).length = 32 := dgF_len _
            exact ⟨run_storeVar_row w7 w.heap.size _ 60 _ _ R7 (by rw [idA_size, sl]; exact size_dg) (by rw [idA_size, idA_size, sl]; simp) (idA_one _), setRow_heap w7 _ _ _ _ _ R7, below_setRow (bw6.trans (hb7.mono bw6.size)) (Nat.le_refl _) _⟩)
          have SM : Hid (idA (dgF (wrF h (padF n)).st) = idA (smF h)) := Lib.hid (by rw [HN.out]; rfl)
          rw [SM.out] at DG
          obtain ⟨v7, hv7⟩ : ∃ v7, v7 = wC (wrF h (padF n)).st := ⟨_, rfl⟩
          rw [← hv7] at L6 DG
          have SZ : Hid ((Tryz.prog.info? 60).map (·.size) = some (idA (smF h)).size) := Lib.hid (by rw [idA_size, show (smF h).length = 32 from dgF_len _]; exact size_dg)
          obtain ⟨rs, hrs⟩ : ∃ rs, rs = idA (smF h) := ⟨_, rfl⟩
          rw [← hrs] at DG FIN SZ
          have HRS := Lib.hid hrs
          clear hv7 hrs h6 f6 R6 WR ST LD SM
          go_wp2_with ((with_reducible refine wpList_load 176 rfl _ rfl ?_); refine ⟨_, _, rfl, L6.out, ?_⟩)
          refine DG.out.mono ?_
          rintro e w7 ⟨rfl, hb7⟩
          obtain ⟨f0, f1, f2⟩ := FIN.out w7 hb7
          have F0 := Lib.hid f0
          have F1 := Lib.hid f1
          have F2 := Lib.hid f2
          clear f0 f1 f2 hb7 FIN DG L6
          go_wp2_with ((with_reducible refine wpList_store 60 rfl _ _ rfl ?_); refine ⟨_, _, _, rfl, rfl, F0.out, ?_⟩)
          have f1 := F1.out
          unfold IB at f1
          rw [← HRS.out] at f1
          exact bodyPost_ret (results_cell_row Tryz.results74 _ _ w.heap.size _ _ _ _ rfl f1 Tryz.underlying60 rfl SZ.out) rfl ⟨by rw [HRS.out], F2.out⟩
theorem new_any (w : World) : Calls Tryz.prog 72 #[] w fun e w' => e = .returned (.pointer (some ⟨w.heap.size, 0, none⟩)) ∧ w' = w.alloc (.cells (hC hs0) 179) := by
  rw [hC_hs0]
  go_enter Tryz.func72, Tryz.ntmps72
  go_wp2_with fail
  go_ret
  exact ⟨rfl, rfl⟩
set_option maxHeartbeats 4000000 in
theorem sha_any (w : World) (a : Option Addr) (cap : Nat) (l : List Nat) (hr : Rd w a l) (hl : l.length ≤ 10000000) (hcap : l.length ≤ cap) (hcm : cap ≤ maxLen) (hE : Env w) :
    Calls Tryz.prog 27 #[.slice a l.length cap] w fun e w' => e = .returned (.agg (idA (shaF l))) ∧ Below w.heap.size w w' := by
  obtain ⟨zs, hzs⟩ : ∃ zs, zs = idA (List.replicate 32 0) := ⟨_, rfl⟩
  have Z0 : Hid (zs = #[.int .u8 0, .int .u8 0, .int .u8 0, .int .u8 0, .int .u8 0, .int .u8 0, .int .u8 0, .int .u8 0, .int .u8 0, .int .u8 0, .int .u8 0, .int .u8 0, .int .u8 0, .int .u8 0, .int .u8 0, .int .u8 0, .int .u8 0, .int .u8 0, .int .u8 0, .int .u8 0, .int .u8 0, .int .u8 0, .int .u8 0, .int .u8 0, .int .u8 0, .int .u8 0, .int .u8 0, .int .u8 0, .int .u8 0, .int .u8 0, .int .u8 0, .int .u8 0]) := Lib.hid (by rw [hzs]; rfl)
  obtain ⟨wA, hwA⟩ : ∃ wA, wA = w.alloc (.cells zs 60) := ⟨_, rfl⟩
  have BA : Below w.heap.size w wA := by rw [hwA]; exact (Below.refl _ _).alloc (Nat.le_refl _) _
  have RA : IB wA w.heap.size 60 (List.replicate 32 0) := by unfold IB; rw [hwA, ← hzs]; exact heap_alloc_last w _
  have SA : wA.heap.size = w.heap.size + 1 := by rw [hwA]; simp
  have h9 := hE.size
  have NW := Lib.hid (new_any wA)
  obtain ⟨w1, hw1⟩ : ∃ w1, w1 = wA.alloc (.cells (hC hs0) 179) := ⟨_, rfl⟩
  rw [← hw1] at NW
  have B1 : Below wA.heap.size wA w1 := by rw [hw1]; exact (Below.refl _ _).alloc (Nat.le_refl _) _
  have H1 : HK w1 wA.heap.size hs0 := by unfold HK; rw [hw1]; exact heap_alloc_last wA _
  have R1 := RA.below B1
  have BW1 : Below w.heap.size w w1 := BA.trans (B1.mono BA.size)
  have RD1 : Rd w1 a l := hr.onB BW1
  have WR := Lib.hid (write_any w1 wA.heap.size hs0 a cap l H1 hs0_ok RD1 (fun ad e h0 => by
    obtain ⟨b, off, e2, hb, _⟩ := hr.at_ h0
    rw [e2] at e; cases e
    show b ≠ _
    omega) (by show 0 + _ ≤ _; omega) hcap hcm (hE.on BW1) (by omega))
  have OK : Hid ((wrF hs0 l).Ok) := Lib.hid (wrF_ok hs0_ok hr.lt)
  have LN : Hid ((wrF hs0 l).len ≤ 100000000) := Lib.hid (by
    show (wrN l.length _ l).len ≤ _
    rw [wrN_len _ _ _ (Nat.le_refl _)]; show 0 + _ ≤ _; omega)
  have s1 : w.heap.size < w1.heap.size := by have := B1.size; omega
  have HR1 := Lib.hid R1; have HB1 := Lib.hid BW1; have HE := Lib.hid hE; have HWA := Lib.hid hwA
  have SA' := Lib.hid SA
  obtain ⟨L, hL⟩ : ∃ L, L = l.length := ⟨_, rfl⟩
  rw [← hL] at WR ⊢
  clear hwA hw1 hzs BA RA B1 H1 R1 BW1 RD1 hr hl hcap hcm hE hL
  go_enter Tryz.func27, Tryz.ntmps27
  go_upto_region 1 with fail
  have WA' := HWA.out
  rw [Z0.out] at WA'
  rw [← WA']
  clear WA' HWA
  go_wp2_with fail
  refine NW.out.mono ?_
  rintro e wx ⟨rfl, rfl⟩
  clear NW
  rw [SA'.out] at WR ⊢
  clear SA
  go_wp2_with fail
  refine WR.out.mono ?_
  rintro e w2 ⟨⟨v2, rfl⟩, h2, f2⟩
  have bw2 : Below w.heap.size w w2 := HB1.out.trans (f2.below HB1.out.size (Nat.le_succ _))
  have SM := Lib.hid (hsum_any w2 (w.heap.size + 1) _ h2 OK.out LN.out (HE.out.on bw2))
  have R2 : IB w2 w.heap.size 60 (List.replicate 32 0) := (f2.other w.heap.size s1 (by omega)).trans HR1.out
  have FIN : Hid (∀ w7, Below w2.heap.size w2 w7 → (storeVar 60 ⟨w.heap.size, 0, none⟩ (.agg (idA (smF (wrF hs0 l))))).run Tryz.prog w7 = .ok () (w7.setRow w.heap.size (idA (smF (wrF hs0 l)))) ∧ IB (w7.setRow w.heap.size (idA (smF (wrF hs0 l)))) w.heap.size 60 (smF (wrF hs0 l)) ∧ Below w.heap.size w (w7.setRow w.heap.size (idA (smF (wrF hs0 l))))) := Lib.hid (fun w7 hb7 => by
    have R7 := R2.below hb7
    have sl : (smF (wrF hs0 l)).length = 32 := dgF_len _
    exact ⟨run_storeVar_row w7 w.heap.size _ 60 _ _ R7 (by rw [idA_size, sl]; exact size_dg) (by rw [idA_size, idA_size, sl]; simp) (idA_one _), setRow_heap w7 _ _ _ _ _ R7, below_setRow (bw2.trans (hb7.mono bw2.size)) (Nat.le_refl _) _⟩)
  have SZ : Hid ((Tryz.prog.info? 60).map (·.size) = some (idA (smF (wrF hs0 l))).size) := Lib.hid (by rw [idA_size, show (smF (wrF hs0 l)).length = 32 from dgF_len _]; exact size_dg)
  obtain ⟨rs, hrs⟩ : ∃ rs, rs = idA (smF (wrF hs0 l)) := ⟨_, rfl⟩
  have HRS : Hid (idA (shaF l) = rs) := Lib.hid (by rw [hrs]; rfl)
  have HRS2 := Lib.hid hrs
  rw [← hrs] at SM FIN SZ
  clear hrs h2 f2 R2 WR bw2
  go_wp2_with fail
  refine SM.out.mono ?_
  rintro e w7 ⟨rfl, hb7⟩
  obtain ⟨f0, f1, f2⟩ := FIN.out w7 hb7
  have F0 := Lib.hid f0; have F1 := Lib.hid f1; have F2 := Lib.hid f2
  clear f0 f1 f2 hb7 FIN SM
  go_wp2_with ((with_reducible refine wpList_store 60 rfl _ _ rfl ?_); refine ⟨_, _, _, rfl, rfl, F0.out, ?_⟩)
  have f1 := F1.out
  unfold IB at f1
  rw [← HRS2.out] at f1
  exact bodyPost_ret (results_cell_row Tryz.results27 _ _ w.heap.size _ _ _ _ rfl f1 Tryz.underlying60 rfl SZ.out) rfl ⟨by rw [HRS.out], F2.out⟩
end Go.Proofs.YtohmdledkhgdaaaGreatDoor
/- A builder of its own; canonical.optionalId. -/
namespace Go.Proofs.YtohmdledkhgdaaaGreatDoor
open Go.RowKit
set_option linter.unusedVariables false
set_option maxRecDepth 100000
theorem liesB : liesAt Tryz.prog Tryz.prog.depth 80 (2 / Tryz.prog.cellsOf 80) 0 80 1 = true := by kernel_rfl
/-- A builder of its own at block b, with the text xs. -/
structure BD (w : World) (b : Nat) (xs : List Nat) (wr : World) : Prop where
  bd : ∃ cs v, cs.size = 2 ∧ Bd wr w.heap.size b 0 80 cs v xs
  bel : Below w.heap.size w wr
  le : w.heap.size ≤ b
/-- Blocks of other types lie as they lay. -/
structure KN (b : Nat) (w w' : World) : Prop where
  size : w.heap.size ≤ w'.heap.size
  same : ∀ k cs t fz, k ≠ b → t ≠ 5 → w.heap[k]? = some (.cells cs t fz) → w'.heap[k]? = some (.cells cs t fz)
theorem KN.of_below {b : Nat} {w w' : World} (h : Below w.heap.size w w') : KN b w w' := ⟨h.size, fun k cs t fz _ _ hk => (h.block k (lt_of_block hk)).trans hk⟩
theorem KN.owns {b : Nat} {w w' : World} (h : KN b w w') {base e size n : Nat} {v : Value} {xs : List Value} (ho : w.ownsRow base e size v n xs) (he : e ≠ 5) (hb : ∀ cs t fz, w.heap[b]? = some (.cells cs t fz) → t ≠ e) : w'.ownsRow base e size v n xs := by
  rcases ho.2 with ⟨rfl, h0⟩ | ⟨g, cap, cur, rfl, hg, hgb, r⟩
  · exact ⟨ho.1, .inl ⟨rfl, h0⟩⟩
  · exact ⟨ho.1, .inr ⟨g, cap, cur, rfl, hg, h.same g cur e (0, 0) (fun e' => hb cur e (0, 0) (by rw [← e']; exact hgb) rfl) he hgb, r⟩⟩
theorem Bd.on {w w' : World} {B b o T : Nat} {cs : Array Value} {v : Value} {xs : List Nat} (h : Bd w B b o T cs v xs) (hb : Below w.heap.size w w') : Bd w' B b o T cs v xs := by
  refine ⟨(hb.block _ (lt_of_block h.heap)).trans h.heap, h.addr, h.buf, ?_⟩
  rcases h.row.2 with ⟨rfl, h0⟩ | ⟨g, cap, cur, fz, rfl, hbg, hg, r⟩
  · exact ⟨h.row.1, .inl ⟨rfl, h0⟩⟩
  · exact ⟨h.row.1, .inr ⟨g, cap, cur, fz, rfl, hbg, (hb.block g (lt_of_block hg)).trans hg, r⟩⟩
theorem BD.on {w : World} {b : Nat} {xs : List Nat} {wr w' : World} (h : BD w b xs wr) (hb : Below wr.heap.size wr w') : BD w b xs w' := by
  obtain ⟨cs, v, h1, h2⟩ := h.bd
  exact ⟨⟨cs, v, h1, h2.on hb⟩, h.bel.trans (hb.mono h.bel.size), h.le⟩
theorem BD.type {w : World} {b : Nat} {xs : List Nat} {wr : World} (h : BD w b xs wr) : ∀ cs t fz, wr.heap[b]? = some (.cells cs t fz) → t = 80 := by
  obtain ⟨cs, v, h1, h2⟩ := h.bd
  intro cs' t fz hk
  rw [h2.heap] at hk
  cases hk; rfl
theorem BD.write {w : World} {b : Nat} {xs : List Nat} {wr : World} (h : BD w b xs wr) (s : ByteArray) (hlen : xs.length + s.size ≤ 140737488355328) :
    Calls Tryz.prog 41 #[.pointer (some ⟨b, 0, none⟩), .string s] wr fun e w' => e = .returned (.tuple #[.int .i64 (s.size : Int), .nilIface]) ∧ BD w b (xs ++ bs s) w' ∧ KN b wr w' := by
  obtain ⟨cs, v, h1, h2⟩ := h.bd
  refine (writeString_any wr w.heap.size b 0 80 cs v xs s h2 (by decide) h.bel.size (by rw [h1]; exact liesB) hlen).mono ?_
  rintro e w' ⟨rfl, cs', v', hbd, hsz, _, hov, hfr⟩
  have hv : ∀ k, v.ownBlock = some k → w.heap.size ≤ k ∧ ∃ cs fz, wr.heap[k]? = some (.cells cs 5 fz) := by
    intro k hk
    rcases h2.row.2 with ⟨rfl, h0⟩ | ⟨g, cap, cur, fz, rfl, hbg, hg, r⟩
    · cases hk
    · simp [Value.ownBlock] at hk; subst hk; exact ⟨hbg, cur, fz, hg⟩
  refine ⟨rfl, ⟨⟨cs', v', by rw [hsz, h1], hbd⟩, h.bel.trans (hfr.below h.bel.size h.le (fun k hk => (hv k hk).1)), h.le⟩, hfr.size, ?_⟩
  intro k cs t fz hne ht hk
  refine (hfr.other k (lt_of_block hk) hne (fun e => ?_)).trans hk
  obtain ⟨_, cs', fz', hk'⟩ := hv k e
  rw [hk] at hk'; cases hk'; exact ht rfl
theorem BD.text {w : World} {b : Nat} {xs : List Nat} {wr : World} (h : BD w b xs wr) (hx : ∀ x ∈ xs, x < 256) (hlen : xs.length ≤ 140737488355328) :
    Calls Tryz.prog 43 #[.pointer (some ⟨b, 0, none⟩)] wr fun e w' => e = .returned (.string (strN xs)) ∧ Below w.heap.size w w' := by
  obtain ⟨cs, v, h1, h2⟩ := h.bd
  refine (bstring_any wr w.heap.size b 0 80 cs v xs h2 (by decide) hx hlen).mono ?_
  rintro e w' ⟨rfl, _, hfr⟩
  refine ⟨rfl, h.bel.trans (hfr.below h.bel.size h.le (fun k hk => ?_))⟩
  rcases h2.row.2 with ⟨rfl, h0⟩ | ⟨g, cap, cur, fz, rfl, hbg, hg, r⟩
  · cases hk
  · simp [Value.ownBlock] at hk; subst hk; exact hbg
theorem BD.new {w0 w : World} (h : Below w0.heap.size w0 w) : BD w0 w.heap.size [] (w.alloc (.cells #[.pointer none, .slice none 0 0] 80)) :=
  ⟨⟨#[.pointer none, .slice none 0 0], .slice none 0 0, rfl, heap_alloc_last w _, .inl rfl, rfl, ⟨rfl, .inl ⟨rfl, rfl⟩⟩⟩, h.alloc h.size _, h.size⟩
theorem optid_any (w : World) {l : List Nat} (hl : IdOk l) :
    Calls Tryz.prog 57 #[.agg (idA l)] w fun e w' => e = .returned (.string (strN (optF l))) ∧ Below w.heap.size w w' := by
  obtain ⟨cs, hcs⟩ : ∃ cs, cs = idA l := ⟨_, rfl⟩
  have B0 : Hid (Below w.heap.size w (w.alloc (.cells cs 26))) := Lib.hid ((Below.refl _ _).alloc (Nat.le_refl _) _)
  have Z := Lib.hid (iszero_any (w.alloc (.cells cs 26)) hl)
  have P := Lib.hid (fun w => mprint_any w hl)
  have LD : Hid (∀ w1, Below (w.alloc (.cells cs 26)).heap.size (w.alloc (.cells cs 26)) w1 → (loadVar 26 ⟨w.heap.size, 0, none⟩).run Tryz.prog w1 = .ok (.agg cs) w1) := Lib.hid (fun w1 hb =>
    run_loadVar_row w1 w.heap.size _ 26 cs _ _ ((hb.block w.heap.size (by simp)).trans (heap_alloc_last w _)) Tryz.underlying26 rfl (by rw [hcs, idA_size, hl.len]; exact size23))
  rw [← hcs] at Z P ⊢
  have OPT : Hid (optF l = if l = zero32 then [] else midF l) := Lib.hid rfl
  obtain ⟨q, hq⟩ : ∃ q, q = decide (l = zero32) := ⟨_, rfl⟩
  rw [← hq] at Z
  have HQ := Lib.hid hq
  have LD0 := Lib.hid (LD.out _ (Below.refl _ _))
  clear hcs hl hq
  go_enter Tryz.func57, Tryz.ntmps57
  go_wp2_with ((with_reducible refine wpList_load 26 rfl _ rfl ?_); refine ⟨_, _, rfl, LD0.out, ?_⟩)
  refine Z.out.mono ?_
  rintro e w1 ⟨rfl, hb1⟩
  have LD1 := Lib.hid (LD.out _ hb1)
  have B1 := Lib.hid (B0.out.trans (hb1.mono B0.out.size))
  clear hb1 LD LD0 Z
  cases q
  · have O2 : Hid (optF l = midF l) := Lib.hid (by rw [OPT.out, if_neg (of_decide_eq_false HQ.out.symm)])
    have P1 := Lib.hid (P.out w1)
    clear P HQ OPT
    go_wp2_with ((with_reducible refine wpList_load 26 rfl _ rfl ?_); refine ⟨_, _, rfl, LD1.out, ?_⟩)
    refine P1.out.mono ?_
    rintro e w2 ⟨rfl, hb2⟩
    have B2 := Lib.hid (B1.out.trans (hb2.mono B1.out.size))
    clear hb2 P1 LD1
    go_wp2_with fail
    go_ret
    exact ⟨by rw [O2.out]; rfl, B2.out⟩
  · have O2 : Hid (optF l = []) := Lib.hid (by rw [OPT.out, if_pos (of_decide_eq_true HQ.out.symm)])
    clear P HQ OPT
    go_wp2_with fail
    go_ret
    exact ⟨by rw [O2.out]; rfl, B1.out⟩
end Go.Proofs.YtohmdledkhgdaaaGreatDoor
