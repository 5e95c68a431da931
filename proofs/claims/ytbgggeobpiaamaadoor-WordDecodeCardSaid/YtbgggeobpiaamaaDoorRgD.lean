/- Walk of regroup$1 ('add') where 'pass' is bulletin/base64.Decode$1. Written by gen_rg.py. -/
import Derived.Test.YtbgggeobpiaamaaDoorRg
namespace Go.Proofs.YtbgggeobpiaamaaDoor
open Go.RowKit
set_option linter.unusedVariables false

set_option maxHeartbeats 400000 in
theorem addD (w0 w : World) (B fr tt bits count g : Nat) (f : Nat → Nat) (xs : List Nat) (h : RG B fr tt 73 bits count xs w) (hb : Below B w0 w) (hp : PassOK w0 B 73 (2 ^ tt) f)
    (hfr : fr ≤ 8) (htt : 1 ≤ tt) (htt8 : tt ≤ 8) (hc : count < tt) (hbits : bits < 2 ^ count) (hg : g < 2 ^ fr) (hn : xs.length ≤ 900000) :
    Calls Tryd.prog 94 #[.int .i64 g, .pointer (some ⟨B + 5, 0, none⟩), .pointer (some ⟨B + 2, 0, none⟩), .pointer (some ⟨B + 6, 0, none⟩), .pointer (some ⟨B + 3, 0, none⟩), .pointer (some ⟨B + 4, 0, none⟩)] w fun e w' =>
      e = .returned (.tuple #[]) ∧ Below B w0 w' ∧ KM w w' ∧ ∃ b c ys, drain f tt 16 (bits * 2 ^ fr + g) (count + fr) xs = (b, c, ys) ∧ RG B fr tt 73 b c ys w' := by
  have c5 := cell_of_one h.bBits
  have c2 := cell_of_one h.bFrom
  have c6 := cell_of_one h.bCount
  have f5 := free_of_one h.bBits
  have f6 := free_of_one h.bCount
  have hp1 : 2 ^ count ≤ 2 ^ 8 := Nat.pow_le_pow_right (by omega) (by omega)
  have hp2 : 2 ^ fr ≤ 2 ^ 8 := Nat.pow_le_pow_right (by omega) (by omega)
  have bd0 := group_lt hbits hg
  have b1 : bits < 256 := by omega
  have b2 : g < 256 := by omega
  obtain ⟨x, hx⟩ : ∃ x, x = bits * 2 ^ fr + g := ⟨_, rfl⟩
  obtain ⟨y, hy⟩ : ∃ y, y = count + fr := ⟨_, rfl⟩
  have hy16 : y < 16 := by omega
  have ey : (count : Int) + (fr : Int) = (y : Int) := by omega
  have e0 : Go.bits .or .i64 (wrap64 ((bits : Int) * 2 ^ fr)) (g : Int) = (x : Int) := by rw [hx]; exact or_group bits fr g b1 hfr hg
  have r0 : RG B fr tt 73 x y xs (((w.setCell ⟨B + 5, 0, none⟩ (.int .i64 (x : Int))).setCell ⟨B + 6, 0, none⟩ (.int .i64 (y : Int))).drew) := ((h.setBits _).setCount _).drew
  have q0 : Below B w0 (((w.setCell ⟨B + 5, 0, none⟩ (.int .i64 (x : Int))).setCell ⟨B + 6, 0, none⟩ (.int .i64 (y : Int))).drew) := ((hb.setCell (by simp) _).setCell (by simp) _).drew
  have bd : x < 2 ^ y := by rw [hx, hy]; exact bd0
  rw [← hx, ← hy]
  have k0 : KM w (((w.setCell ⟨B + 5, 0, none⟩ (.int .i64 (x : Int))).setCell ⟨B + 6, 0, none⟩ (.int .i64 (y : Int))).drew) := ((KM.setCell h.bBits 0 _).trans (KM.setCell (h.setBits x).bCount 0 _)).drew
  have K0 := Lib.hid k0
  clear k0
  have HP := Lib.hid hp; have R0 := Lib.hid r0; have Q0 := Lib.hid q0; have BD := Lib.hid bd
  clear hp h hb hp1 hp2 r0 q0 bd hbits hg hx hy bd0
  go_enter Tryd.func94, Tryd.ntmps94
  go_wp2_with fail
  go_region
  all_goals go_wp2_with fail
  go_loopg [] 16 (fun k wr => ∃ b c ys, RG B fr tt 73 b c ys wr ∧ Below B w0 wr ∧ KM w wr ∧ b < 2 ^ c ∧ c ≤ k ∧ c < 16 ∧ ys.length + c ≤ 900000 + 16 ∧ drain f tt k b c ys = drain f tt 16 x y xs)
  case atStart => exact ⟨x, y, xs, R0.out, Q0.out, K0.out, BD.out, by omega, hy16, by omega, rfl⟩
  case round =>
    obtain ⟨b, c, ys, hr, hq, hkm, hbc, hck, hc16, hlen, hdr⟩ := hrel
    obtain ⟨v, hv, hown⟩ := hr.txt
    have k5 := cell_of_one hr.bBits
    have k3 := cell_of_one hr.bTo
    have k6 := cell_of_one hr.bCount
    have k4 := cell_of_one hr.bPass
    have l5 := free_of_one hr.bBits
    have l6 := free_of_one hr.bCount
    clear e0 c5 c2 c6 f5 f6
    have HKM := Lib.hid hkm
    clear hkm
    by_cases hlt : c < tt
    · have HR := Lib.hid hr; have HQ := Lib.hid hq; have HD := Lib.hid hdr
      clear hr hq hdr hv hown hbc
      go_wp2_with fail
      go_end0
      refine ⟨rfl, HQ.out, HKM.out, b, c, ys, ?_, HR.out⟩
      rw [← HD.out]
      cases gk <;> simp [drain, hlt]
    · obtain ⟨d, hd⟩ : ∃ d, d = c - tt := ⟨_, rfl⟩
      obtain ⟨q, hq'⟩ : ∃ q, q = b / 2 ^ d := ⟨_, rfl⟩
      have ed : (c : Int) - (tt : Int) = (d : Int) := by omega
      have eq : (b : Int) / 2 ^ d = (q : Int) := by rw [hq']; push_cast; rfl
      have hd16 : d < 16 := by omega
      obtain ⟨r, hr'⟩ : ∃ r, r = b % 2 ^ d := ⟨_, rfl⟩
      have hb16 : b < 65536 := Nat.lt_of_lt_of_le hbc (Nat.pow_le_pow_right (n := 2) (by omega) (show c ≤ 16 by omega))
      have em : Go.bits .and .i64 (b : Int) (wrap64 (wrap64 (2 ^ d) - 1)) = (r : Int) := by rw [hr']; exact and_mask' b d hb16 (by omega)
      have EM := Lib.hid em; have W := Lib.hid hr'
      clear em hr'
      have hqlt : q < 2 ^ tt := by rw [hq']; apply Nat.div_lt_of_lt_mul; rw [← Nat.pow_add]; have : d + tt = c := by omega
                                   rw [this]; exact hbc
      have r1 := hr.setCount d
      have q1 : Below B w0 (wr.setCell ⟨B + 6, 0, none⟩ (.int .i64 (d : Int))) := hq.setCell (by simp) _
      have hylen : ys.length ≤ 1000000 := by omega
      have o1 := (ownsRow_setCell_other (a := ⟨B + 6, 0, none⟩) hown (own_ne (b := B + 6) (t := 3) hown hr.bCount (by decide)) (.int .i64 (d : Int))).drew
      have P1 := Lib.hid (HP.out (wr.setCell ⟨B + 6, 0, none⟩ (.int .i64 (d : Int))).drew v ys q q1.drew ((Below.heap_setCell _ _ _ _ (by simp)).trans hv) o1 hylen hqlt)
      have O1 := Lib.hid o1
      have K1 := Lib.hid (KM.setCell hr.bCount 0 (.int .i64 (d : Int)))
      have V1 : Hid ((wr.setCell ⟨B + 6, 0, none⟩ (.int .i64 (d : Int))).drew.heap[B + 1]? = some (.cells #[v] 43 (0, 0))) := (Below.heap_setCell _ _ _ _ (by simp)).trans hv
      have R1 := Lib.hid r1; have HD := Lib.hid hdr; have Q1 := Lib.hid q1; have X := Lib.hid hq'; have Y := Lib.hid hd; have Z := Lib.hid hbc
      clear hr hq hdr hv hown hbc r1 q1 hq' hd hqlt o1
      go_wp2_with fail
      go_region_held3 (fun w' => w'.cell? ⟨B + 4, 0, none⟩ = some (.func (.func 73) #[] #[.pointer (some ⟨B + 1, 0, none⟩)]) ∧ w'.cell? ⟨B + 5, 0, none⟩ = some (.int .i64 (b : Int)) ∧ w'.cell? ⟨B + 6, 0, none⟩ = some (.int .i64 (d : Int)))
        (first | exact ⟨cell_of_one R1.out.drew.bPass, cell_of_one R1.out.drew.bBits, cell_of_one R1.out.drew.bCount⟩ | exact ⟨cell_of_one HR3.out.bPass, cell_of_one HR3.out.bBits, cell_of_one HR3.out.bCount⟩)
        (first | (go_at_call 73; refine (P1.out).mono ?_; rintro e w2 ⟨rfl, hn, hf⟩; have HR3 := Lib.hid (RG.passed R1.out.drew O1.out hn hf); clear hn))
      all_goals (have k5 := cell_of_one HR3.out.bBits; have k6 := cell_of_one HR3.out.bCount; have l5 := free_of_one HR3.out.bBits; have em := EM.out)
      all_goals go_wp2_with fail
      all_goals go_region
      all_goals go_wp2_with fail
      all_goals clear em
      all_goals go_roundg (gk - 1)
      case measure => omega
      case rel =>
        refine ⟨r, d, ys ++ [f q], (HR3.out.setBits r).drew, (((Q1.out.drew.trans hf.below).setCell (by simp) _).drew), ?_, ?_, by omega, hd16, by simp; omega, ?_⟩
        · exact (((HKM.out.trans K1.out).drew.trans (hf.km V1.out O1.out)).trans (KM.setCell HR3.out.bBits 0 _)).drew
        · rw [W.out]; exact Nat.mod_lt _ (Nat.pow_pos (by omega))
        · rw [← HD.out]
          obtain ⟨k', rfl⟩ : ∃ k', gk = k' + 1 := ⟨gk - 1, by omega⟩
          rw [drain_succ _ _ _ _ _ _ hlt, ← Y.out, ← W.out, ← X.out]
          rfl

end Go.Proofs.YtbgggeobpiaamaaDoor
