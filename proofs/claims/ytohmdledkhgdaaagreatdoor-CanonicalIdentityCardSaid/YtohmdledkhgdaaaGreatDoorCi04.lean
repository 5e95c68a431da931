/- Plain: commands, contents, their errors and their canonical form. -/
import Derived.Test.YtohmdledkhgdaaaGreatDoorCi03
import Derived.Lib.LaidTab
import Derived.Lib.ItoaNum
import Derived.Test.YtohmdledkhgdaaaGreatDoorCi02
import Derived.Test.YtohmdledkhgdaaaGreatDoorProg
import Derived.Test.YtohmdledkhgdaaaGreatDoorCi01
import Derived.BigQuiet
import Derived.Deep.QuietTactic
import Derived.Deep.RegionLaw
import Derived.KernelRfl
import Derived.Deep.MidRow
import Derived.Maps.OwnOps
import Derived.Maps.OwnSet
namespace Go.Proofs.YtohmdledkhgdaaaGreatDoor
set_option linter.unusedVariables false

/-- Decimal digits. -/
def digN : Nat → Nat → List Nat
  | 0, u => [48 + u % 10]
  | k + 1, u => if u < 10 then [48 + u] else digN k (u / 10) ++ [48 + u % 10]
def digI (n : Int) : List Nat := if n < 0 then 45 :: digN 20 n.natAbs else digN 20 n.toNat

/-- What follows in a command: the next word and the rest (each rest begins with its space). -/
def nxt (t : List Nat) (k : List Nat → List Nat → Nat) : Nat := match t with
  | [] => 4
  | _ :: u => k (u.takeWhile fun c => !decide (c = 32)) (u.dropWhile fun c => !decide (c = 32))
def fin (t : List Nat) : Nat := if t = [] then 0 else 5
def tgtF (x : List Nat) : Nat := match midP x with | none => 3 | some i => if i = zero32 then 1 else 0
def grpF (x : List Nat) : Nat := if nameF x = 0 then 0 else 12
/-- The value of 1 to 7 digits. -/
def numP (x : List Nat) : Option Nat := if x = [] ∨ 7 < x.length ∨ (1 < x.length ∧ x.getD 0 0 = 48) ∨ x.all dig = false then none else some (x.foldl (fun n c => 10 * n + (c - 48)) 0)
def numF (least most : Nat) (x : List Nat) : Nat := match numP x with | none => 3 | some n => if n < least ∨ most < n then 2 else 0
/-- Strictly increasing identities of authors. -/
def ltL : List Nat → List Nat → Bool
  | a :: s, b :: t => decide (a < b) || (decide (a = b) && ltL s t)
  | [], _ :: _ => true
  | _, [] => false
def incB : List (List Nat) → Bool
  | a :: b :: t => ltL a b && incB (b :: t)
  | _ => true
def modsF (x : List Nat) : Nat := match (spl 44 x).mapM autP with
  | none => 3
  | some l => if 8 < l.length then 9 else if incB l = false then 30 else 0
def prC (c : Nat) : Bool := decide (32 ≤ c) && decide (c ≤ 126)
def txtF (s : List Nat) : Nat := if 200 < s.length then 5 else if s.all prC = false then 6 else if s.head? = some 32 ∨ s.getLast? = some 32 then 3 else 0
def restF (t : List Nat) : Nat := match t with
  | [] => 0
  | _ :: u => if u = [] then 4 else txtF u
def wOpen : List Nat := [111, 112, 101, 110]
def wMod : List Nat := [109, 111, 100, 101, 114, 97, 116, 101, 100]
/-- The height and root of a public key's bytes, or the error. -/
def pubF (x : List Nat) : Nat :=
  if (decF x).2.2 ≠ 0 then (decF x).2.2 else if (decF x).1.length < 17 then 4 else if 17 < (decF x).1.length then 5
  else if (decF x).1.getD 0 0 < 1 ∨ 8 < (decF x).1.getD 0 0 then 2 else 0
def kCancel : List Nat := [99, 97, 110, 99, 101, 108]
def kApprove : List Nat := [97, 112, 112, 114, 111, 118, 101]
def kDefine : List Nat := [100, 101, 102, 105, 110, 101]
def kRemove : List Nat := [114, 101, 109, 111, 118, 101]
def kRekey : List Nat := [114, 101, 107, 101, 121]
def cmdK (k t : List Nat) : Nat :=
  if k = kCancel then nxt t fun x t => fe (tgtF x) (fin t)
  else if k = kApprove then nxt t fun x t => fe (tgtF x) (nxt t fun y t => fe (grpF y) (fin t))
  else if k = kDefine then nxt t fun g t => fe (grpF g) (nxt t fun v t => fe (numF 0 1000000 v) (nxt t fun m t =>
    if m = wOpen then restF t else if m = wMod then nxt t fun a t => fe (modsF a) (restF t) else 3))
  else if k = kRemove then nxt t fun g t => fe (grpF g) (nxt t fun v t => fe (numF 0 1000000 v) (fin t))
  else if k = kRekey then nxt t fun n t => fe (numF 1 1000 n) (nxt t fun p t => fe (pubF p) (fin t))
  else 11
/-- The error of a command's text. -/
def cmdF (s : List Nat) : Nat := if 1000 < s.length then 5 else cmdK (s.takeWhile fun c => !decide (c = 32)) (s.dropWhile fun c => !decide (c = 32))

/-- A content. -/
structure Cont where
  name : List Nat
  author : List Nat
  date : Int
  groups : List (List Nat)
  subject : List Nat
  refs : List (List Nat)
  sup : List Nat
  ctl : List Nat
  dist : List Nat
  number : Int
  height : Int
  root : List Nat
  leaf : Int
  body : List Nat
  deriving DecidableEq

def ctlF (c : Cont) : Nat := if c.ctl = [] then 0 else fe (eIf (!sqz c.ctl) 3) (fe (cmdF c.ctl) (eIf (!decide (c.sup = zero32)) 11))
def heightB (n : Int) : Bool := decide (1 ≤ n) && decide (n ≤ 8)
def leavesN (n : Int) : Int := if heightB n = true then 2 ^ n.toNat else 0
/-- The error of a content. -/
def chkF (c : Cont) : Nat :=
  fe (textF c.name 60) <| fe (eIf (decide (c.date < 0) || decide (105190559 < c.date)) 13) <| fe (groupsF c.groups) <| fe (textF c.subject 200) <|
  fe (refsF c.refs) <| fe (ctlF c) <| fe (distF c.dist) <| fe (eIf (decide (c.number < 0) || decide (1000 < c.number)) 2) <|
  fe (eIf (!heightB c.height) 2) <| fe (eIf (decide (c.leaf < 0) || decide (leavesN c.height ≤ c.leaf)) 2) <|
  fe (eIf (decide (57344 < c.body.length)) 5) (bodyF c.body)

/-- Texts joined. -/
def joinF (sep : List Nat) : List (List Nat) → List Nat
  | [] => []
  | [x] => x
  | x :: y :: r => x ++ sep ++ joinF sep (y :: r)
def optF (id : List Nat) : List Nat := if id = zero32 then [] else midF id
def pubB (c : Cont) : List Nat := (c.height % 256).toNat :: c.root
def keyF (c : Cont) : List Nat := digI c.number ++ 32 :: encF (pubB c)
/-- The words of the lines. -/
def fWords : List (List Nat) := [
  [110, 97, 109, 101], [97, 117, 116, 104, 111, 114], [100, 97, 116, 101], [103, 114, 111, 117, 112, 115], [115, 117, 98, 106, 101, 99, 116], [114, 101, 102, 101, 114, 101, 110, 99, 101, 115],
  [115, 117, 112, 101, 114, 115, 101, 100, 101, 115], [99, 111, 110, 116, 114, 111, 108], [100, 105, 115, 116, 114, 105, 98, 117, 116, 105, 111, 110], [107, 101, 121], [108, 101, 97, 102]]
def fVals (c : Cont) : List (List Nat) := [
  c.name, hexF c.author, digI c.date, joinF [44] c.groups, c.subject, joinF [32] (c.refs.map midF),
  optF c.sup, c.ctl, c.dist, keyF c, digI c.leaf]
/-- The canonical form. -/
def formF (c : Cont) : List Nat := ((fWords.zip (fVals c)).flatMap fun p => p.1 ++ 32 :: p.2 ++ [10]) ++ 10 :: c.body
def idF (c : Cont) : List Nat := shaF (formF c)

/-- The document's example. -/
def exC (x : Nat) : Cont := ⟨[65, 110, 110], 1 :: List.replicate 15 0, 0, [[97, 46, 98]], [116, 101, x], [], zero32, [], [], 0, 1, List.replicate 16 0, 0, []⟩
theorem ex_ok (x : Nat) (h : x = 97 ∨ x = 110) : chkF (exC x) = 0 := by rcases h with rfl | rfl <;> decide +kernel
theorem ex_ne : idF (exC 97) ≠ idF (exC 110) := by decide +kernel
end Go.Proofs.YtohmdledkhgdaaaGreatDoor
/- What the walks read of the program's variables. -/
namespace Go.Proofs.YtohmdledkhgdaaaGreatDoor
open Go.RowKit
set_option linter.unusedVariables false
set_option maxRecDepth 100000

structure Env (w : World) : Prop where
  tab : Tab w
  pow : Lib.TabIs Tryz.prog w "internal/strconv.uint64pow10" .u64 Lib.pow10Tab
  mx : ∃ m, w.cell? ⟨2, 0, none⟩ = some (.int .i64 m)
  sha : ∀ i, i < 64 → w.cell? ⟨1, i, none⟩ = some (.int .u32 ((shK.getD i 0 : Nat) : Int))
  fw : ∀ i, i < 11 → w.cell? ⟨0, i, none⟩ = some (.string (strN (fWords.getD i [])))
  size : 9 ≤ w.heap.size
theorem tabis_below {w w' : World} {n : String} {g : Nat} {k : IntKind} {zs : List Int} {B : Nat} (h : Lib.TabIs Tryz.prog w n k zs) (hg : Tryz.prog.globalNamed n = some g) (hb : Below B w w') (hB : g < B) : Lib.TabIs Tryz.prog w' n k zs := by
  unfold Lib.TabIs World.var? at h ⊢
  rw [hg] at h ⊢
  simp only [Option.bind_some] at h ⊢
  rw [hb.block g hB]
  exact h
theorem Env.below {B : Nat} {w w' : World} (h : Env w) (hb : Below B w w') (hB : 9 ≤ B) : Env w' :=
  ⟨h.tab.below hb (Nat.lt_of_lt_of_le (by decide) hB), tabis_below h.pow (g := 4) (by kernel_rfl) hb (Nat.lt_of_lt_of_le (by decide) hB), (by
    obtain ⟨m, hm⟩ := h.mx
    exact ⟨m, (hb.cell (p := ⟨2, 0, none⟩) (Nat.lt_of_lt_of_le (by show (_ : Nat) < 9; decide) hB)).trans hm⟩),
    fun i hi => (hb.cell (p := ⟨1, i, none⟩) (Nat.lt_of_lt_of_le (show (1 : Nat) < 9 by decide) hB)).trans (h.sha i hi),
    fun i hi => (hb.cell (p := ⟨0, i, none⟩) (Nat.lt_of_lt_of_le (show (0 : Nat) < 9 by decide) hB)).trans (h.fw i hi), Nat.le_trans h.size hb.size⟩
theorem Env.on {w w' : World} (h : Env w) (hb : Below w.heap.size w w') : Env w' := h.below hb h.size
end Go.Proofs.YtohmdledkhgdaaaGreatDoor
/- Walk of regroup$1 ('add') where 'pass' is bulletin/base64.Decode$1. Written by gen_rg.py. -/
namespace Go.Proofs.YtohmdledkhgdaaaGreatDoor
open Go.RowKit
set_option linter.unusedVariables false

set_option maxHeartbeats 400000 in
theorem addD (w0 w : World) (B fr tt bits count g : Nat) (f : Nat → Nat) (xs : List Nat) (h : RG B fr tt 234 bits count xs w) (hb : Below B w0 w) (hp : PassOK w0 B 234 (2 ^ tt) f)
    (hfr : fr ≤ 8) (htt : 1 ≤ tt) (htt8 : tt ≤ 8) (hc : count < tt) (hbits : bits < 2 ^ count) (hg : g < 2 ^ fr) (hn : xs.length ≤ 900000) :
    Calls Tryz.prog 239 #[.int .i64 g, .pointer (some ⟨B + 5, 0, none⟩), .pointer (some ⟨B + 2, 0, none⟩), .pointer (some ⟨B + 6, 0, none⟩), .pointer (some ⟨B + 3, 0, none⟩), .pointer (some ⟨B + 4, 0, none⟩)] w fun e w' =>
      e = .returned (.tuple #[]) ∧ Below B w0 w' ∧ KM w w' ∧ ∃ b c ys, drain f tt 16 (bits * 2 ^ fr + g) (count + fr) xs = (b, c, ys) ∧ RG B fr tt 234 b c ys w' := by
  have c5 := cell_of_one h.bBits
  have c2 := cell_of_one h.bFrom
  have c6 := cell_of_one h.bCount
  have f5 := free_of_one h.bBits
  have f6 := free_of_one h.bCount
  have hp1 : 2 ^ count ≤ 2 ^ 8 := Nat.pow_le_pow_right (by omega) (by omega)
  have hp2 : 2 ^ fr ≤ 2 ^ 8 := Nat.pow_le_pow_right (by omega) (by omega)
  have bd0 := group_lt hbits hg
  have b1 : bits < 256 := by omega
  have b2 : g < 256 := by omega
  obtain ⟨x, hx⟩ : ∃ x, x = bits * 2 ^ fr + g := ⟨_, rfl⟩
  obtain ⟨y, hy⟩ : ∃ y, y = count + fr := ⟨_, rfl⟩
  have hy16 : y < 16 := by omega
  have ey : (count : Int) + (fr : Int) = (y : Int) := by omega
  have e0 : Go.bits .or .i64 (wrap64 ((bits : Int) * 2 ^ fr)) (g : Int) = (x : Int) := by rw [hx]; exact or_group bits fr g b1 hfr hg
  have r0 : RG B fr tt 234 x y xs (((w.setCell ⟨B + 5, 0, none⟩ (.int .i64 (x : Int))).setCell ⟨B + 6, 0, none⟩ (.int .i64 (y : Int))).drew) := ((h.setBits _).setCount _).drew
  have q0 : Below B w0 (((w.setCell ⟨B + 5, 0, none⟩ (.int .i64 (x : Int))).setCell ⟨B + 6, 0, none⟩ (.int .i64 (y : Int))).drew) := ((hb.setCell (by simp) _).setCell (by simp) _).drew
  have bd : x < 2 ^ y := by rw [hx, hy]; exact bd0
  rw [← hx, ← hy]
  have k0 : KM w (((w.setCell ⟨B + 5, 0, none⟩ (.int .i64 (x : Int))).setCell ⟨B + 6, 0, none⟩ (.int .i64 (y : Int))).drew) := ((KM.setCell h.bBits 0 _).trans (KM.setCell (h.setBits x).bCount 0 _)).drew
  have K0 := Lib.hid k0
  clear k0
  have HP := Lib.hid hp; have R0 := Lib.hid r0; have Q0 := Lib.hid q0; have BD := Lib.hid bd
  clear hp h hb hp1 hp2 r0 q0 bd hbits hg hx hy bd0
  go_enter Tryz.func239, Tryz.ntmps239
  go_wp2_with fail
  go_region
  all_goals go_wp2_with fail
  go_loopg [] 16 (fun k wr => ∃ b c ys, RG B fr tt 234 b c ys wr ∧ Below B w0 wr ∧ KM w wr ∧ b < 2 ^ c ∧ c ≤ k ∧ c < 16 ∧ ys.length + c ≤ 900000 + 16 ∧ drain f tt k b c ys = drain f tt 16 x y xs)
  case atStart => exact ⟨x, y, xs, R0.out, Q0.out, K0.out, BD.out, by omega, hy16, by omega, rfl⟩
  case round =>
    obtain ⟨b, c, ys, hr, hq, hkm, hbc, hck, hc16, hlen, hdr⟩ := hrel
    obtain ⟨v, hv, hown⟩ := hr.txt
    have k5 := cell_of_one hr.bBits
    have k3 := cell_of_one hr.bTo
    have k6 := cell_of_one hr.bCount
    have k4 := cell_of_one hr.bPass
    have l5 := free_of_one hr.bBits
    have l6 := free_of_one hr.bCount
    clear e0 c5 c2 c6 f5 f6
    have HKM := Lib.hid hkm
    clear hkm
    by_cases hlt : c < tt
    · have HR := Lib.hid hr; have HQ := Lib.hid hq; have HD := Lib.hid hdr
      clear hr hq hdr hv hown hbc
      go_wp2_with fail
      go_end0
      refine ⟨rfl, HQ.out, HKM.out, b, c, ys, ?_, HR.out⟩
      rw [← HD.out]
      cases gk <;> simp [drain, hlt]
    · obtain ⟨d, hd⟩ : ∃ d, d = c - tt := ⟨_, rfl⟩
      obtain ⟨q, hq'⟩ : ∃ q, q = b / 2 ^ d := ⟨_, rfl⟩
      have ed : (c : Int) - (tt : Int) = (d : Int) := by omega
      have eq : (b : Int) / 2 ^ d = (q : Int) := by rw [hq']; push_cast; rfl
      have hd16 : d < 16 := by omega
      obtain ⟨r, hr'⟩ : ∃ r, r = b % 2 ^ d := ⟨_, rfl⟩
      have hb16 : b < 65536 := Nat.lt_of_lt_of_le hbc (Nat.pow_le_pow_right (n := 2) (by omega) (show c ≤ 16 by omega))
      have em : Go.bits .and .i64 (b : Int) (wrap64 (wrap64 (2 ^ d) - 1)) = (r : Int) := by rw [hr']; exact and_mask' b d hb16 (by omega)
      have EM := Lib.hid em; have W := Lib.hid hr'
      clear em hr'
      have hqlt : q < 2 ^ tt := by rw [hq']; apply Nat.div_lt_of_lt_mul; rw [← Nat.pow_add]; have : d + tt = c := by omega
                                   rw [this]; exact hbc
      have r1 := hr.setCount d
      have q1 : Below B w0 (wr.setCell ⟨B + 6, 0, none⟩ (.int .i64 (d : Int))) := hq.setCell (by simp) _
      have hylen : ys.length ≤ 1000000 := by omega
      have o1 := (ownsRow_setCell_other (a := ⟨B + 6, 0, none⟩) hown (own_ne (b := B + 6) (t := 3) hown hr.bCount (by decide)) (.int .i64 (d : Int))).drew
      have P1 := Lib.hid (HP.out (wr.setCell ⟨B + 6, 0, none⟩ (.int .i64 (d : Int))).drew v ys q q1.drew ((Below.heap_setCell _ _ _ _ (by simp)).trans hv) o1 hylen hqlt)
      have O1 := Lib.hid o1
      have K1 := Lib.hid (KM.setCell hr.bCount 0 (.int .i64 (d : Int)))
      have V1 : Hid ((wr.setCell ⟨B + 6, 0, none⟩ (.int .i64 (d : Int))).drew.heap[B + 1]? = some (.cells #[v] 62 (0, 0))) := (Below.heap_setCell _ _ _ _ (by simp)).trans hv
      have R1 := Lib.hid r1; have HD := Lib.hid hdr; have Q1 := Lib.hid q1; have X := Lib.hid hq'; have Y := Lib.hid hd; have Z := Lib.hid hbc
      clear hr hq hdr hv hown hbc r1 q1 hq' hd hqlt o1
      go_wp2_with fail
      go_region_held3 (fun w' => w'.cell? ⟨B + 4, 0, none⟩ = some (.func (.func 234) #[] #[.pointer (some ⟨B + 1, 0, none⟩)]) ∧ w'.cell? ⟨B + 5, 0, none⟩ = some (.int .i64 (b : Int)) ∧ w'.cell? ⟨B + 6, 0, none⟩ = some (.int .i64 (d : Int)))
        (first | exact ⟨cell_of_one R1.out.drew.bPass, cell_of_one R1.out.drew.bBits, cell_of_one R1.out.drew.bCount⟩ | exact ⟨cell_of_one HR3.out.bPass, cell_of_one HR3.out.bBits, cell_of_one HR3.out.bCount⟩)
        (first | (go_at_call 234; refine (P1.out).mono ?_; rintro e w2 ⟨rfl, hn, hf⟩; have HR3 := Lib.hid (RG.passed R1.out.drew O1.out hn hf); clear hn))
      all_goals (have k5 := cell_of_one HR3.out.bBits; have k6 := cell_of_one HR3.out.bCount; have l5 := free_of_one HR3.out.bBits; have em := EM.out)
      all_goals go_wp2_with fail
      all_goals go_region
      all_goals go_wp2_with fail
      all_goals clear em
      all_goals go_roundg (gk - 1)
      case measure => omega
      case rel =>
        refine ⟨r, d, ys ++ [f q], (HR3.out.setBits r).drew, (((Q1.out.drew.trans hf.below).setCell (by simp) _).drew), ?_, ?_, by omega, hd16, by simp; omega, ?_⟩
        · exact (((HKM.out.trans K1.out).drew.trans (hf.km V1.out O1.out)).trans (KM.setCell HR3.out.bBits 0 _)).drew
        · rw [W.out]; exact Nat.mod_lt _ (Nat.pow_pos (by omega))
        · rw [← HD.out]
          obtain ⟨k', rfl⟩ : ∃ k', gk = k' + 1 := ⟨gk - 1, by omega⟩
          rw [drain_succ _ _ _ _ _ _ hlt, ← Y.out, ← W.out, ← X.out]
          rfl

end Go.Proofs.YtohmdledkhgdaaaGreatDoor
/- Walk of Decode$1 (a byte is appended) and of regroup's closures. -/
namespace Go.Proofs.YtohmdledkhgdaaaGreatDoor
open Go.RowKit
set_option linter.unusedVariables false

/-- Decode$1: a group of eight bits is appended as a byte. -/
theorem dec1 (w : World) (Bt g base : Nat) (v : Value) (xs : List Nat)
    (hT : w.heap[Bt]? = some (.cells #[v] 62 (0, 0))) (hown : w.ownsRow base 5 1 v xs.length (xs.map U)) (hbase : base ≤ w.heap.size) (hBt : base ≤ Bt)
    (hn : xs.length ≤ 1000000) (hg : g < 256) :
    Calls Tryz.prog 234 #[.int .i64 g, .pointer (some ⟨Bt, 0, none⟩)] w fun e w' => e = .returned (.tuple #[]) ∧
      (∃ v', w'.heap[Bt]? = some (.cells #[v'] 62 (0, 0)) ∧ w'.ownsRow base 5 1 v' (xs.length + 1) ((xs ++ [g]).map U)) ∧ Frame1 base Bt v w w' := by
  obtain ⟨i0, hi0, hz0, hz1, hz2⟩ := info_parts info5
  have hc := cell_of_one hT
  have hf := free_of_one hT
  have lt := lt_of_block hT
  have g0 : (0 : Int) ≤ (g : Int) := Int.natCast_nonneg _
  have g1 : (g : Int) < 256 := by omega
  have hne : v.ownBlock ≠ some Bt := own_ne hown hT (by decide)
  have hTA : (w.alloc (.cells #[.int .u8 g] 5)).heap[Bt]? = some (.cells #[v] 62 (0, 0)) := alloc_block hT
  have HT := Lib.hid hT
  have HTA := Lib.hid hTA
  have HNE := Lib.hid hne
  clear hT hTA hne
  go_enter Tryz.func234, Tryz.ntmps234
  go_wp2_with ((at_builtin; refine wpList_append_lies _ rfl _ _ _ rfl base 5 i0 _ 1 1 Tryz.underlying62 hi0 hz0 hz1 hz2 rfl (by omega) v xs.length (xs.map U) rfl (hown.alloc _) ⟨w.heap.size, 0, none⟩ 1 1 [.int .u8 g] rfl rfl (World.news_of_block (cs := #[.int .u8 g]) (t := 5) (fr := (0, 0)) (heap_alloc_new w _)) (by simp [Value.oneCell']) (by omega) (by unfold maxLen; omega) (by omega) (by simp; omega) (w.heap.size + 1) (by simp) ?_; intro gg cap w1 hown1 hgrow hat hlt; have hc1 := own_kept_block hgrow HTA.out HNE.out; have hc2 := cell_of_one hc1; have hc3 := free_of_one hc1; have HC1 := Lib.hid hc1; clear hc1))
  all_goals go_end0
  all_goals (refine ⟨rfl, ?_⟩; rw [List.map_append]; exact app_close hown1 hgrow (((Below.refl _ _).alloc (Nat.le_refl _) _)) HC1.out (by decide) hBt hbase hown)

end Go.Proofs.YtohmdledkhgdaaaGreatDoor
/- Walk of base64.values: the map from letters to their values. -/
namespace Go.Proofs.YtohmdledkhgdaaaGreatDoor
open Go.RowKit Go.Maps
set_option linter.unusedVariables false
set_option maxRecDepth 100000

def alphCells : List Value := alph.map U
theorem alphCells_at (k : Nat) (h : k < 64) : alphCells[k]? = some (U (al k)) := by
  have hl : k < alph.length := by simp [alph]; omega
  simp [alphCells, al, List.getD, List.getElem?_eq_getElem hl]
theorem tab_range {w : World} (h : Tab w) : w.rangeAt 3 0 alphCells := by
  intro j v hv
  have hj : j < 64 := by
    have := (List.getElem?_eq_some_iff.1 hv).1
    simpa [alphCells, alph] using this
  rw [alphCells_at j hj] at hv
  cases hv
  rw [Nat.zero_add]
  exact h.cell j hj
theorem idx_alph (k : Nat) (h : k < 64) (w : World) : (Instr.index 177 (.agg alphCells.toArray) (.int .i64 k)).run Tryz.prog w = .ok (.int .u8 (al k)) w := by
  have hi : (0 : Int) ≤ (k : Int) ∧ (k : Int) < 64 := by omega
  simp [Instr.index, run_underlying Tryz.underlying177, asIntOf, hi, go_sem]
  rw [if_pos h, alphCells_at k h]
  rfl

theorem law5 : Keyed Tryz.prog 5 := int_keyed Tryz.underlying5
theorem zero3 (w : World) : (zeroValue 3).run Tryz.prog w = .ok (.int .i64 0) w := by kernel_rfl
theorem mkmap (w : World) : (Instr.makeMap 271 (some (.int .i64 64))).run Tryz.prog w = .ok (.map (some w.heap.size)) (w.alloc (.map #[] 0)) := by
  kernel_rfl

/-- The map behind k rounds. -/
def vMap (k : Nat) : DataW Unit := (List.range k).foldl (fun D i => D.put (.int .u8 (al i)) (.lit (.int .i64 i))) (.map [])
theorem vMap_succ (k : Nat) : vMap (k + 1) = (vMap k).put (.int .u8 (al k)) (.lit (.int .i64 k)) := by simp [vMap, List.range_succ]

theorem vMap_has : ∀ c : Nat, c < 256 → Maps.has (vMap 64) (.int .u8 c) = (vOf c).isSome := by decide +kernel
theorem vMap_at0 : ∀ c : Nat, c < 256 → (match (vMap 64).atKey (.int .u8 c) (.lit (.int .i64 0)) with | .lit (.int .i64 x) => decide (x = ((vOf c).getD 0 : Nat)) | _ => false) = true := by decide +kernel
theorem vMap_at (c : Nat) (h : c < 256) (x : Int) (hx : (vMap 64).atKey (.int .u8 c) (.lit (.int .i64 0)) = .lit (.int .i64 x)) : x = ((vOf c).getD 0 : Nat) := by
  have := vMap_at0 c h
  rw [hx] at this
  simpa using this
set_option maxHeartbeats 400000 in
theorem values_any (w : World) (ht : Tab w) :
    Calls Tryz.prog 235 #[] w fun e w' => e = .returned (.map (some w.heap.size)) ∧ w'.ownsMap Tryz.prog 5 (plainElem (H := Unit) Tryz.prog 3) w.heap.size 64 (vMap 64) ∧ Below w.heap.size w w' := by
  have hmm := mkmap
  have hr := tab_range ht
  have RA : Hid ((w.alloc (.map #[] 0)).rangeAt 3 0 alphCells) := tab_range (ht.below ((Below.refl _ _).alloc (Nat.le_refl _) _) ht.size)
  have hi : (Tryz.prog.info? 177).map (·.size) = some alphCells.length := by kernel_rfl
  obtain ⟨cs, hcs⟩ : ∃ cs, cs = alphCells := ⟨_, rfl⟩
  rw [← hcs] at RA hi
  have HCS := Lib.hid hcs; have HI := Lib.hid hi
  clear hr ht hcs hi
  go_enter Tryz.func235, Tryz.ntmps235
  go_wp2_with (with_reducible refine wpList_load_mid rfl 177 _ rfl 3 0 rfl cs _ RA.out Tryz.underlying177 rfl HI.out ?_)
  go_loopg [6] 64 (fun k i wr => ∃ j, j ≤ 64 ∧ k = 64 - j ∧ i = .int .i64 (j : Int) ∧ wr.ownsMap Tryz.prog 5 (plainElem (H := Unit) Tryz.prog 3) w.heap.size j (vMap j) ∧ Below w.heap.size w wr)
  case atStart => exact ⟨0, by omega, by omega, rfl, World.ownsMap_made _ _ _ _, (Below.refl _ _).alloc (Nat.le_refl _) _⟩
  case round =>
    obtain ⟨j, hj, rfl, rfl, hown, hb⟩ := hrel
    by_cases hlt : j < 64
    · have hx : ∀ w, (Instr.index 177 (.agg cs.toArray) (.int .i64 (j : Int))).run Tryz.prog w = .ok (.int .u8 (al j)) w := fun w => by rw [HCS.out]; exact idx_alph j hlt w
      have hal := al_lt j
      have hkey : keyOf Tryz.prog 5 (.int .u8 (al j)) = some (.int .u8 (al j)) := keyOf_int_mk Tryz.underlying5 (WalkArith.wf_u8 (by omega))
      go_wp2_with (at_mapUpdate; refine wpList_mapUpdate_own _ rfl _ _ _ 271 rfl 5 3 law5 Tryz.underlying271 _ w.heap.size j _ rfl hown (by unfold maxLen; omega) _ _ _ rfl rfl hkey _ [] (plainElem_int Tryz.underlying3 (WalkArith.wf_i64 (by omega))) ?_; intro w1 hown1 hgrow1)
      go_roundg (64 - (j + 1))
      case measure => omega
      case rel => exact ⟨j + 1, by omega, rfl, by go_num, by rw [vMap_succ]; exact hown1, hb.grown hgrow1 hb.size (fun j hj => by cases hj; exact Nat.le_refl _)⟩
    · obtain rfl : j = 64 := by omega
      go_wp2_with fail
      go_ret
      exact ⟨rfl, hown, hb⟩

end Go.Proofs.YtohmdledkhgdaaaGreatDoor
/- Walks of base64.data and base64.Decode. -/
namespace Go.Proofs.YtohmdledkhgdaaaGreatDoor
open Go.RowKit Go.Maps
set_option linter.unusedVariables false
set_option maxRecDepth 100000

/-- 's[i]' as a number. -/
theorem idx_str {P : Program} (t : TypeId) (ht : P.underlying t = some .string) (s : ByteArray) (k : IntKind) (i : Int) (j : Nat) (hi : i = j) (hj : j < s.size) (w : World) :
    (Instr.index t (.string s) (.int k i)).run P w = .ok (.int .u8 (((bs s).getD j 0 : Nat) : Int)) w := by
  subst hi
  rw [run_index_string w t s _ _ ht, dif_pos ⟨by omega, by omega⟩, bs_getD s j hj]
  rfl
theorem int_eq {a b : Int} (h : a = b) : (a == b) = true := by rw [h]; exact beq_self_eq_true b
theorem int_ne {a b : Int} (h : ¬ a = b) : (a == b) = false := beq_eq_false_iff_ne.2 h
theorem int_neq {a b : Int} (h : ¬ a = b) : (a != b) = true := bne_iff_ne.2 h
theorem int_nneq {a b : Int} (h : a = b) : (a != b) = false := by rw [h]; simp

theorem data_any (s : ByteArray) (w : World) (hs : s.size ≤ maxLen) :
    Calls Tryz.prog 233 #[.string s] w fun e w' => e = .returned (.int .i64 (dataF (bs s) : Nat)) ∧ w = w' := by
  unfold maxLen at hs
  by_cases h0 : s.size = 0
  · have hf : dataF (bs s) = 0 := by unfold dataF; rw [if_pos (by rw [bs_length]; exact .inl h0), bs_length, h0]
    rw [hf]
    have h0' : ((s.size : Int) == 0) = true := int_eq (by omega)
    clear hf
    go_enter Tryz.func233, Tryz.ntmps233
    go_wp2_with fail
    go_ret
    exact ⟨rfl, rfl⟩
  · have h0' : ((s.size : Int) == 0) = false := int_ne (by omega)
    by_cases h4 : s.size % 4 = 0
    · have h4' : ((s.size : Int) % 4 != 0) = false := int_nneq (by omega)
      obtain ⟨c1, hc1⟩ : ∃ c1, c1 = (bs s).getD (s.size - 1) 0 := ⟨_, rfl⟩
      obtain ⟨c2, hc2⟩ : ∃ c2, c2 = (bs s).getD (s.size - 2) 0 := ⟨_, rfl⟩
      have hx : ∀ w, (Instr.index 9 (.string s) (.int .i64 ((s.size : Int) - 1))).run Tryz.prog w = .ok (.int .u8 (c1 : Int)) w := fun w => by
        rw [idx_str 9 Tryz.underlying9 s .i64 ((s.size : Int) - 1) (s.size - 1) (by omega) (by omega), hc1]
      have hx2 : ∀ w, (Instr.index 9 (.string s) (.int .i64 ((s.size : Int) - 2))).run Tryz.prog w = .ok (.int .u8 (c2 : Int)) w := fun w => by
        rw [idx_str 9 Tryz.underlying9 s .i64 ((s.size : Int) - 2) (s.size - 2) (by omega) (by omega), hc2]
      by_cases hl : c1 = 61
      · have hl' : ((c1 : Int) != 61) = false := int_nneq (by omega)
        by_cases hm : c2 = 61
        · have hf : dataF (bs s) = s.size - 2 := by unfold dataF; rw [if_neg (by rw [bs_length, ← hc1]; omega), if_pos (by rw [bs_length, ← hc2]; exact hm), bs_length]
          rw [hf]
          have hm' : ((c2 : Int) == 61) = true := int_eq (by omega)
          clear hf hc1 hc2 hl hm
          go_enter Tryz.func233, Tryz.ntmps233
          go_wp2_with fail
          go_ret
          refine ⟨?_, rfl⟩
          simp; omega
        · have hf : dataF (bs s) = s.size - 1 := by unfold dataF; rw [if_neg (by rw [bs_length, ← hc1]; omega), if_neg (by rw [bs_length, ← hc2]; exact hm), bs_length]
          rw [hf]
          have hm' : ((c2 : Int) == 61) = false := int_ne (by omega)
          clear hf hc1 hc2 hl hm
          go_enter Tryz.func233, Tryz.ntmps233
          go_wp2_with fail
          go_ret
          refine ⟨?_, rfl⟩
          simp; omega
      · have hf : dataF (bs s) = s.size := by unfold dataF; rw [if_pos (by rw [bs_length, ← hc1]; exact .inr (.inr hl)), bs_length]
        rw [hf]
        have hl' : ((c1 : Int) != 61) = true := int_neq (by omega)
        clear hf hc1 hc2 hl
        go_enter Tryz.func233, Tryz.ntmps233
        go_wp2_with fail
        go_ret
        exact ⟨rfl, rfl⟩
    · have h4' : ((s.size : Int) % 4 != 0) = true := int_neq (by omega)
      have hf : dataF (bs s) = s.size := by unfold dataF; rw [if_pos (by rw [bs_length]; exact .inr (.inl h4)), bs_length]
      rw [hf]
      clear hf
      go_enter Tryz.func233, Tryz.ntmps233
      go_wp2_with fail
      go_ret
      exact ⟨rfl, rfl⟩

end Go.Proofs.YtohmdledkhgdaaaGreatDoor
