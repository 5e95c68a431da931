/- The shapes of this seat: identities, commands, receivers, senders as cells; how they are built, read and compared. -/
import Derived.Test.YtolhjijnbobphaaGreatDoorAgg
namespace Go.Proofs.YtolhjijnbobphaaGreatDoor
open Go.RowKit Go.Maps
set_option linter.unusedVariables false
set_option maxRecDepth 100000

/-- An identity as cells. -/
def idA (l : List Nat) : Array Value := (l.map U).toArray
structure IdOk (l : List Nat) : Prop where
  len : l.length = 32
  lt : ∀ x ∈ l, x < 256
theorem idA_size (l : List Nat) : (idA l).size = l.length := by simp [idA]

/-- A command, as the program has it (name, size, count and code are zero). -/
def cmdC (v f : Int) (l : List Nat) (t : ByteArray) : Array Value := (([Value.int .i64 v, .string ⟨#[]⟩] : List Value) ++ l.map U ++ ([.int .i64 0, .int .i64 f, .int .i64 0, .int .i64 0, .string t] : List Value)).toArray
/-- A command of the reference. -/
def rcmC (v f : Int) (l : List Nat) (t : ByteArray) : Array Value := (([Value.int .i64 v] : List Value) ++ l.map U ++ ([.int .i64 f, .string t] : List Value)).toArray
/-- A receiver of the reference. -/
def rC (l : List Nat) (n : Int) (t : ByteArray) (d : Bool) : Array Value := (l.map U ++ ([.int .i64 n, .string t, .bool d] : List Value)).toArray
/-- A receiver of the program. -/
def rcvC (l : List Nat) (n : Int) (ad bv : Value) (d : Bool) : Array Value := (l.map U ++ ([.int .i64 n, ad, bv, .bool d] : List Value)).toArray
/-- A sender. -/
def sndC (l : List Nat) (t : ByteArray) (c s : Int) (d : Bool) : Array Value := (l.map U ++ ([.string t, .int .i64 c, .int .i64 s, .bool d] : List Value)).toArray

theorem at_right (xs ys : List Value) (n k : Nat) (h : xs.length = n) (hk : n ≤ k) : (xs ++ ys).toArray[k]? = ys[k - n]? := by
  subst h
  rw [List.getElem?_toArray, List.getElem?_append_right hk]
theorem at_mid (xs : List Value) (l : List Nat) (ys : List Value) (n : Nat) (h : xs.length = n) : ∀ j u, (idA l)[j]? = some u → (xs ++ l.map U ++ ys).toArray[n + j]? = some u := by
  intro j u hu
  subst h
  unfold idA at hu
  rw [List.getElem?_toArray] at hu ⊢
  have hj := (List.getElem?_eq_some_iff.1 hu).1
  rw [List.append_assoc, List.getElem?_append_right (by omega), Nat.add_sub_cancel_left, List.getElem?_append_left hj]
  exact hu

section
variable {l : List Nat}
theorem cmd_id (v f : Int) (t : ByteArray) : ∀ j u, (idA l)[j]? = some u → (cmdC v f l t)[2 + j]? = some u := at_mid _ _ _ _ rfl
theorem rcm_id (v f : Int) (t : ByteArray) : ∀ j u, (idA l)[j]? = some u → (rcmC v f l t)[1 + j]? = some u := at_mid _ _ _ _ rfl
theorem r_id (n : Int) (t : ByteArray) (d : Bool) : ∀ j u, (idA l)[j]? = some u → (rC l n t d)[0 + j]? = some u := by
  have := at_mid [] l [.int .i64 n, .string t, .bool d] 0 rfl
  simpa [rC] using this
theorem rcv_id (n : Int) (ad bv : Value) (d : Bool) : ∀ j u, (idA l)[j]? = some u → (rcvC l n ad bv d)[0 + j]? = some u := by
  have := at_mid [] l [.int .i64 n, ad, bv, .bool d] 0 rfl
  simpa [rcvC] using this
theorem snd_id (t : ByteArray) (c s : Int) (d : Bool) : ∀ j u, (idA l)[j]? = some u → (sndC l t c s d)[0 + j]? = some u := by
  have := at_mid [] l [.string t, .int .i64 c, .int .i64 s, .bool d] 0 rfl
  simpa [sndC] using this
end
section
variable {l : List Nat} (h : l.length = 32)
include h
theorem cmd_size (v f : Int) (t : ByteArray) : (cmdC v f l t).size = 39 := by simp [cmdC, h]
theorem rcm_size (v f : Int) (t : ByteArray) : (rcmC v f l t).size = 35 := by simp [rcmC, h]
theorem r_size (n : Int) (t : ByteArray) (d : Bool) : (rC l n t d).size = 35 := by simp [rC, h]
theorem rcv_size (n : Int) (ad bv : Value) (d : Bool) : (rcvC l n ad bv d).size = 36 := by simp [rcvC, h]
theorem snd_size (t : ByteArray) (c s : Int) (d : Bool) : (sndC l t c s d).size = 36 := by simp [sndC, h]
theorem cmd_at (v f : Int) (t : ByteArray) : (cmdC v f l t)[0]? = some (.int .i64 v) ∧ (cmdC v f l t)[35]? = some (.int .i64 f) ∧ (cmdC v f l t)[38]? = some (.string t) :=
  ⟨rfl, at_right _ _ 34 35 (by simp [h]) (by omega), at_right _ _ 34 38 (by simp [h]) (by omega)⟩
theorem rcm_at (v f : Int) (t : ByteArray) : (rcmC v f l t)[0]? = some (.int .i64 v) ∧ (rcmC v f l t)[33]? = some (.int .i64 f) ∧ (rcmC v f l t)[34]? = some (.string t) :=
  ⟨rfl, at_right _ _ 33 33 (by simp [h]) (by omega), at_right _ _ 33 34 (by simp [h]) (by omega)⟩
theorem r_at (n : Int) (t : ByteArray) (d : Bool) : (rC l n t d)[32]? = some (.int .i64 n) ∧ (rC l n t d)[33]? = some (.string t) ∧ (rC l n t d)[34]? = some (.bool d) :=
  ⟨at_right _ _ 32 32 (by simp [h]) (by omega), at_right _ _ 32 33 (by simp [h]) (by omega), at_right _ _ 32 34 (by simp [h]) (by omega)⟩
theorem rcv_at (n : Int) (ad bv : Value) (d : Bool) : (rcvC l n ad bv d)[32]? = some (.int .i64 n) ∧ (rcvC l n ad bv d)[33]? = some ad ∧ (rcvC l n ad bv d)[34]? = some bv ∧ (rcvC l n ad bv d)[35]? = some (.bool d) :=
  ⟨at_right _ _ 32 32 (by simp [h]) (by omega), at_right _ _ 32 33 (by simp [h]) (by omega), at_right _ _ 32 34 (by simp [h]) (by omega), at_right _ _ 32 35 (by simp [h]) (by omega)⟩
theorem snd_at (t : ByteArray) (c s : Int) (d : Bool) : (sndC l t c s d)[32]? = some (.string t) ∧ (sndC l t c s d)[33]? = some (.int .i64 c) ∧ (sndC l t c s d)[34]? = some (.int .i64 s) ∧ (sndC l t c s d)[35]? = some (.bool d) :=
  ⟨at_right _ _ 32 32 (by simp [h]) (by omega), at_right _ _ 32 33 (by simp [h]) (by omega), at_right _ _ 32 34 (by simp [h]) (by omega), at_right _ _ 32 35 (by simp [h]) (by omega)⟩
end

theorem size23 : (Tryz.prog.info? 23).map (·.size) = some 32 := by kernel_rfl
theorem size34 : (Tryz.prog.info? 31).map (·.size) = some 39 := by kernel_rfl
theorem size31 : (Tryz.prog.info? 25).map (·.size) = some 35 := by kernel_rfl
/-- The id out of a block of any of the shapes. -/
theorem load_id (w : World) (g off : Nat) (t : TypeId) (cs : Array Value) (fr : Nat × Nat) {l : List Nat} (h : l.length = 32) (hg : w.heap[g]? = some (.cells cs t fr)) (hp : ∀ j u, (idA l)[j]? = some u → cs[off + j]? = some u) :
    (loadVar 23 ⟨g, off, none⟩).run Tryz.prog w = .ok (.agg (idA l)) w :=
  run_loadVar_part w g off t 23 cs (idA l) fr _ hg Tryz.underlying23 rfl (by rw [idA_size, h]; exact size23) hp

/-- Builds. -/
def z32 : List Value := List.replicate 32 (.int .u8 0)
theorem splice_at (xs ys zs : List Value) (vs : Array Value) (n : Nat) (h1 : xs.length = n) (h2 : ys.length = vs.size) : splice (xs ++ ys ++ zs).toArray n vs = (xs ++ vs.toList ++ zs).toArray := by
  subst h1
  unfold splice
  have e1 : (xs ++ ys ++ zs).take xs.length = xs := by rw [List.append_assoc, List.take_left]
  have e2 : (xs ++ ys ++ zs).drop (xs.length + vs.size) = zs := by rw [← h2, ← List.length_append, List.drop_left]
  simp only [e1, e2]
theorem splice_tail (X A B C : List Value) (vs : Array Value) (n : Nat) (h1 : (X ++ A).length = n) (h2 : B.length = vs.size) : splice (X ++ (A ++ B ++ C)).toArray n vs = (X ++ (A ++ vs.toList ++ C)).toArray := by
  have := splice_at (X ++ A) B C vs n h1 h2
  simp only [List.append_assoc] at this ⊢
  exact this

theorem fill_to {place : Nat → Option (Nat × Nat)} {cs cs' r : Array Value} {i off size : Nat} {v : Value} {rest : List (Nat × Value)} (hp : place i = some (off, size)) (hs : v.cells.size = size) (hl : off + size ≤ cs.size)
    (he : splice cs off v.cells = cs') (hr : Instr.fill place cs' rest = some r) : Instr.fill place cs ((i, v) :: rest) = some r := by rw [fill_step hp hs hl, he]; exact hr

theorem zero67 (w : World) : (zeroValue 54).run Tryz.prog w = .ok (.agg (z32 ++ ([.int .i64 0, .pointer none, .slice none 0 0, .bool false] : List Value)).toArray) w := by kernel_rfl
theorem zero34 (w : World) : (zeroValue 31).run Tryz.prog w = .ok (.agg (([.int .i64 0, .string ⟨#[]⟩] : List Value) ++ z32 ++ ([.int .i64 0, .int .i64 0, .int .i64 0, .int .i64 0, .string ⟨#[]⟩] : List Value)).toArray) w := by kernel_rfl
theorem zero31 (w : World) : (zeroValue 25).run Tryz.prog w = .ok (.agg (([.int .i64 0] : List Value) ++ z32 ++ ([.int .i64 0, .string ⟨#[]⟩] : List Value)).toArray) w := by kernel_rfl
theorem zero76 (w : World) : (zeroValue 48).run Tryz.prog w = .ok (.agg (z32 ++ ([.string ⟨#[]⟩, .int .i64 0, .int .i64 0, .bool false] : List Value)).toArray) w := by kernel_rfl

section
variable (w : World) {l : List Nat} (h : l.length = 32)
include h
theorem idA_len : z32.length = (idA l).size := by simp [z32, idA, h]

theorem build_cmd (v f : Int) (t : ByteArray) :
    (Instr.build 31 #[(0, .int .i64 v), (2, .agg (idA l)), (4, .int .i64 f), (7, .string t)]).run Tryz.prog w = .ok (.agg (cmdC v f l t)) w := by
  refine run_build_struct w _ _ _ _ #[(0, 1), (1, 1), (2, 32), (34, 1), (35, 1), (36, 1), (37, 1), (38, 1)] _ (zero34 w) Tryz.underlying31 (by kernel_rfl) ?_
  show Instr.fill _ _ [((0 : Nat), (.int .i64 v : Value)), (2, .agg (idA l)), (4, .int .i64 f), (7, .string t)] = _
  refine fill_to (off := 0) (size := 1) rfl rfl (by simp [z32]) (splice_at ([] : List Value) ([.int .i64 0] : List Value) (([.string ⟨#[]⟩] : List Value) ++ z32 ++ ([.int .i64 0, .int .i64 0, .int .i64 0, .int .i64 0, .string ⟨#[]⟩] : List Value)) #[Value.int .i64 v] 0 rfl rfl) ?_
  refine fill_to (off := 2) (size := 32) rfl (by show (idA l).size = 32; simp [idA, h]) (by simp [z32]) (splice_at ([.int .i64 v, .string ⟨#[]⟩] : List Value) z32 ([.int .i64 0, .int .i64 0, .int .i64 0, .int .i64 0, .string ⟨#[]⟩] : List Value) (idA l) 2 rfl (idA_len h)) ?_
  refine fill_to (off := 35) (size := 1) rfl rfl (by simp [idA, h]) (splice_tail (([.int .i64 v, .string ⟨#[]⟩] : List Value) ++ l.map U) ([.int .i64 0] : List Value) ([.int .i64 0] : List Value) ([.int .i64 0, .int .i64 0, .string ⟨#[]⟩] : List Value) #[Value.int .i64 f] 35 (by simp [h]) rfl) ?_
  refine fill_to (off := 38) (size := 1) rfl rfl (by simp [h]) (splice_tail (([.int .i64 v, .string ⟨#[]⟩] : List Value) ++ l.map U) ([.int .i64 0, .int .i64 f, .int .i64 0, .int .i64 0] : List Value) ([.string ⟨#[]⟩] : List Value) ([] : List Value) #[Value.string t] 38 (by simp [h]) rfl) ?_
  rfl
theorem build_cmd2 (v : Int) :
    (Instr.build 31 #[(0, .int .i64 v), (2, .agg (idA l))]).run Tryz.prog w = .ok (.agg (cmdC v 0 l ⟨#[]⟩)) w := by
  refine run_build_struct w _ _ _ _ #[(0, 1), (1, 1), (2, 32), (34, 1), (35, 1), (36, 1), (37, 1), (38, 1)] _ (zero34 w) Tryz.underlying31 (by kernel_rfl) ?_
  show Instr.fill _ _ [((0 : Nat), (.int .i64 v : Value)), (2, .agg (idA l))] = _
  refine fill_to (off := 0) (size := 1) rfl rfl (by simp [z32]) (splice_at ([] : List Value) ([.int .i64 0] : List Value) (([.string ⟨#[]⟩] : List Value) ++ z32 ++ ([.int .i64 0, .int .i64 0, .int .i64 0, .int .i64 0, .string ⟨#[]⟩] : List Value)) #[Value.int .i64 v] 0 rfl rfl) ?_
  refine fill_to (off := 2) (size := 32) rfl (by show (idA l).size = 32; simp [idA, h]) (by simp [z32]) (splice_at ([.int .i64 v, .string ⟨#[]⟩] : List Value) z32 ([.int .i64 0, .int .i64 0, .int .i64 0, .int .i64 0, .string ⟨#[]⟩] : List Value) (idA l) 2 rfl (idA_len h)) ?_
  rfl
theorem build_rcm (v f : Int) (t : ByteArray) :
    (Instr.build 25 #[(0, .int .i64 v), (1, .agg (idA l)), (2, .int .i64 f), (3, .string t)]).run Tryz.prog w = .ok (.agg (rcmC v f l t)) w := by
  refine run_build_struct w _ _ _ _ #[(0, 1), (1, 32), (33, 1), (34, 1)] _ (zero31 w) Tryz.underlying25 (by kernel_rfl) ?_
  show Instr.fill _ _ [((0 : Nat), (.int .i64 v : Value)), (1, .agg (idA l)), (2, .int .i64 f), (3, .string t)] = _
  refine fill_to (off := 0) (size := 1) rfl rfl (by simp [z32]) (splice_at ([] : List Value) ([.int .i64 0] : List Value) (([] : List Value) ++ z32 ++ ([.int .i64 0, .string ⟨#[]⟩] : List Value)) #[Value.int .i64 v] 0 rfl rfl) ?_
  refine fill_to (off := 1) (size := 32) rfl (by show (idA l).size = 32; simp [idA, h]) (by simp [z32]) (splice_at ([.int .i64 v] : List Value) z32 ([.int .i64 0, .string ⟨#[]⟩] : List Value) (idA l) 1 rfl (idA_len h)) ?_
  refine fill_to (off := 33) (size := 1) rfl rfl (by simp [idA, h]) (splice_tail (([.int .i64 v] : List Value) ++ l.map U) ([] : List Value) ([.int .i64 0] : List Value) ([.string ⟨#[]⟩] : List Value) #[Value.int .i64 f] 33 (by simp [h]) rfl) ?_
  refine fill_to (off := 34) (size := 1) rfl rfl (by simp [h]) (splice_tail (([.int .i64 v] : List Value) ++ l.map U) ([.int .i64 f] : List Value) ([.string ⟨#[]⟩] : List Value) ([] : List Value) #[Value.string t] 34 (by simp [h]) rfl) ?_
  rfl
theorem build_rcm3 (v : Int) (t : ByteArray) :
    (Instr.build 25 #[(0, .int .i64 v), (1, .agg (idA l)), (3, .string t)]).run Tryz.prog w = .ok (.agg (rcmC v 0 l t)) w := by
  refine run_build_struct w _ _ _ _ #[(0, 1), (1, 32), (33, 1), (34, 1)] _ (zero31 w) Tryz.underlying25 (by kernel_rfl) ?_
  show Instr.fill _ _ [((0 : Nat), (.int .i64 v : Value)), (1, .agg (idA l)), (3, .string t)] = _
  refine fill_to (off := 0) (size := 1) rfl rfl (by simp [z32]) (splice_at ([] : List Value) ([.int .i64 0] : List Value) (([] : List Value) ++ z32 ++ ([.int .i64 0, .string ⟨#[]⟩] : List Value)) #[Value.int .i64 v] 0 rfl rfl) ?_
  refine fill_to (off := 1) (size := 32) rfl (by show (idA l).size = 32; simp [idA, h]) (by simp [z32]) (splice_at ([.int .i64 v] : List Value) z32 ([.int .i64 0, .string ⟨#[]⟩] : List Value) (idA l) 1 rfl (idA_len h)) ?_
  refine fill_to (off := 34) (size := 1) rfl rfl (by simp [idA, h]) (splice_tail (([.int .i64 v] : List Value) ++ l.map U) ([.int .i64 0] : List Value) ([.string ⟨#[]⟩] : List Value) ([] : List Value) #[Value.string t] 34 (by simp [h]) rfl) ?_
  rfl
theorem build_rcm2 (v : Int) :
    (Instr.build 25 #[(0, .int .i64 v), (1, .agg (idA l))]).run Tryz.prog w = .ok (.agg (rcmC v 0 l ⟨#[]⟩)) w := by
  refine run_build_struct w _ _ _ _ #[(0, 1), (1, 32), (33, 1), (34, 1)] _ (zero31 w) Tryz.underlying25 (by kernel_rfl) ?_
  show Instr.fill _ _ [((0 : Nat), (.int .i64 v : Value)), (1, .agg (idA l))] = _
  refine fill_to (off := 0) (size := 1) rfl rfl (by simp [z32]) (splice_at ([] : List Value) ([.int .i64 0] : List Value) (([] : List Value) ++ z32 ++ ([.int .i64 0, .string ⟨#[]⟩] : List Value)) #[Value.int .i64 v] 0 rfl rfl) ?_
  refine fill_to (off := 1) (size := 32) rfl (by show (idA l).size = 32; simp [idA, h]) (by simp [z32]) (splice_at ([.int .i64 v] : List Value) z32 ([.int .i64 0, .string ⟨#[]⟩] : List Value) (idA l) 1 rfl (idA_len h)) ?_
  rfl
theorem build_rcv (n : Int) :
    (Instr.build 54 #[(0, .agg (idA l)), (1, .int .i64 n)]).run Tryz.prog w = .ok (.agg (rcvC l n (.pointer none) (.slice none 0 0) false)) w := by
  refine run_build_struct w _ _ _ _ #[(0, 32), (32, 1), (33, 2), (35, 1)] _ (zero67 w) Tryz.underlying54 (by kernel_rfl) ?_
  show Instr.fill _ _ [((0 : Nat), (.agg (idA l) : Value)), (1, .int .i64 n)] = _
  refine fill_to (off := 0) (size := 32) rfl (by show (idA l).size = 32; simp [idA, h]) (by simp [z32]) (splice_at ([] : List Value) z32 ([.int .i64 0, .pointer none, .slice none 0 0, .bool false] : List Value) (idA l) 0 rfl (idA_len h)) ?_
  refine fill_to (off := 32) (size := 1) rfl rfl (by simp [idA, h]) (splice_tail (([] : List Value) ++ l.map U) ([] : List Value) ([.int .i64 0] : List Value) ([.pointer none, .slice none 0 0, .bool false] : List Value) #[Value.int .i64 n] 32 (by simp [h]) rfl) ?_
  rfl
theorem build_rcv3 (n : Int) (d : Bool) :
    (Instr.build 54 #[(0, .agg (idA l)), (1, .int .i64 n), (3, .bool d)]).run Tryz.prog w = .ok (.agg (rcvC l n (.pointer none) (.slice none 0 0) d)) w := by
  refine run_build_struct w _ _ _ _ #[(0, 32), (32, 1), (33, 2), (35, 1)] _ (zero67 w) Tryz.underlying54 (by kernel_rfl) ?_
  show Instr.fill _ _ [((0 : Nat), (.agg (idA l) : Value)), (1, .int .i64 n), (3, .bool d)] = _
  refine fill_to (off := 0) (size := 32) rfl (by show (idA l).size = 32; simp [idA, h]) (by simp [z32]) (splice_at ([] : List Value) z32 ([.int .i64 0, .pointer none, .slice none 0 0, .bool false] : List Value) (idA l) 0 rfl (idA_len h)) ?_
  refine fill_to (off := 32) (size := 1) rfl rfl (by simp [idA, h]) (splice_tail (([] : List Value) ++ l.map U) ([] : List Value) ([.int .i64 0] : List Value) ([.pointer none, .slice none 0 0, .bool false] : List Value) #[Value.int .i64 n] 32 (by simp [h]) rfl) ?_
  refine fill_to (off := 35) (size := 1) rfl rfl (by simp [h]) (splice_tail (([] : List Value) ++ l.map U) ([.int .i64 n, .pointer none, .slice none 0 0] : List Value) ([.bool false] : List Value) ([] : List Value) #[Value.bool d] 35 (by simp [h]) rfl) ?_
  rfl
theorem build_snd (t : ByteArray) (c s : Int) :
    (Instr.build 48 #[(0, .agg (idA l)), (1, .string t), (2, .int .i64 c), (3, .int .i64 s)]).run Tryz.prog w = .ok (.agg (sndC l t c s false)) w := by
  refine run_build_struct w _ _ _ _ #[(0, 32), (32, 1), (33, 1), (34, 1), (35, 1)] _ (zero76 w) Tryz.underlying48 (by kernel_rfl) ?_
  show Instr.fill _ _ [((0 : Nat), (.agg (idA l) : Value)), (1, .string t), (2, .int .i64 c), (3, .int .i64 s)] = _
  refine fill_to (off := 0) (size := 32) rfl (by show (idA l).size = 32; simp [idA, h]) (by simp [z32]) (splice_at ([] : List Value) z32 ([.string ⟨#[]⟩, .int .i64 0, .int .i64 0, .bool false] : List Value) (idA l) 0 rfl (idA_len h)) ?_
  refine fill_to (off := 32) (size := 1) rfl rfl (by simp [idA, h]) (splice_tail (([] : List Value) ++ l.map U) ([] : List Value) ([.string ⟨#[]⟩] : List Value) ([.int .i64 0, .int .i64 0, .bool false] : List Value) #[Value.string t] 32 (by simp [h]) rfl) ?_
  refine fill_to (off := 33) (size := 1) rfl rfl (by simp [h]) (splice_tail (([] : List Value) ++ l.map U) ([.string t] : List Value) ([.int .i64 0] : List Value) ([.int .i64 0, .bool false] : List Value) #[Value.int .i64 c] 33 (by simp [h]) rfl) ?_
  refine fill_to (off := 34) (size := 1) rfl rfl (by simp [h]) (splice_tail (([] : List Value) ++ l.map U) ([.string t, .int .i64 c] : List Value) ([.int .i64 0] : List Value) ([.bool false] : List Value) #[Value.int .i64 s] 34 (by simp [h]) rfl) ?_
  rfl
end
theorem build_cmd0 (w : World) : (Instr.build 31 #[]).run Tryz.prog w = .ok (.agg (cmdC 0 0 (List.replicate 32 0) ⟨#[]⟩)) w := by kernel_rfl
theorem build_id1 (w : World) : (Instr.build 23 #[(0, .int .u8 1)]).run Tryz.prog w = .ok (.agg (idA (1 :: List.replicate 31 0))) w := by kernel_rfl
end Go.Proofs.YtolhjijnbobphaaGreatDoor
