/- Comparisons of identities and commands. -/
import Derived.Test.YtolhjijnbobphaaGreatDoorShape
namespace Go.Proofs.YtolhjijnbobphaaGreatDoor
open Go.RowKit Go.Maps
set_option linter.unusedVariables false
set_option maxRecDepth 100000

theorem mapM_some {α β : Type} (f : α → Option β) (g : α → β) : ∀ (L : List α), (∀ i ∈ L, f i = some (g i)) → L.mapM f = some (L.map g)
  | [], _ => rfl
  | x :: L, h => by
    rw [List.mapM_cons, h x (by simp), mapM_some f g L (fun i hi => h i (by simp [hi]))]
    rfl
theorem cells23 : Tryz.prog.cellsOf 23 = 32 := by kernel_rfl
theorem cells5 : Tryz.prog.cellsOf 5 = 1 := by kernel_rfl
theorem cells34 : Tryz.prog.cellsOf 31 = 39 := by kernel_rfl
theorem cells3 : Tryz.prog.cellsOf 3 = 1 := by kernel_rfl
theorem cells9 : Tryz.prog.cellsOf 9 = 1 := by kernel_rfl
theorem cells27 : Tryz.prog.cellsOf 29 = 1 := by kernel_rfl

def byteLits (l : List Nat) : List Lit := l.map fun n : Nat => Lit.int .u8 (n : Int)
theorem byteLits_inj {l m : List Nat} (h : byteLits l = byteLits m) : l = m := by
  unfold byteLits at h
  exact (List.map_inj_right (fun a b hab => by simp at hab; omega)).1 h

section
variable {P : Program} {d n : Nat} {t e : TypeId} {cs : List Value} {fs : Array Field} {q : IntKind}
theorem keyLits_array (hu : P.underlying t = some (.array n e)) : P.keyLits (d + 1) t cs = if cs.length = P.cellsOf t then ((List.range n).mapM fun i => P.keyLits d e ((cs.drop (i * P.cellsOf e)).take (P.cellsOf e))).map List.flatten else none := by
  rw [Program.keyLits.eq_def]; simp only [hu]
theorem keyLits_struct (hu : P.underlying t = some (.struct fs)) : P.keyLits (d + 1) t cs = if cs.length = P.cellsOf t ∧ fs.all (·.name != "_") = true then (fs.toList.mapM fun f => P.keyLits d f.type ((cs.drop f.offset).take (P.cellsOf f.type))).map List.flatten else none := by
  rw [Program.keyLits.eq_def]; simp only [hu]
theorem keyLits_int (hu : P.underlying t = some (.int q)) {m : Int} (hw : (Lit.int q m).wf = true) : P.keyLits (d + 1) t [.int q m] = some [.int q m] := by
  rw [Program.keyLits.eq_def]; simp only [hu, hw, and_self, if_true]
theorem keyLits_string (hu : P.underlying t = some .string) {x : ByteArray} (hw : x.size ≤ maxLen) : P.keyLits (d + 1) t [.string x] = some [.string x.data.toList] := by
  rw [Program.keyLits.eq_def]; simp only [hu, hw, if_true]
end

theorem lits_id (D : Nat) {l : List Nat} (h : IdOk l) : Tryz.prog.keyLits (D + 2) 23 (l.map U) = some (byteLits l) := by
  rw [keyLits_array Tryz.underlying23, if_pos (by rw [List.length_map, h.len, cells23])]
  rw [mapM_some _ (fun i => [Lit.int .u8 (l.getD i 0 : Int)])]
  · simp only [Option.map_some, Option.some.injEq]
    unfold byteLits
    have : (List.range 32).map (fun i => [Lit.int .u8 (l.getD i 0 : Int)]) = (l.map fun n : Nat => [Lit.int .u8 (n : Int)]) := by
      apply List.ext_getElem
      · simp [h.len]
      · intro i h1 h2
        simp at h1
        simp [List.getD, List.getElem?_eq_getElem (show i < l.length by rw [h.len]; exact h1)]
    rw [this]
    clear this h
    induction l with
    | nil => rfl
    | cons x l ih => simp [ih]
  · intro i hi
    have hi' : i < l.length := by rw [h.len]; exact List.mem_range.1 hi
    have hx := h.lt _ (List.getElem_mem hi')
    have e : ((l.map U).drop (i * Tryz.prog.cellsOf 5)).take (Tryz.prog.cellsOf 5) = [Value.int .u8 (l[i] : Int)] := by
      rw [cells5, Nat.mul_one, List.drop_eq_getElem_cons (by simpa using hi')]
      simp [U]
    rw [e, keyLits_int Tryz.underlying5 (by simp [Lit.wf, IntKind.min, IntKind.max, IntKind.signed, IntKind.bits]; omega)]
    simp [List.getD, List.getElem?_eq_getElem hi']

theorem eq_id (w : World) {l m : List Nat} (hl : IdOk l) (hm : IdOk m) : (Op.equal 23 (.agg (idA l)) (.agg (idA m))).run Tryz.prog w = .ok (decide (l = m)) w := by
  obtain ⟨r, hr, hiff⟩ := run_equalIn_deep (P := Tryz.prog) 9997 3 23 (by kernel_rfl) w 2 2 (.agg (idA l)) (.agg (idA m)) (byteLits l) (byteLits m) (by simp [Value.formed, Tryz.underlying23, cells23, idA_size, hl.len]) (by simp [Value.formed, Tryz.underlying23, cells23, idA_size, hm.len]) (lits_id 0 hl) (lits_id 0 hm)
  have e : r = decide (l = m) := by
    rw [Bool.eq_iff_iff, hiff, decide_eq_true_iff]
    exact ⟨byteLits_inj, fun e => by rw [e]⟩
  rw [← e]
  exact hr
theorem guard23 : Tryz.prog.eqGuardType Tryz.prog.depth 23 = false := by kernel_rfl
theorem guard34 : Tryz.prog.eqGuardType Tryz.prog.depth 31 = false := by kernel_rfl

/-- A command is equal to itself. -/
theorem eq_cmd (w : World) {l : List Nat} (hl : IdOk l) (v f : Int) (t : ByteArray) (hv : (Lit.int .i64 v).wf = true) (hf : (Lit.int .i64 f).wf = true) (ht : t.size ≤ maxLen) :
    (Op.equal 31 (.agg (cmdC v f l t)) (.agg (cmdC v f l t))).run Tryz.prog w = .ok true w := by
  have hk : ∃ L, Tryz.prog.keyLits 3 31 (cmdC v f l t).toList = some L := by
    have z : (Lit.int .i64 0).wf = true := by decide
    have d1 : ∀ k (xs ys : List Value), 34 + xs.length = k → ([.int .i64 0, .int .i64 f, .int .i64 0, .int .i64 0, .string t] : List Value) = xs ++ ys → (cmdC v f l t).toList.drop k = ys := by
      intro k xs ys hk he
      have hlen : (([.int .i64 v, .string ⟨#[]⟩] : List Value) ++ l.map U).length = 34 := by simp [hl.len]
      unfold cmdC
      rw [he, ← hk, ← hlen]
      simp only [← List.append_assoc]
      rw [← List.length_append, List.drop_left]
    have e0 : (cmdC v f l t).toList.drop 0 = .int .i64 v :: .string ⟨#[]⟩ :: (l.map U ++ ([.int .i64 0, .int .i64 f, .int .i64 0, .int .i64 0, .string t] : List Value)) := rfl
    have e1 : (cmdC v f l t).toList.drop 1 = .string ⟨#[]⟩ :: (l.map U ++ ([.int .i64 0, .int .i64 f, .int .i64 0, .int .i64 0, .string t] : List Value)) := rfl
    have e2 : ((cmdC v f l t).toList.drop 2).take 32 = l.map U := by
      show (l.map U ++ _).take 32 = _
      exact List.take_left' (by simp [hl.len])
    have e3 := d1 34 [] _ rfl rfl
    have e4 := d1 35 [_] _ rfl rfl
    have e5 := d1 36 [_, _] _ rfl rfl
    have e6 := d1 37 [_, _, _] _ rfl rfl
    have e7 := d1 38 [_, _, _, _] _ rfl rfl
    have k0 : ∀ (d : Nat) (m : Int) (r : List Value), (Lit.int .i64 m).wf = true → Tryz.prog.keyLits (d + 1) 3 (List.take 1 (.int .i64 m :: r)) = some [.int .i64 m] := fun d m r hw => keyLits_int Tryz.underlying3 hw
    have k1 : ∀ (d : Nat) (m : Int) (r : List Value), (Lit.int .i64 m).wf = true → Tryz.prog.keyLits (d + 1) 29 (List.take 1 (.int .i64 m :: r)) = some [.int .i64 m] := fun d m r hw => keyLits_int Tryz.underlying29 hw
    have k2 : ∀ (d : Nat) (x : ByteArray) (r : List Value), x.size ≤ maxLen → Tryz.prog.keyLits (d + 1) 9 (List.take 1 (.string x :: r)) = some [.string x.data.toList] := fun d m r hw => keyLits_string Tryz.underlying9 hw
    have l0 : (⟨#[]⟩ : ByteArray).size ≤ maxLen := Nat.zero_le _
    rw [keyLits_struct Tryz.underlying31, if_pos ⟨by rw [cells34, Array.length_toList, cmd_size hl.len], by simp⟩]
    simp only [List.mapM_cons, List.mapM_nil, cells3, cells9, cells23, cells27, e0, e1, e2, e3, e4, e5, e6, e7, k0 _ _ _ hv, k0 _ _ _ hf, k0 _ _ _ z, k1 _ _ _ z, k2 _ _ _ l0, k2 _ _ _ ht, lits_id 0 hl]
    exact ⟨_, rfl⟩
  obtain ⟨L, hL⟩ := hk
  obtain ⟨r, hr, hiff⟩ := run_equalIn_deep (P := Tryz.prog) 9996 4 31 (by kernel_rfl) w 3 3 (.agg (cmdC v f l t)) (.agg (cmdC v f l t)) L L (by simp [Value.formed, Tryz.underlying31, cells34, cmd_size hl.len]) (by simp [Value.formed, Tryz.underlying31, cells34, cmd_size hl.len]) hL hL
  rw [hiff.2 rfl] at hr
  exact hr

end Go.Proofs.YtolhjijnbobphaaGreatDoor
