/- canonical.Equal (printed by gen_ceq.py). -/
import Derived.Test.YtohmdledkhgdaaaGreatDoorCi28
namespace Go.Proofs.YtohmdledkhgdaaaGreatDoor
open Go.RowKit
set_option linter.unusedVariables false
set_option maxRecDepth 100000

theorem wpList_runG {P : Program} {ops : Array Oper} {rest : List Oper} {o : Oper} {a : Act} {w w' : World} {Q : Exit → Act → World → Prop} {v : Value} (hw : Region.wanted o (yielded ops a.tmps) = true) (h : (execOp a.eval o).run P w = .ok (.value v) w') (hk : wpList P ops Q rest (a.put o.dst v) w') : wpList P ops Q (o :: rest) a w := by
  refine wpList_step fun K hK => ?_
  rw [if_pos hw]
  unfold Oper.wp
  rw [h]
  exact hK _ _ hk
theorem wpList_eqlG {P : Program} {ops : Array Oper} {rest : List Oper} {o : Oper} {a : Act} {w : World} {Q : Exit → Act → World → Prop} (t : TypeId) {t' : TypeId} (x y : Operand) (ho : o.op = .binOp .eql t x y t') (hw : Region.wanted o (yielded ops a.tmps) = true) (hm : P.eqGuardType P.depth t = false)
    (h : ∃ xs ys r, a.eval x = .agg xs ∧ a.eval y = .agg ys ∧ (Op.equal t (.agg xs) (.agg ys)).run P w = .ok r w ∧ wpList P ops Q rest (a.put o.dst (.bool r)) w) : wpList P ops Q (o :: rest) a w := by
  obtain ⟨xs, ys, r, h1, h2, h3, h4⟩ := h
  exact wpList_runG hw (exec_eql ho h1 h2 hm h3) h4
theorem wpList_neqG {P : Program} {ops : Array Oper} {rest : List Oper} {o : Oper} {a : Act} {w : World} {Q : Exit → Act → World → Prop} (t : TypeId) {t' : TypeId} (x y : Operand) (ho : o.op = .binOp .neq t x y t') (hw : Region.wanted o (yielded ops a.tmps) = true) (hm : P.eqGuardType P.depth t = false)
    (h : ∃ xs ys r, a.eval x = .agg xs ∧ a.eval y = .agg ys ∧ (Op.equal t (.agg xs) (.agg ys)).run P w = .ok r w ∧ wpList P ops Q rest (a.put o.dst (.bool !r)) w) : wpList P ops Q (o :: rest) a w := by
  obtain ⟨xs, ys, r, h1, h2, h3, h4⟩ := h
  exact wpList_runG hw (exec_neq ho h1 h2 hm h3) h4
theorem wpList_loadG {P : Program} {ops : Array Oper} {rest : List Oper} {o : Oper} {a : Act} {w : World} {Q : Exit → Act → World → Prop} (ty : TypeId) (x : Operand) (ho : o.op = .load ty x) (hw : Region.wanted o (yielded ops a.tmps) = true) (h : ∃ ad v, a.eval x = .pointer (some ad) ∧ (loadVar ty ad).run P w = .ok v w ∧ wpList P ops Q rest (a.put o.dst v) w) : wpList P ops Q (o :: rest) a w := by
  obtain ⟨ad, v, h1, h2, h3⟩ := h
  exact wpList_runG hw (exec_load ho h1 h2) h3
theorem toList_eq {x y : ByteArray} (h : x = y) : (x.toList == y.toList) = true := by rw [h]; exact beq_self_eq_true _
theorem toList_ne {x y : ByteArray} (h : ¬ x = y) : (x.toList == y.toList) = false := by
  rw [beq_eq_false_iff_ne, ByteArray.toList_eq, ByteArray.toList_eq]
  exact fun e => h (ByteArray.ext (Array.toList_inj.1 e))
theorem int_beq {x y : Int} (h : x = y) : (x == y) = true := by rw [h]; exact beq_self_eq_true _
theorem int_bne {x y : Int} (h : ¬ x = y) : (x == y) = false := beq_eq_false_iff_ne.2 h
theorem dr_tr {u v w : World} (h : Dr u v) (h' : Dr v w) : Dr u w := by
  obtain ⟨p, rfl⟩ := h
  obtain ⟨q, rfl⟩ := h'
  exact ⟨p + q, drewN_drewN _ _ _⟩
theorem list_bs {l m : List ByteArray} (h : l.map bs = m.map bs) : l = m := by
  have := congrArg (List.map strN) h
  simpa [Function.comp_def, strN_bs] using this
set_option maxHeartbeats 4000000 in
theorem cequal_any (w : World) (a b : Cn) (ga ra gb rb : Value) (ha : CnIn w a ga ra) (hb : CnIn w b gb rb) :
    Calls Tryz.prog 12 #[.agg (a.cells ga ra), .agg (b.cells gb rb)] w fun e w' => e = .returned (.bool (decide (a.p = b.p))) ∧ Below w.heap.size w w' := by
  obtain ⟨w0, hw0⟩ : ∃ w0, w0 = (w.alloc (.cells (a.cells ga ra) 37)).alloc (.cells (b.cells gb rb) 37) := ⟨_, rfl⟩
  have B0 : Hid (Below w.heap.size w w0) := Lib.hid (by rw [hw0]; exact ((Below.refl _ _).alloc (Nat.le_refl _) _).alloc (by simp) _)
  have CA : Hid (∀ wx, Dr w0 wx → CB wx w.heap.size a ga ra 37) := Lib.hid (fun wx hd => by
    have : CB w0 w.heap.size a ga ra 37 := by unfold CB; rw [hw0]; exact alloc_block (heap_alloc_last w _)
    exact this.on (Dr.below hd))
  have CC : Hid (∀ wx, Dr w0 wx → CB wx (w.heap.size + 1) b gb rb 37) := Lib.hid (fun wx hd => by
    have : CB w0 (w.heap.size + 1) b gb rb 37 := by
      unfold CB; rw [hw0]; have := heap_alloc_last (w.alloc (.cells (a.cells ga ra) 37)) (.cells (b.cells gb rb) 37); rw [World.size_alloc] at this; exact this
    exact this.on (Dr.below hd))
  have SE : Hid (∀ wx, Dr w0 wx → Calls Tryz.prog 28 #[ga, gb] wx fun e w' => e = .returned (.bool (decide (a.groups = b.groups))) ∧ Dr wx w') := Lib.hid (fun wx hd => by
    have hB : Below w.heap.size w wx := B0.out.trans ((Dr.below hd).mono B0.out.size)
    exact seq_any wx ga gb _ _ (ha.srow.below hB) (hb.srow.below hB) ha.gl hb.gl)
  have IE : Hid (∀ wx, Dr w0 wx → Calls Tryz.prog 29 #[ra, rb] wx fun e w' => e = .returned (.bool (decide (a.refs = b.refs))) ∧ Dr wx w') := Lib.hid (fun wx hd => by
    have hB : Below w.heap.size w wx := B0.out.trans ((Dr.below hd).mono B0.out.size)
    exact ideq_any wx ra rb _ _ (ha.irow.below hB) (hb.irow.below hB) ha.rl hb.rl ha.ok.refs hb.ok.refs)
  have OA := Lib.hid ha.ok; have OB := Lib.hid hb.ok
  obtain ⟨aa, haa⟩ : ∃ x, x = idA a.author := ⟨_, rfl⟩
  obtain ⟨ab, hab⟩ : ∃ x, x = idA b.author := ⟨_, rfl⟩
  obtain ⟨sa, hsa⟩ : ∃ x, x = idA a.sup := ⟨_, rfl⟩
  obtain ⟨sb, hsb⟩ : ∃ x, x = idA b.sup := ⟨_, rfl⟩
  obtain ⟨pa, hpa⟩ : ∃ x, x = pkC a.height a.root := ⟨_, rfl⟩
  obtain ⟨pb, hpb⟩ : ∃ x, x = pkC b.height b.root := ⟨_, rfl⟩
  have LAA : Hid (∀ wx, Dr w0 wx → (loadVar 33 ⟨w.heap.size, 1, none⟩).run Tryz.prog wx = .ok (.agg aa) wx) := Lib.hid (fun wx hd => by rw [haa]; exact CB.author (CA.out wx hd) OA.out)
  have LAB : Hid (∀ wx, Dr w0 wx → (loadVar 33 ⟨w.heap.size + 1, 1, none⟩).run Tryz.prog wx = .ok (.agg ab) wx) := Lib.hid (fun wx hd => by rw [hab]; exact CB.author (CC.out wx hd) OB.out)
  have LSA : Hid (∀ wx, Dr w0 wx → (loadVar 26 ⟨w.heap.size, 21, none⟩).run Tryz.prog wx = .ok (.agg sa) wx) := Lib.hid (fun wx hd => by rw [hsa]; exact CB.sup (CA.out wx hd) OA.out)
  have LSB : Hid (∀ wx, Dr w0 wx → (loadVar 26 ⟨w.heap.size + 1, 21, none⟩).run Tryz.prog wx = .ok (.agg sb) wx) := Lib.hid (fun wx hd => by rw [hsb]; exact CB.sup (CC.out wx hd) OB.out)
  have LPA : Hid (∀ wx, Dr w0 wx → (loadVar 35 ⟨w.heap.size, 56, none⟩).run Tryz.prog wx = .ok (.agg pa) wx) := Lib.hid (fun wx hd => by rw [hpa]; exact CB.pk (CA.out wx hd) OA.out)
  have LPB : Hid (∀ wx, Dr w0 wx → (loadVar 35 ⟨w.heap.size + 1, 56, none⟩).run Tryz.prog wx = .ok (.agg pb) wx) := Lib.hid (fun wx hd => by rw [hpb]; exact CB.pk (CC.out wx hd) OB.out)
  have EA : Hid (∀ w, (Op.equal 33 (.agg aa) (.agg ab)).run Tryz.prog w = .ok (decide (a.author = b.author)) w) := Lib.hid (fun w => by rw [haa, hab]; exact eq_author w OA.out.author OB.out.author)
  have ES : Hid (∀ w, (Op.equal 26 (.agg sa) (.agg sb)).run Tryz.prog w = .ok (decide (a.sup = b.sup)) w) := Lib.hid (fun w => by rw [hsa, hsb]; exact eq_id w OA.out.sup OB.out.sup)
  have EP : Hid (∀ w, (Op.equal 35 (.agg pa) (.agg pb)).run Tryz.prog w = .ok (decide (a.height = b.height) && decide (a.root = b.root)) w) := Lib.hid (fun w => by rw [hpa, hpb]; exact eq_pk w OA.out.height OB.out.height OA.out.root OB.out.root)
  obtain ⟨cs, hcs⟩ : ∃ x, x = a.cells ga ra := ⟨_, rfl⟩
  obtain ⟨ds, hds⟩ : ∃ x, x = b.cells gb rb := ⟨_, rfl⟩
  rw [← hcs, ← hds] at hw0 ⊢
  have HW := Lib.hid hw0
  have D0 : Hid (Dr w0 w0) := Lib.hid (Dr.refl w0)
  have PQ : Hid (a.p = b.p ↔ a.name = b.name ∧ a.author = b.author ∧ a.date = b.date ∧ a.groups = b.groups ∧ a.subject = b.subject ∧ a.refs = b.refs ∧ a.sup = b.sup ∧ a.ctl = b.ctl ∧ a.dist = b.dist ∧ a.number = b.number ∧ (a.height = b.height ∧ a.root = b.root) ∧ a.leaf = b.leaf ∧ a.body = b.body) := Lib.hid (by
    constructor
    · intro h
      have h' := h
      unfold Cn.p at h'
      injection h' with h1 h2 h3 h4 h5 h6 h7 h8 h9 h10 h11 h12 h13 h14
      exact ⟨bs_inj h1, h2, h3, list_bs h4, bs_inj h5, h6, h7, bs_inj h8, bs_inj h9, h10, ⟨h11, h12⟩, h13, bs_inj h14⟩
    · rintro ⟨h1, h2, h3, h4, h5, h6, h7, h8, h9, h10, ⟨h11, h12⟩, h13, h14⟩
      unfold Cn.p
      rw [h1, h2, h3, h4, h5, h6, h7, h8, h9, h10, h11, h12, h13, h14])
  clear haa hab hsa hsb hpa hpb hcs hds hw0 ha hb
  go_enter Tryz.func12, Tryz.ntmps12
  go_upto_region 1 with fail
  rw [← HW.out]
  clear HW
  simp only [List.append_eq, List.cons_append, List.nil_append]
  by_cases h0 : a.name = b.name
  case neg =>
    have n0 := h0
    clear h0
    have e0 := toList_ne n0
    have ca0 := (CA.out _ D0.out).at (cn_0 a ga ra)
    have cb0 := (CC.out _ D0.out).at (cn_0 b gb rb)
    go_wp2_with (first
      | ((with_reducible refine wpList_loadG 33 _ rfl (by kernel_rfl) ?_); first | (refine ⟨_, _, rfl, LAA.out _ D0.out, ?_⟩) | (refine ⟨_, _, rfl, LAB.out _ D0.out, ?_⟩))
      | ((with_reducible refine wpList_eqlG 33 _ _ rfl (by kernel_rfl) guard_author ?_); refine ⟨_, _, _, rfl, rfl, EA.out _, ?_⟩; skip)
      | ((with_reducible refine wpList_loadG 26 _ rfl (by kernel_rfl) ?_); first | (refine ⟨_, _, rfl, LSA.out _ D2.out, ?_⟩) | (refine ⟨_, _, rfl, LSB.out _ D2.out, ?_⟩))
      | ((with_reducible refine wpList_eqlG 26 _ _ rfl (by kernel_rfl) guard23 ?_); refine ⟨_, _, _, rfl, rfl, ES.out _, ?_⟩; skip)
      | ((with_reducible refine wpList_loadG 35 _ rfl (by kernel_rfl) ?_); first | (refine ⟨_, _, rfl, LPA.out _ D2.out, ?_⟩) | (refine ⟨_, _, rfl, LPB.out _ D2.out, ?_⟩))
      | ((with_reducible refine wpList_eqlG 35 _ _ rfl (by kernel_rfl) guard_pk ?_); refine ⟨_, _, _, rfl, rfl, EP.out _, ?_⟩; skip)
      | (go_at_call 28; refine (SE.out _ D0.out).mono ?_; rintro e w1 ⟨rfl, hd⟩; have D1 := Lib.hid (dr_tr D0.out hd); clear hd; skip)
      | (go_at_call 29; refine (IE.out _ D1.out).mono ?_; rintro e w2 ⟨rfl, hd⟩; have D2 := Lib.hid (dr_tr D1.out hd); clear hd; skip))
    go_ret
    refine ⟨by rw [show decide (a.p = b.p) = false from decide_eq_false (fun e => n0 (by have := PQ.out.1 e; exact this.1))]; rfl, ?_⟩
    exact B0.out.trans ((Dr.below D0.out).mono B0.out.size)
  by_cases h1 : a.author = b.author
  case neg =>
    have n1 := h1
    clear h1
    have e0 := toList_eq h0
    have ca0 := (CA.out _ D0.out).at (cn_0 a ga ra)
    have cb0 := (CC.out _ D0.out).at (cn_0 b gb rb)
    go_wp2_with (first
      | ((with_reducible refine wpList_loadG 33 _ rfl (by kernel_rfl) ?_); first | (refine ⟨_, _, rfl, LAA.out _ D0.out, ?_⟩) | (refine ⟨_, _, rfl, LAB.out _ D0.out, ?_⟩))
      | ((with_reducible refine wpList_eqlG 33 _ _ rfl (by kernel_rfl) guard_author ?_); refine ⟨_, _, _, rfl, rfl, EA.out _, ?_⟩; rw [decide_eq_false n1])
      | ((with_reducible refine wpList_loadG 26 _ rfl (by kernel_rfl) ?_); first | (refine ⟨_, _, rfl, LSA.out _ D2.out, ?_⟩) | (refine ⟨_, _, rfl, LSB.out _ D2.out, ?_⟩))
      | ((with_reducible refine wpList_eqlG 26 _ _ rfl (by kernel_rfl) guard23 ?_); refine ⟨_, _, _, rfl, rfl, ES.out _, ?_⟩; skip)
      | ((with_reducible refine wpList_loadG 35 _ rfl (by kernel_rfl) ?_); first | (refine ⟨_, _, rfl, LPA.out _ D2.out, ?_⟩) | (refine ⟨_, _, rfl, LPB.out _ D2.out, ?_⟩))
      | ((with_reducible refine wpList_eqlG 35 _ _ rfl (by kernel_rfl) guard_pk ?_); refine ⟨_, _, _, rfl, rfl, EP.out _, ?_⟩; skip)
      | (go_at_call 28; refine (SE.out _ D0.out).mono ?_; rintro e w1 ⟨rfl, hd⟩; have D1 := Lib.hid (dr_tr D0.out hd); clear hd; skip)
      | (go_at_call 29; refine (IE.out _ D1.out).mono ?_; rintro e w2 ⟨rfl, hd⟩; have D2 := Lib.hid (dr_tr D1.out hd); clear hd; skip))
    go_ret
    refine ⟨by rw [show decide (a.p = b.p) = false from decide_eq_false (fun e => n1 (by have := PQ.out.1 e; exact this.2.1))]; rfl, ?_⟩
    exact B0.out.trans ((Dr.below D0.out).mono B0.out.size)
  by_cases h2 : a.date = b.date
  case neg =>
    have n2 := h2
    clear h2
    have e0 := toList_eq h0
    have e2 := int_bne n2
    have ca0 := (CA.out _ D0.out).at (cn_0 a ga ra)
    have cb0 := (CC.out _ D0.out).at (cn_0 b gb rb)
    have ca17 := (CA.out _ D0.out).at (cn_17 OA.out ga ra)
    have cb17 := (CC.out _ D0.out).at (cn_17 OB.out gb rb)
    go_wp2_with (first
      | ((with_reducible refine wpList_loadG 33 _ rfl (by kernel_rfl) ?_); first | (refine ⟨_, _, rfl, LAA.out _ D0.out, ?_⟩) | (refine ⟨_, _, rfl, LAB.out _ D0.out, ?_⟩))
      | ((with_reducible refine wpList_eqlG 33 _ _ rfl (by kernel_rfl) guard_author ?_); refine ⟨_, _, _, rfl, rfl, EA.out _, ?_⟩; rw [decide_eq_true h1])
      | ((with_reducible refine wpList_loadG 26 _ rfl (by kernel_rfl) ?_); first | (refine ⟨_, _, rfl, LSA.out _ D2.out, ?_⟩) | (refine ⟨_, _, rfl, LSB.out _ D2.out, ?_⟩))
      | ((with_reducible refine wpList_eqlG 26 _ _ rfl (by kernel_rfl) guard23 ?_); refine ⟨_, _, _, rfl, rfl, ES.out _, ?_⟩; skip)
      | ((with_reducible refine wpList_loadG 35 _ rfl (by kernel_rfl) ?_); first | (refine ⟨_, _, rfl, LPA.out _ D2.out, ?_⟩) | (refine ⟨_, _, rfl, LPB.out _ D2.out, ?_⟩))
      | ((with_reducible refine wpList_eqlG 35 _ _ rfl (by kernel_rfl) guard_pk ?_); refine ⟨_, _, _, rfl, rfl, EP.out _, ?_⟩; skip)
      | (go_at_call 28; refine (SE.out _ D0.out).mono ?_; rintro e w1 ⟨rfl, hd⟩; have D1 := Lib.hid (dr_tr D0.out hd); clear hd; skip)
      | (go_at_call 29; refine (IE.out _ D1.out).mono ?_; rintro e w2 ⟨rfl, hd⟩; have D2 := Lib.hid (dr_tr D1.out hd); clear hd; skip))
    go_ret
    refine ⟨by rw [show decide (a.p = b.p) = false from decide_eq_false (fun e => n2 (by have := PQ.out.1 e; exact this.2.2.1))]; rfl, ?_⟩
    exact B0.out.trans ((Dr.below D0.out).mono B0.out.size)
  by_cases h3 : a.groups = b.groups
  case neg =>
    have n3 := h3
    clear h3
    have e0 := toList_eq h0
    have e2 := int_beq h2
    have ca0 := (CA.out _ D0.out).at (cn_0 a ga ra)
    have cb0 := (CC.out _ D0.out).at (cn_0 b gb rb)
    have ca17 := (CA.out _ D0.out).at (cn_17 OA.out ga ra)
    have cb17 := (CC.out _ D0.out).at (cn_17 OB.out gb rb)
    have ca18 := (CA.out _ D0.out).at (cn_18 OA.out ga ra)
    have cb18 := (CC.out _ D0.out).at (cn_18 OB.out gb rb)
    go_wp2_with (first
      | ((with_reducible refine wpList_loadG 33 _ rfl (by kernel_rfl) ?_); first | (refine ⟨_, _, rfl, LAA.out _ D0.out, ?_⟩) | (refine ⟨_, _, rfl, LAB.out _ D0.out, ?_⟩))
      | ((with_reducible refine wpList_eqlG 33 _ _ rfl (by kernel_rfl) guard_author ?_); refine ⟨_, _, _, rfl, rfl, EA.out _, ?_⟩; rw [decide_eq_true h1])
      | ((with_reducible refine wpList_loadG 26 _ rfl (by kernel_rfl) ?_); first | (refine ⟨_, _, rfl, LSA.out _ D2.out, ?_⟩) | (refine ⟨_, _, rfl, LSB.out _ D2.out, ?_⟩))
      | ((with_reducible refine wpList_eqlG 26 _ _ rfl (by kernel_rfl) guard23 ?_); refine ⟨_, _, _, rfl, rfl, ES.out _, ?_⟩; skip)
      | ((with_reducible refine wpList_loadG 35 _ rfl (by kernel_rfl) ?_); first | (refine ⟨_, _, rfl, LPA.out _ D2.out, ?_⟩) | (refine ⟨_, _, rfl, LPB.out _ D2.out, ?_⟩))
      | ((with_reducible refine wpList_eqlG 35 _ _ rfl (by kernel_rfl) guard_pk ?_); refine ⟨_, _, _, rfl, rfl, EP.out _, ?_⟩; skip)
      | (go_at_call 28; refine (SE.out _ D0.out).mono ?_; rintro e w1 ⟨rfl, hd⟩; have D1 := Lib.hid (dr_tr D0.out hd); clear hd; rw [decide_eq_false n3])
      | (go_at_call 29; refine (IE.out _ D1.out).mono ?_; rintro e w2 ⟨rfl, hd⟩; have D2 := Lib.hid (dr_tr D1.out hd); clear hd; skip))
    go_ret
    refine ⟨by rw [show decide (a.p = b.p) = false from decide_eq_false (fun e => n3 (by have := PQ.out.1 e; exact this.2.2.2.1))]; rfl, ?_⟩
    exact B0.out.trans ((Dr.below D1.out).mono B0.out.size)
  by_cases h4 : a.subject = b.subject
  case neg =>
    have n4 := h4
    clear h4
    have e0 := toList_eq h0
    have e2 := int_beq h2
    have e4 := toList_ne n4
    have ca0 := (CA.out _ D0.out).at (cn_0 a ga ra)
    have cb0 := (CC.out _ D0.out).at (cn_0 b gb rb)
    have ca17 := (CA.out _ D0.out).at (cn_17 OA.out ga ra)
    have cb17 := (CC.out _ D0.out).at (cn_17 OB.out gb rb)
    have ca18 := (CA.out _ D0.out).at (cn_18 OA.out ga ra)
    have cb18 := (CC.out _ D0.out).at (cn_18 OB.out gb rb)
    go_wp2_with (first
      | ((with_reducible refine wpList_loadG 33 _ rfl (by kernel_rfl) ?_); first | (refine ⟨_, _, rfl, LAA.out _ D0.out, ?_⟩) | (refine ⟨_, _, rfl, LAB.out _ D0.out, ?_⟩))
      | ((with_reducible refine wpList_eqlG 33 _ _ rfl (by kernel_rfl) guard_author ?_); refine ⟨_, _, _, rfl, rfl, EA.out _, ?_⟩; rw [decide_eq_true h1])
      | ((with_reducible refine wpList_loadG 26 _ rfl (by kernel_rfl) ?_); first | (refine ⟨_, _, rfl, LSA.out _ D2.out, ?_⟩) | (refine ⟨_, _, rfl, LSB.out _ D2.out, ?_⟩))
      | ((with_reducible refine wpList_eqlG 26 _ _ rfl (by kernel_rfl) guard23 ?_); refine ⟨_, _, _, rfl, rfl, ES.out _, ?_⟩; skip)
      | ((with_reducible refine wpList_loadG 35 _ rfl (by kernel_rfl) ?_); first | (refine ⟨_, _, rfl, LPA.out _ D2.out, ?_⟩) | (refine ⟨_, _, rfl, LPB.out _ D2.out, ?_⟩))
      | ((with_reducible refine wpList_eqlG 35 _ _ rfl (by kernel_rfl) guard_pk ?_); refine ⟨_, _, _, rfl, rfl, EP.out _, ?_⟩; skip)
      | (go_at_call 28; refine (SE.out _ D0.out).mono ?_; rintro e w1 ⟨rfl, hd⟩; have D1 := Lib.hid (dr_tr D0.out hd); clear hd; rw [decide_eq_true h3]; have ca19 := (CA.out _ D1.out).at (cn_19 OA.out ga ra); have cb19 := (CC.out _ D1.out).at (cn_19 OB.out gb rb))
      | (go_at_call 29; refine (IE.out _ D1.out).mono ?_; rintro e w2 ⟨rfl, hd⟩; have D2 := Lib.hid (dr_tr D1.out hd); clear hd; skip))
    go_ret
    refine ⟨by rw [show decide (a.p = b.p) = false from decide_eq_false (fun e => n4 (by have := PQ.out.1 e; exact this.2.2.2.2.1))]; rfl, ?_⟩
    exact B0.out.trans ((Dr.below D1.out).mono B0.out.size)
  by_cases h5 : a.refs = b.refs
  case neg =>
    have n5 := h5
    clear h5
    have e0 := toList_eq h0
    have e2 := int_beq h2
    have e4 := toList_eq h4
    have ca0 := (CA.out _ D0.out).at (cn_0 a ga ra)
    have cb0 := (CC.out _ D0.out).at (cn_0 b gb rb)
    have ca17 := (CA.out _ D0.out).at (cn_17 OA.out ga ra)
    have cb17 := (CC.out _ D0.out).at (cn_17 OB.out gb rb)
    have ca18 := (CA.out _ D0.out).at (cn_18 OA.out ga ra)
    have cb18 := (CC.out _ D0.out).at (cn_18 OB.out gb rb)
    go_wp2_with (first
      | ((with_reducible refine wpList_loadG 33 _ rfl (by kernel_rfl) ?_); first | (refine ⟨_, _, rfl, LAA.out _ D0.out, ?_⟩) | (refine ⟨_, _, rfl, LAB.out _ D0.out, ?_⟩))
      | ((with_reducible refine wpList_eqlG 33 _ _ rfl (by kernel_rfl) guard_author ?_); refine ⟨_, _, _, rfl, rfl, EA.out _, ?_⟩; rw [decide_eq_true h1])
      | ((with_reducible refine wpList_loadG 26 _ rfl (by kernel_rfl) ?_); first | (refine ⟨_, _, rfl, LSA.out _ D2.out, ?_⟩) | (refine ⟨_, _, rfl, LSB.out _ D2.out, ?_⟩))
      | ((with_reducible refine wpList_eqlG 26 _ _ rfl (by kernel_rfl) guard23 ?_); refine ⟨_, _, _, rfl, rfl, ES.out _, ?_⟩; skip)
      | ((with_reducible refine wpList_loadG 35 _ rfl (by kernel_rfl) ?_); first | (refine ⟨_, _, rfl, LPA.out _ D2.out, ?_⟩) | (refine ⟨_, _, rfl, LPB.out _ D2.out, ?_⟩))
      | ((with_reducible refine wpList_eqlG 35 _ _ rfl (by kernel_rfl) guard_pk ?_); refine ⟨_, _, _, rfl, rfl, EP.out _, ?_⟩; skip)
      | (go_at_call 28; refine (SE.out _ D0.out).mono ?_; rintro e w1 ⟨rfl, hd⟩; have D1 := Lib.hid (dr_tr D0.out hd); clear hd; rw [decide_eq_true h3]; have ca19 := (CA.out _ D1.out).at (cn_19 OA.out ga ra); have cb19 := (CC.out _ D1.out).at (cn_19 OB.out gb rb); have ca20 := (CA.out _ D1.out).at (cn_20 OA.out ga ra); have cb20 := (CC.out _ D1.out).at (cn_20 OB.out gb rb))
      | (go_at_call 29; refine (IE.out _ D1.out).mono ?_; rintro e w2 ⟨rfl, hd⟩; have D2 := Lib.hid (dr_tr D1.out hd); clear hd; rw [decide_eq_false n5]))
    go_ret
    refine ⟨by rw [show decide (a.p = b.p) = false from decide_eq_false (fun e => n5 (by have := PQ.out.1 e; exact this.2.2.2.2.2.1))]; rfl, ?_⟩
    exact B0.out.trans ((Dr.below D2.out).mono B0.out.size)
  by_cases h6 : a.sup = b.sup
  case neg =>
    have n6 := h6
    clear h6
    have e0 := toList_eq h0
    have e2 := int_beq h2
    have e4 := toList_eq h4
    have ca0 := (CA.out _ D0.out).at (cn_0 a ga ra)
    have cb0 := (CC.out _ D0.out).at (cn_0 b gb rb)
    have ca17 := (CA.out _ D0.out).at (cn_17 OA.out ga ra)
    have cb17 := (CC.out _ D0.out).at (cn_17 OB.out gb rb)
    have ca18 := (CA.out _ D0.out).at (cn_18 OA.out ga ra)
    have cb18 := (CC.out _ D0.out).at (cn_18 OB.out gb rb)
    go_wp2_with (first
      | ((with_reducible refine wpList_loadG 33 _ rfl (by kernel_rfl) ?_); first | (refine ⟨_, _, rfl, LAA.out _ D0.out, ?_⟩) | (refine ⟨_, _, rfl, LAB.out _ D0.out, ?_⟩))
      | ((with_reducible refine wpList_eqlG 33 _ _ rfl (by kernel_rfl) guard_author ?_); refine ⟨_, _, _, rfl, rfl, EA.out _, ?_⟩; rw [decide_eq_true h1])
      | ((with_reducible refine wpList_loadG 26 _ rfl (by kernel_rfl) ?_); first | (refine ⟨_, _, rfl, LSA.out _ D2.out, ?_⟩) | (refine ⟨_, _, rfl, LSB.out _ D2.out, ?_⟩))
      | ((with_reducible refine wpList_eqlG 26 _ _ rfl (by kernel_rfl) guard23 ?_); refine ⟨_, _, _, rfl, rfl, ES.out _, ?_⟩; rw [decide_eq_false n6])
      | ((with_reducible refine wpList_loadG 35 _ rfl (by kernel_rfl) ?_); first | (refine ⟨_, _, rfl, LPA.out _ D2.out, ?_⟩) | (refine ⟨_, _, rfl, LPB.out _ D2.out, ?_⟩))
      | ((with_reducible refine wpList_eqlG 35 _ _ rfl (by kernel_rfl) guard_pk ?_); refine ⟨_, _, _, rfl, rfl, EP.out _, ?_⟩; skip)
      | (go_at_call 28; refine (SE.out _ D0.out).mono ?_; rintro e w1 ⟨rfl, hd⟩; have D1 := Lib.hid (dr_tr D0.out hd); clear hd; rw [decide_eq_true h3]; have ca19 := (CA.out _ D1.out).at (cn_19 OA.out ga ra); have cb19 := (CC.out _ D1.out).at (cn_19 OB.out gb rb); have ca20 := (CA.out _ D1.out).at (cn_20 OA.out ga ra); have cb20 := (CC.out _ D1.out).at (cn_20 OB.out gb rb))
      | (go_at_call 29; refine (IE.out _ D1.out).mono ?_; rintro e w2 ⟨rfl, hd⟩; have D2 := Lib.hid (dr_tr D1.out hd); clear hd; rw [decide_eq_true h5]))
    go_ret
    refine ⟨by rw [show decide (a.p = b.p) = false from decide_eq_false (fun e => n6 (by have := PQ.out.1 e; exact this.2.2.2.2.2.2.1))]; rfl, ?_⟩
    exact B0.out.trans ((Dr.below D2.out).mono B0.out.size)
  by_cases h7 : a.ctl = b.ctl
  case neg =>
    have n7 := h7
    clear h7
    have e0 := toList_eq h0
    have e2 := int_beq h2
    have e4 := toList_eq h4
    have e7 := toList_ne n7
    have ca0 := (CA.out _ D0.out).at (cn_0 a ga ra)
    have cb0 := (CC.out _ D0.out).at (cn_0 b gb rb)
    have ca17 := (CA.out _ D0.out).at (cn_17 OA.out ga ra)
    have cb17 := (CC.out _ D0.out).at (cn_17 OB.out gb rb)
    have ca18 := (CA.out _ D0.out).at (cn_18 OA.out ga ra)
    have cb18 := (CC.out _ D0.out).at (cn_18 OB.out gb rb)
    go_wp2_with (first
      | ((with_reducible refine wpList_loadG 33 _ rfl (by kernel_rfl) ?_); first | (refine ⟨_, _, rfl, LAA.out _ D0.out, ?_⟩) | (refine ⟨_, _, rfl, LAB.out _ D0.out, ?_⟩))
      | ((with_reducible refine wpList_eqlG 33 _ _ rfl (by kernel_rfl) guard_author ?_); refine ⟨_, _, _, rfl, rfl, EA.out _, ?_⟩; rw [decide_eq_true h1])
      | ((with_reducible refine wpList_loadG 26 _ rfl (by kernel_rfl) ?_); first | (refine ⟨_, _, rfl, LSA.out _ D2.out, ?_⟩) | (refine ⟨_, _, rfl, LSB.out _ D2.out, ?_⟩))
      | ((with_reducible refine wpList_eqlG 26 _ _ rfl (by kernel_rfl) guard23 ?_); refine ⟨_, _, _, rfl, rfl, ES.out _, ?_⟩; rw [decide_eq_true h6])
      | ((with_reducible refine wpList_loadG 35 _ rfl (by kernel_rfl) ?_); first | (refine ⟨_, _, rfl, LPA.out _ D2.out, ?_⟩) | (refine ⟨_, _, rfl, LPB.out _ D2.out, ?_⟩))
      | ((with_reducible refine wpList_eqlG 35 _ _ rfl (by kernel_rfl) guard_pk ?_); refine ⟨_, _, _, rfl, rfl, EP.out _, ?_⟩; skip)
      | (go_at_call 28; refine (SE.out _ D0.out).mono ?_; rintro e w1 ⟨rfl, hd⟩; have D1 := Lib.hid (dr_tr D0.out hd); clear hd; rw [decide_eq_true h3]; have ca19 := (CA.out _ D1.out).at (cn_19 OA.out ga ra); have cb19 := (CC.out _ D1.out).at (cn_19 OB.out gb rb); have ca20 := (CA.out _ D1.out).at (cn_20 OA.out ga ra); have cb20 := (CC.out _ D1.out).at (cn_20 OB.out gb rb))
      | (go_at_call 29; refine (IE.out _ D1.out).mono ?_; rintro e w2 ⟨rfl, hd⟩; have D2 := Lib.hid (dr_tr D1.out hd); clear hd; rw [decide_eq_true h5]; have ca53 := (CA.out _ D2.out).at (cn_53 OA.out ga ra); have cb53 := (CC.out _ D2.out).at (cn_53 OB.out gb rb)))
    go_ret
    refine ⟨by rw [show decide (a.p = b.p) = false from decide_eq_false (fun e => n7 (by have := PQ.out.1 e; exact this.2.2.2.2.2.2.2.1))]; rfl, ?_⟩
    exact B0.out.trans ((Dr.below D2.out).mono B0.out.size)
  by_cases h8 : a.dist = b.dist
  case neg =>
    have n8 := h8
    clear h8
    have e0 := toList_eq h0
    have e2 := int_beq h2
    have e4 := toList_eq h4
    have e7 := toList_eq h7
    have e8 := toList_ne n8
    have ca0 := (CA.out _ D0.out).at (cn_0 a ga ra)
    have cb0 := (CC.out _ D0.out).at (cn_0 b gb rb)
    have ca17 := (CA.out _ D0.out).at (cn_17 OA.out ga ra)
    have cb17 := (CC.out _ D0.out).at (cn_17 OB.out gb rb)
    have ca18 := (CA.out _ D0.out).at (cn_18 OA.out ga ra)
    have cb18 := (CC.out _ D0.out).at (cn_18 OB.out gb rb)
    go_wp2_with (first
      | ((with_reducible refine wpList_loadG 33 _ rfl (by kernel_rfl) ?_); first | (refine ⟨_, _, rfl, LAA.out _ D0.out, ?_⟩) | (refine ⟨_, _, rfl, LAB.out _ D0.out, ?_⟩))
      | ((with_reducible refine wpList_eqlG 33 _ _ rfl (by kernel_rfl) guard_author ?_); refine ⟨_, _, _, rfl, rfl, EA.out _, ?_⟩; rw [decide_eq_true h1])
      | ((with_reducible refine wpList_loadG 26 _ rfl (by kernel_rfl) ?_); first | (refine ⟨_, _, rfl, LSA.out _ D2.out, ?_⟩) | (refine ⟨_, _, rfl, LSB.out _ D2.out, ?_⟩))
      | ((with_reducible refine wpList_eqlG 26 _ _ rfl (by kernel_rfl) guard23 ?_); refine ⟨_, _, _, rfl, rfl, ES.out _, ?_⟩; rw [decide_eq_true h6])
      | ((with_reducible refine wpList_loadG 35 _ rfl (by kernel_rfl) ?_); first | (refine ⟨_, _, rfl, LPA.out _ D2.out, ?_⟩) | (refine ⟨_, _, rfl, LPB.out _ D2.out, ?_⟩))
      | ((with_reducible refine wpList_eqlG 35 _ _ rfl (by kernel_rfl) guard_pk ?_); refine ⟨_, _, _, rfl, rfl, EP.out _, ?_⟩; skip)
      | (go_at_call 28; refine (SE.out _ D0.out).mono ?_; rintro e w1 ⟨rfl, hd⟩; have D1 := Lib.hid (dr_tr D0.out hd); clear hd; rw [decide_eq_true h3]; have ca19 := (CA.out _ D1.out).at (cn_19 OA.out ga ra); have cb19 := (CC.out _ D1.out).at (cn_19 OB.out gb rb); have ca20 := (CA.out _ D1.out).at (cn_20 OA.out ga ra); have cb20 := (CC.out _ D1.out).at (cn_20 OB.out gb rb))
      | (go_at_call 29; refine (IE.out _ D1.out).mono ?_; rintro e w2 ⟨rfl, hd⟩; have D2 := Lib.hid (dr_tr D1.out hd); clear hd; rw [decide_eq_true h5]; have ca53 := (CA.out _ D2.out).at (cn_53 OA.out ga ra); have cb53 := (CC.out _ D2.out).at (cn_53 OB.out gb rb); have ca54 := (CA.out _ D2.out).at (cn_54 OA.out ga ra); have cb54 := (CC.out _ D2.out).at (cn_54 OB.out gb rb)))
    go_ret
    refine ⟨by rw [show decide (a.p = b.p) = false from decide_eq_false (fun e => n8 (by have := PQ.out.1 e; exact this.2.2.2.2.2.2.2.2.1))]; rfl, ?_⟩
    exact B0.out.trans ((Dr.below D2.out).mono B0.out.size)
  by_cases h9 : a.number = b.number
  case neg =>
    have n9 := h9
    clear h9
    have e0 := toList_eq h0
    have e2 := int_beq h2
    have e4 := toList_eq h4
    have e7 := toList_eq h7
    have e8 := toList_eq h8
    have e9 := int_bne n9
    have ca0 := (CA.out _ D0.out).at (cn_0 a ga ra)
    have cb0 := (CC.out _ D0.out).at (cn_0 b gb rb)
    have ca17 := (CA.out _ D0.out).at (cn_17 OA.out ga ra)
    have cb17 := (CC.out _ D0.out).at (cn_17 OB.out gb rb)
    have ca18 := (CA.out _ D0.out).at (cn_18 OA.out ga ra)
    have cb18 := (CC.out _ D0.out).at (cn_18 OB.out gb rb)
    go_wp2_with (first
      | ((with_reducible refine wpList_loadG 33 _ rfl (by kernel_rfl) ?_); first | (refine ⟨_, _, rfl, LAA.out _ D0.out, ?_⟩) | (refine ⟨_, _, rfl, LAB.out _ D0.out, ?_⟩))
      | ((with_reducible refine wpList_eqlG 33 _ _ rfl (by kernel_rfl) guard_author ?_); refine ⟨_, _, _, rfl, rfl, EA.out _, ?_⟩; rw [decide_eq_true h1])
      | ((with_reducible refine wpList_loadG 26 _ rfl (by kernel_rfl) ?_); first | (refine ⟨_, _, rfl, LSA.out _ D2.out, ?_⟩) | (refine ⟨_, _, rfl, LSB.out _ D2.out, ?_⟩))
      | ((with_reducible refine wpList_eqlG 26 _ _ rfl (by kernel_rfl) guard23 ?_); refine ⟨_, _, _, rfl, rfl, ES.out _, ?_⟩; rw [decide_eq_true h6])
      | ((with_reducible refine wpList_loadG 35 _ rfl (by kernel_rfl) ?_); first | (refine ⟨_, _, rfl, LPA.out _ D2.out, ?_⟩) | (refine ⟨_, _, rfl, LPB.out _ D2.out, ?_⟩))
      | ((with_reducible refine wpList_eqlG 35 _ _ rfl (by kernel_rfl) guard_pk ?_); refine ⟨_, _, _, rfl, rfl, EP.out _, ?_⟩; skip)
      | (go_at_call 28; refine (SE.out _ D0.out).mono ?_; rintro e w1 ⟨rfl, hd⟩; have D1 := Lib.hid (dr_tr D0.out hd); clear hd; rw [decide_eq_true h3]; have ca19 := (CA.out _ D1.out).at (cn_19 OA.out ga ra); have cb19 := (CC.out _ D1.out).at (cn_19 OB.out gb rb); have ca20 := (CA.out _ D1.out).at (cn_20 OA.out ga ra); have cb20 := (CC.out _ D1.out).at (cn_20 OB.out gb rb))
      | (go_at_call 29; refine (IE.out _ D1.out).mono ?_; rintro e w2 ⟨rfl, hd⟩; have D2 := Lib.hid (dr_tr D1.out hd); clear hd; rw [decide_eq_true h5]; have ca53 := (CA.out _ D2.out).at (cn_53 OA.out ga ra); have cb53 := (CC.out _ D2.out).at (cn_53 OB.out gb rb); have ca54 := (CA.out _ D2.out).at (cn_54 OA.out ga ra); have cb54 := (CC.out _ D2.out).at (cn_54 OB.out gb rb); have ca55 := (CA.out _ D2.out).at (cn_55 OA.out ga ra); have cb55 := (CC.out _ D2.out).at (cn_55 OB.out gb rb)))
    go_ret
    refine ⟨by rw [show decide (a.p = b.p) = false from decide_eq_false (fun e => n9 (by have := PQ.out.1 e; exact this.2.2.2.2.2.2.2.2.2.1))]; rfl, ?_⟩
    exact B0.out.trans ((Dr.below D2.out).mono B0.out.size)
  by_cases h10 : a.height = b.height ∧ a.root = b.root
  case neg =>
    have n10 := h10
    clear h10
    have e0 := toList_eq h0
    have e2 := int_beq h2
    have e4 := toList_eq h4
    have e7 := toList_eq h7
    have e8 := toList_eq h8
    have e9 := int_beq h9
    have ca0 := (CA.out _ D0.out).at (cn_0 a ga ra)
    have cb0 := (CC.out _ D0.out).at (cn_0 b gb rb)
    have ca17 := (CA.out _ D0.out).at (cn_17 OA.out ga ra)
    have cb17 := (CC.out _ D0.out).at (cn_17 OB.out gb rb)
    have ca18 := (CA.out _ D0.out).at (cn_18 OA.out ga ra)
    have cb18 := (CC.out _ D0.out).at (cn_18 OB.out gb rb)
    go_wp2_with (first
      | ((with_reducible refine wpList_loadG 33 _ rfl (by kernel_rfl) ?_); first | (refine ⟨_, _, rfl, LAA.out _ D0.out, ?_⟩) | (refine ⟨_, _, rfl, LAB.out _ D0.out, ?_⟩))
      | ((with_reducible refine wpList_eqlG 33 _ _ rfl (by kernel_rfl) guard_author ?_); refine ⟨_, _, _, rfl, rfl, EA.out _, ?_⟩; rw [decide_eq_true h1])
      | ((with_reducible refine wpList_loadG 26 _ rfl (by kernel_rfl) ?_); first | (refine ⟨_, _, rfl, LSA.out _ D2.out, ?_⟩) | (refine ⟨_, _, rfl, LSB.out _ D2.out, ?_⟩))
      | ((with_reducible refine wpList_eqlG 26 _ _ rfl (by kernel_rfl) guard23 ?_); refine ⟨_, _, _, rfl, rfl, ES.out _, ?_⟩; rw [decide_eq_true h6])
      | ((with_reducible refine wpList_loadG 35 _ rfl (by kernel_rfl) ?_); first | (refine ⟨_, _, rfl, LPA.out _ D2.out, ?_⟩) | (refine ⟨_, _, rfl, LPB.out _ D2.out, ?_⟩))
      | ((with_reducible refine wpList_eqlG 35 _ _ rfl (by kernel_rfl) guard_pk ?_); refine ⟨_, _, _, rfl, rfl, EP.out _, ?_⟩; rw [show (decide (a.height = b.height) && decide (a.root = b.root)) = false by rw [← Bool.decide_and]; exact decide_eq_false n10])
      | (go_at_call 28; refine (SE.out _ D0.out).mono ?_; rintro e w1 ⟨rfl, hd⟩; have D1 := Lib.hid (dr_tr D0.out hd); clear hd; rw [decide_eq_true h3]; have ca19 := (CA.out _ D1.out).at (cn_19 OA.out ga ra); have cb19 := (CC.out _ D1.out).at (cn_19 OB.out gb rb); have ca20 := (CA.out _ D1.out).at (cn_20 OA.out ga ra); have cb20 := (CC.out _ D1.out).at (cn_20 OB.out gb rb))
      | (go_at_call 29; refine (IE.out _ D1.out).mono ?_; rintro e w2 ⟨rfl, hd⟩; have D2 := Lib.hid (dr_tr D1.out hd); clear hd; rw [decide_eq_true h5]; have ca53 := (CA.out _ D2.out).at (cn_53 OA.out ga ra); have cb53 := (CC.out _ D2.out).at (cn_53 OB.out gb rb); have ca54 := (CA.out _ D2.out).at (cn_54 OA.out ga ra); have cb54 := (CC.out _ D2.out).at (cn_54 OB.out gb rb); have ca55 := (CA.out _ D2.out).at (cn_55 OA.out ga ra); have cb55 := (CC.out _ D2.out).at (cn_55 OB.out gb rb)))
    go_ret
    refine ⟨by rw [show decide (a.p = b.p) = false from decide_eq_false (fun e => n10 (by have := PQ.out.1 e; exact this.2.2.2.2.2.2.2.2.2.2.1))]; rfl, ?_⟩
    exact B0.out.trans ((Dr.below D2.out).mono B0.out.size)
  by_cases h11 : a.leaf = b.leaf
  case neg =>
    have n11 := h11
    clear h11
    have e0 := toList_eq h0
    have e2 := int_beq h2
    have e4 := toList_eq h4
    have e7 := toList_eq h7
    have e8 := toList_eq h8
    have e9 := int_beq h9
    have e11 := int_bne n11
    have ca0 := (CA.out _ D0.out).at (cn_0 a ga ra)
    have cb0 := (CC.out _ D0.out).at (cn_0 b gb rb)
    have ca17 := (CA.out _ D0.out).at (cn_17 OA.out ga ra)
    have cb17 := (CC.out _ D0.out).at (cn_17 OB.out gb rb)
    have ca18 := (CA.out _ D0.out).at (cn_18 OA.out ga ra)
    have cb18 := (CC.out _ D0.out).at (cn_18 OB.out gb rb)
    go_wp2_with (first
      | ((with_reducible refine wpList_loadG 33 _ rfl (by kernel_rfl) ?_); first | (refine ⟨_, _, rfl, LAA.out _ D0.out, ?_⟩) | (refine ⟨_, _, rfl, LAB.out _ D0.out, ?_⟩))
      | ((with_reducible refine wpList_eqlG 33 _ _ rfl (by kernel_rfl) guard_author ?_); refine ⟨_, _, _, rfl, rfl, EA.out _, ?_⟩; rw [decide_eq_true h1])
      | ((with_reducible refine wpList_loadG 26 _ rfl (by kernel_rfl) ?_); first | (refine ⟨_, _, rfl, LSA.out _ D2.out, ?_⟩) | (refine ⟨_, _, rfl, LSB.out _ D2.out, ?_⟩))
      | ((with_reducible refine wpList_eqlG 26 _ _ rfl (by kernel_rfl) guard23 ?_); refine ⟨_, _, _, rfl, rfl, ES.out _, ?_⟩; rw [decide_eq_true h6])
      | ((with_reducible refine wpList_loadG 35 _ rfl (by kernel_rfl) ?_); first | (refine ⟨_, _, rfl, LPA.out _ D2.out, ?_⟩) | (refine ⟨_, _, rfl, LPB.out _ D2.out, ?_⟩))
      | ((with_reducible refine wpList_eqlG 35 _ _ rfl (by kernel_rfl) guard_pk ?_); refine ⟨_, _, _, rfl, rfl, EP.out _, ?_⟩; rw [decide_eq_true h10.1, decide_eq_true h10.2])
      | (go_at_call 28; refine (SE.out _ D0.out).mono ?_; rintro e w1 ⟨rfl, hd⟩; have D1 := Lib.hid (dr_tr D0.out hd); clear hd; rw [decide_eq_true h3]; have ca19 := (CA.out _ D1.out).at (cn_19 OA.out ga ra); have cb19 := (CC.out _ D1.out).at (cn_19 OB.out gb rb); have ca20 := (CA.out _ D1.out).at (cn_20 OA.out ga ra); have cb20 := (CC.out _ D1.out).at (cn_20 OB.out gb rb))
      | (go_at_call 29; refine (IE.out _ D1.out).mono ?_; rintro e w2 ⟨rfl, hd⟩; have D2 := Lib.hid (dr_tr D1.out hd); clear hd; rw [decide_eq_true h5]; have ca53 := (CA.out _ D2.out).at (cn_53 OA.out ga ra); have cb53 := (CC.out _ D2.out).at (cn_53 OB.out gb rb); have ca54 := (CA.out _ D2.out).at (cn_54 OA.out ga ra); have cb54 := (CC.out _ D2.out).at (cn_54 OB.out gb rb); have ca55 := (CA.out _ D2.out).at (cn_55 OA.out ga ra); have cb55 := (CC.out _ D2.out).at (cn_55 OB.out gb rb); have ca73 := (CA.out _ D2.out).at (cn_73 OA.out ga ra); have cb73 := (CC.out _ D2.out).at (cn_73 OB.out gb rb)))
    go_ret
    refine ⟨by rw [show decide (a.p = b.p) = false from decide_eq_false (fun e => n11 (by have := PQ.out.1 e; exact this.2.2.2.2.2.2.2.2.2.2.2.1))]; rfl, ?_⟩
    exact B0.out.trans ((Dr.below D2.out).mono B0.out.size)
  by_cases h12 : a.body = b.body
  case neg =>
    have n12 := h12
    clear h12
    have e0 := toList_eq h0
    have e2 := int_beq h2
    have e4 := toList_eq h4
    have e7 := toList_eq h7
    have e8 := toList_eq h8
    have e9 := int_beq h9
    have e11 := int_beq h11
    have e12 := toList_ne n12
    have ca0 := (CA.out _ D0.out).at (cn_0 a ga ra)
    have cb0 := (CC.out _ D0.out).at (cn_0 b gb rb)
    have ca17 := (CA.out _ D0.out).at (cn_17 OA.out ga ra)
    have cb17 := (CC.out _ D0.out).at (cn_17 OB.out gb rb)
    have ca18 := (CA.out _ D0.out).at (cn_18 OA.out ga ra)
    have cb18 := (CC.out _ D0.out).at (cn_18 OB.out gb rb)
    go_wp2_with (first
      | ((with_reducible refine wpList_loadG 33 _ rfl (by kernel_rfl) ?_); first | (refine ⟨_, _, rfl, LAA.out _ D0.out, ?_⟩) | (refine ⟨_, _, rfl, LAB.out _ D0.out, ?_⟩))
      | ((with_reducible refine wpList_eqlG 33 _ _ rfl (by kernel_rfl) guard_author ?_); refine ⟨_, _, _, rfl, rfl, EA.out _, ?_⟩; rw [decide_eq_true h1])
      | ((with_reducible refine wpList_loadG 26 _ rfl (by kernel_rfl) ?_); first | (refine ⟨_, _, rfl, LSA.out _ D2.out, ?_⟩) | (refine ⟨_, _, rfl, LSB.out _ D2.out, ?_⟩))
      | ((with_reducible refine wpList_eqlG 26 _ _ rfl (by kernel_rfl) guard23 ?_); refine ⟨_, _, _, rfl, rfl, ES.out _, ?_⟩; rw [decide_eq_true h6])
      | ((with_reducible refine wpList_loadG 35 _ rfl (by kernel_rfl) ?_); first | (refine ⟨_, _, rfl, LPA.out _ D2.out, ?_⟩) | (refine ⟨_, _, rfl, LPB.out _ D2.out, ?_⟩))
      | ((with_reducible refine wpList_eqlG 35 _ _ rfl (by kernel_rfl) guard_pk ?_); refine ⟨_, _, _, rfl, rfl, EP.out _, ?_⟩; rw [decide_eq_true h10.1, decide_eq_true h10.2])
      | (go_at_call 28; refine (SE.out _ D0.out).mono ?_; rintro e w1 ⟨rfl, hd⟩; have D1 := Lib.hid (dr_tr D0.out hd); clear hd; rw [decide_eq_true h3]; have ca19 := (CA.out _ D1.out).at (cn_19 OA.out ga ra); have cb19 := (CC.out _ D1.out).at (cn_19 OB.out gb rb); have ca20 := (CA.out _ D1.out).at (cn_20 OA.out ga ra); have cb20 := (CC.out _ D1.out).at (cn_20 OB.out gb rb))
      | (go_at_call 29; refine (IE.out _ D1.out).mono ?_; rintro e w2 ⟨rfl, hd⟩; have D2 := Lib.hid (dr_tr D1.out hd); clear hd; rw [decide_eq_true h5]; have ca53 := (CA.out _ D2.out).at (cn_53 OA.out ga ra); have cb53 := (CC.out _ D2.out).at (cn_53 OB.out gb rb); have ca54 := (CA.out _ D2.out).at (cn_54 OA.out ga ra); have cb54 := (CC.out _ D2.out).at (cn_54 OB.out gb rb); have ca55 := (CA.out _ D2.out).at (cn_55 OA.out ga ra); have cb55 := (CC.out _ D2.out).at (cn_55 OB.out gb rb); have ca73 := (CA.out _ D2.out).at (cn_73 OA.out ga ra); have cb73 := (CC.out _ D2.out).at (cn_73 OB.out gb rb); have ca74 := (CA.out _ D2.out).at (cn_74 OA.out ga ra); have cb74 := (CC.out _ D2.out).at (cn_74 OB.out gb rb)))
    go_ret
    refine ⟨by rw [show decide (a.p = b.p) = false from decide_eq_false (fun e => n12 (by have := PQ.out.1 e; exact this.2.2.2.2.2.2.2.2.2.2.2.2))]; rfl, ?_⟩
    exact B0.out.trans ((Dr.below D2.out).mono B0.out.size)
  have e0 := toList_eq h0
  have e2 := int_beq h2
  have e4 := toList_eq h4
  have e7 := toList_eq h7
  have e8 := toList_eq h8
  have e9 := int_beq h9
  have e11 := int_beq h11
  have e12 := toList_eq h12
  have ca0 := (CA.out _ D0.out).at (cn_0 a ga ra)
  have cb0 := (CC.out _ D0.out).at (cn_0 b gb rb)
  have ca17 := (CA.out _ D0.out).at (cn_17 OA.out ga ra)
  have cb17 := (CC.out _ D0.out).at (cn_17 OB.out gb rb)
  have ca18 := (CA.out _ D0.out).at (cn_18 OA.out ga ra)
  have cb18 := (CC.out _ D0.out).at (cn_18 OB.out gb rb)
  go_wp2_with (first
      | ((with_reducible refine wpList_loadG 33 _ rfl (by kernel_rfl) ?_); first | (refine ⟨_, _, rfl, LAA.out _ D0.out, ?_⟩) | (refine ⟨_, _, rfl, LAB.out _ D0.out, ?_⟩))
      | ((with_reducible refine wpList_eqlG 33 _ _ rfl (by kernel_rfl) guard_author ?_); refine ⟨_, _, _, rfl, rfl, EA.out _, ?_⟩; rw [decide_eq_true h1])
      | ((with_reducible refine wpList_loadG 26 _ rfl (by kernel_rfl) ?_); first | (refine ⟨_, _, rfl, LSA.out _ D2.out, ?_⟩) | (refine ⟨_, _, rfl, LSB.out _ D2.out, ?_⟩))
      | ((with_reducible refine wpList_eqlG 26 _ _ rfl (by kernel_rfl) guard23 ?_); refine ⟨_, _, _, rfl, rfl, ES.out _, ?_⟩; rw [decide_eq_true h6])
      | ((with_reducible refine wpList_loadG 35 _ rfl (by kernel_rfl) ?_); first | (refine ⟨_, _, rfl, LPA.out _ D2.out, ?_⟩) | (refine ⟨_, _, rfl, LPB.out _ D2.out, ?_⟩))
      | ((with_reducible refine wpList_eqlG 35 _ _ rfl (by kernel_rfl) guard_pk ?_); refine ⟨_, _, _, rfl, rfl, EP.out _, ?_⟩; rw [decide_eq_true h10.1, decide_eq_true h10.2])
      | (go_at_call 28; refine (SE.out _ D0.out).mono ?_; rintro e w1 ⟨rfl, hd⟩; have D1 := Lib.hid (dr_tr D0.out hd); clear hd; rw [decide_eq_true h3]; have ca19 := (CA.out _ D1.out).at (cn_19 OA.out ga ra); have cb19 := (CC.out _ D1.out).at (cn_19 OB.out gb rb); have ca20 := (CA.out _ D1.out).at (cn_20 OA.out ga ra); have cb20 := (CC.out _ D1.out).at (cn_20 OB.out gb rb))
      | (go_at_call 29; refine (IE.out _ D1.out).mono ?_; rintro e w2 ⟨rfl, hd⟩; have D2 := Lib.hid (dr_tr D1.out hd); clear hd; rw [decide_eq_true h5]; have ca53 := (CA.out _ D2.out).at (cn_53 OA.out ga ra); have cb53 := (CC.out _ D2.out).at (cn_53 OB.out gb rb); have ca54 := (CA.out _ D2.out).at (cn_54 OA.out ga ra); have cb54 := (CC.out _ D2.out).at (cn_54 OB.out gb rb); have ca55 := (CA.out _ D2.out).at (cn_55 OA.out ga ra); have cb55 := (CC.out _ D2.out).at (cn_55 OB.out gb rb); have ca73 := (CA.out _ D2.out).at (cn_73 OA.out ga ra); have cb73 := (CC.out _ D2.out).at (cn_73 OB.out gb rb); have ca74 := (CA.out _ D2.out).at (cn_74 OA.out ga ra); have cb74 := (CC.out _ D2.out).at (cn_74 OB.out gb rb)))
  go_ret
  refine ⟨by rw [show decide (a.p = b.p) = true from decide_eq_true (PQ.out.2 ⟨h0, h1, h2, h3, h4, h5, h6, h7, h8, h9, h10, h11, h12⟩)]; rfl, ?_⟩
  exact B0.out.trans ((Dr.below D2.out).mono B0.out.size)
end Go.Proofs.YtohmdledkhgdaaaGreatDoor
