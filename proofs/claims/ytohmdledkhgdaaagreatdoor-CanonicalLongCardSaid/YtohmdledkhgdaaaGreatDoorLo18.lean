/- The words of a command: mode. -/
import Derived.Test.YtohmdledkhgdaaaGreatDoorLo17
import Derived.Great.Walk
namespace Go.Proofs.YtohmdledkhgdaaaGreatDoor
open Go.RowKit
set_option linter.unusedVariables false
set_option maxRecDepth 100000
theorem blt_au : ∀ (l : List Value), l.length = 16 → Tryz.prog.builtSlice 33 1 [((0 : Nat), Value.agg l.toArray)] = some l.toArray
  | [v0, v1, v2, v3, v4, v5, v6, v7, v8, v9, v10, v11, v12, v13, v14, v15], _ => by kernel_rfl
theorem infoAu : (Tryz.prog.info? 33).map (fun i => (i.zero, i.size, i.bytes)) = some (some (.agg (idA zero16)), 16, 16) := by kernel_rfl
theorem fold_au : ∀ (l : List Value), l.length = 16 → Array.foldl (fun (cs : Array Value) (x : Value × Nat) => cs.setIfInBounds x.snd x.fst) #[Value.int .u8 0, Value.int .u8 0, Value.int .u8 0, Value.int .u8 0, Value.int .u8 0, Value.int .u8 0, Value.int .u8 0, Value.int .u8 0, Value.int .u8 0, Value.int .u8 0, Value.int .u8 0, Value.int .u8 0, Value.int .u8 0, Value.int .u8 0, Value.int .u8 0, Value.int .u8 0] l.toArray.zipIdx 0 l.toArray.size = l.toArray
  | [v0, v1, v2, v3, v4, v5, v6, v7, v8, v9, v10, v11, v12, v13, v14, v15], _ => by kernel_rfl
/-- The author of a word (zero where it is none). -/
def auZ (g : ByteArray) : List Nat := (autP (bs g)).getD zero16
theorem auZ_ok (g : ByteArray) : AuOk (auZ g) := by
  unfold auZ
  cases h : autP (bs g) with
  | none => exact zero16_ok
  | some id => exact aut_ok h
def auCells (gs : List ByteArray) : List Value := gs.flatMap fun g => (auZ g).map U
theorem auCells_snoc (gs : List ByteArray) (g : ByteArray) : auCells (gs ++ [g]) = auCells gs ++ (auZ g).map U := by simp [auCells]
def auBad (gs : List ByteArray) : Nat := if gs.any (fun g => (autP (bs g)).isNone) = true then 3 else 0
theorem auBad_snoc (gs : List ByteArray) (g : ByteArray) : auBad (gs ++ [g]) = fe (auBad gs) (if (autP (bs g)).isNone = true then 3 else 0) := by
  unfold auBad fe
  rw [List.any_append]
  cases gs.any (fun g => (autP (bs g)).isNone) <;> cases h : (autP (bs g)).isNone <;> simp [h]
theorem mapM_aut : ∀ (gs : List ByteArray) , ((gs.map bs).mapM autP) = if gs.any (fun g => (autP (bs g)).isNone) = true then none else some (gs.map auZ)
  | [] => rfl
  | g :: gs => by
    have ih := mapM_aut gs
    rw [List.map_cons, List.mapM_cons, List.any_cons, ih]
    cases h : autP (bs g) with
    | none => simp
    | some id =>
      have e : auZ g = id := by unfold auZ; rw [h]; rfl
      cases hq : gs.any (fun g => (autP (bs g)).isNone) <;> simp [e]
theorem mods_law {x : List Nat} {gs : List ByteArray} (h : gs.map bs = spl 44 x) : modsF x = fe (fe (auBad gs) (eIf (decide (8 < gs.length)) 9)) (eIf (!incB (gs.map auZ)) 30) := by
  unfold modsF auBad fe eIf
  rw [← h, mapM_aut]
  cases gs.any (fun g => (autP (bs g)).isNone)
  · simp only [Bool.false_eq_true, if_false, List.length_map]
    by_cases h8 : 8 < gs.length <;> cases incB (gs.map auZ) <;> simp [h8]
  · simp
/-- The law of mode. -/
def ModL (t : ByteArray) (en er en' er' : Nat) : Prop :=
  ∀ k : List Nat → Nat, fe er (nxt ((bs t).drop en) fun m T => if m = wOpen then k T else if m = wMod then nxt T (fun a T => fe (modsF a) (k T)) else 3) = fe er' (k ((bs t).drop en'))
def ModPost (w : World) (b : Nat) (t : ByteArray) (en er : Nat) (e : Ending) (w' : World) : Prop :=
  ∃ (bo : Bool) (v : Value) (st' en' : Nat) (a : Int) (er' : Nat), e = .returned (.tuple #[.bool bo, v]) ∧ (∃ sa sn sc, v = .slice sa sn sc) ∧ WS w' b t st' en' a er' ∧ Fr1 b w w' ∧ ModL t en er en' er'
theorem str_eqb {x : ByteArray} {s : ByteArray} (h : bs x = bs s) : x = s := by
  apply ByteArray.ext
  apply Array.toList_inj.1
  have := h
  unfold bs at this
  exact (List.map_inj_right (fun a b e => u8_inj e)).1 this
theorem auCells_at : ∀ (gs : List ByteArray) (q k : Nat) (hq : q < gs.length), k < 16 → (auCells gs)[q * 16 + k]? = ((auZ gs[q]).map U)[k]?
  | g :: gs, 0, k, _, hk => by
    show ((auZ g).map U ++ auCells gs)[0 * 16 + k]? = _
    rw [List.getElem?_append_left (by rw [List.length_map, (auZ_ok g).len]; omega)]
    simp
  | g :: gs, q + 1, k, hq, hk => by
    show ((auZ g).map U ++ auCells gs)[(q + 1) * 16 + k]? = _
    rw [List.getElem?_append_right (by rw [List.length_map, (auZ_ok g).len]; omega), List.length_map, (auZ_ok g).len, show (q + 1) * 16 + k - 16 = q * 16 + k by omega, auCells_at gs q k (by simpa using hq) hk]
    rfl
  | [], _, _, hq, _ => by simp at hq
theorem owns_au {w : World} {base n : Nat} {v : Value} {gs : List ByteArray} (hn : n = gs.length) (h : w.ownsRow base 33 16 v n (auCells gs)) : ∃ (va : Option Addr) (vc : Nat), v = .slice va n vc ∧ ARow w va (gs.map auZ) := by
  rcases h.2 with ⟨rfl, h0⟩ | ⟨g, cap, cur, rfl, hg, hgb, hc, _, hs, ht⟩
  · refine ⟨none, 0, by rw [h0], fun hne => absurd ?_ hne⟩
    rw [h0] at hn
    rw [List.map_eq_nil_iff]; exact List.length_eq_zero_iff.1 hn.symm
  · refine ⟨_, cap, rfl, fun _ => ⟨g, 0, rfl, fun q hq k u hu => ?_⟩⟩
    have hq' : q < gs.length := by simpa using hq
    have hk : k < 16 := by
      have := (Array.getElem?_eq_some_iff.1 hu).1
      rw [idA_size, List.getElem_map, (auZ_ok _).len] at this; exact this
    rw [Nat.zero_add, cell_of_row w g _ _ _ _ hgb]
    have e1 : (cur.toList.take (n * 16))[q * 16 + k]? = some u := by
      rw [ht, auCells_at gs q k hq' hk]
      rw [List.getElem_map] at hu
      unfold idA at hu
      rw [List.getElem?_toArray] at hu
      exact hu
    rw [List.getElem?_take] at e1
    split at e1
    · simpa using e1
    · cases e1
theorem owns_fr {W w2 : World} {base e size n b : Nat} {v : Value} {xs : List Value} (h : W.ownsRow base e size v n xs) (hb : Fr1 b W w2) (hlt : b < base) : w2.ownsRow base e size v n xs := by
  rcases h.2 with ⟨rfl, h0⟩ | ⟨g, cap, cur, rfl, hg, hgb, r⟩
  · exact ⟨h.1, .inl ⟨rfl, h0⟩⟩
  · exact ⟨h.1, .inr ⟨g, cap, cur, rfl, hg, (hb.other g (lt_of_block hgb) (by omega)).trans hgb, r⟩⟩
set_option maxHeartbeats 4000000 in
theorem mode_any (w : World) (b : Nat) (t : ByteArray) (st en : Nat) (at_ : Int) (er : Nat) (h : WS w b t st en at_ er) (hE : Env w) (hb9 : 9 ≤ b) (ht' : t.size ≤ 100000) :
    Calls Tryz.prog 190 #[.pointer (some ⟨b, 0, none⟩)] w (ModPost w b t en er) := by
  have ht : t.size ≤ 1000000 := by omega
  have NX := Lib.hid (next_any w b t st en at_ er h hE hb9 ht)
  have HE := Lib.hid hE
  clear h hE
  go_enter Tryz.func190, Tryz.ntmps190
  go_wp2_with fail
  refine NX.out.mono ?_
  rintro e w1 ⟨x, ok, st', en', a, er', rfl, h1, f1, hx, h⟩
  have hc1 : w1.cell? ⟨b, 1, none⟩ = some (.int .i64 (st' : Int)) := cell_of_row w1 b 1 _ _ _ h1.1
  have H1 := Lib.hid h1; have F1 := Lib.hid f1
  have E1 := Lib.hid (fr_env HE.out hb9 f1)
  clear NX h1 f1
  rcases h with ⟨rfl, hne, hk⟩ | ⟨rfl, rfl, rfl, hk⟩
  · have LAW : Hid (ModL t en er en' er') := Lib.hid (fun k => by rw [hk]; unfold fe; rw [if_pos hne])
    clear hne hk
    go_wp2_with fail
    go_ret2
    exact ⟨_, _, st', en', a, er', rfl, ⟨_, _, _, rfl⟩, H1.out, F1.out, LAW.out⟩
  · have HK := Lib.hid hk
    clear hk
    by_cases ho : x = ⟨#[111, 112, 101, 110]⟩
    · have LAW : Hid (ModL t en 0 en' 0) := Lib.hid (fun k => by rw [HK.out, ho, if_pos (by rfl)])
      subst ho
      go_wp2_with fail
      go_ret2
      exact ⟨_, _, st', en', a, 0, rfl, ⟨_, _, _, rfl⟩, H1.out, F1.out, LAW.out⟩
    · have hno : bs x ≠ wOpen := fun e => ho (str_eqb (e.trans (by rfl)))
      have q1 : (x.toList == [111, 112, 101, 110]) = false := by
        rw [beq_eq_false_iff_ne]; intro e; apply ho; apply ByteArray.ext; apply Array.toList_inj.1; rw [← ByteArray.toList_eq]; exact e
      by_cases hm : x = ⟨#[109, 111, 100, 101, 114, 97, 116, 101, 100]⟩
      · subst hm
        have hm2 : bs (⟨#[109, 111, 100, 101, 114, 97, 116, 101, 100]⟩ : ByteArray) = wMod := by rfl
        have HK2 : Hid (∀ k : List Nat → Nat, fe 0 (nxt ((bs t).drop en) fun m T => if m = wOpen then k T else if m = wMod then nxt T (fun a T => fe (modsF a) (k T)) else 3) = fe 0 (nxt ((bs t).drop en') (fun a T => fe (modsF a) (k T)))) := Lib.hid (fun k => by rw [HK.out, if_neg hno, if_pos hm2])
        have NX2 := Lib.hid (next_any w1 b t st' en' a 0 H1.out E1.out hb9 ht)
        obtain ⟨x0, hx0⟩ : ∃ x0 : ByteArray, x0 = ⟨#[109, 111, 100, 101, 114, 97, 116, 101, 100]⟩ := ⟨_, rfl⟩
        clear ho hno HK hm2 hc1
        go_wp2_with fail
        refine NX2.out.mono ?_
        rintro e w2 ⟨x2, ok2, st2, en2, a2, er2, rfl, h2, f2, hx2, hh⟩
        have H2 := Lib.hid h2; have F2 := Lib.hid (F1.out.trans f2)
        have E2 := Lib.hid (fr_env E1.out hb9 f2)
        clear NX2 h2 f2 q1
        rcases hh with ⟨rfl, hne, hk⟩ | ⟨rfl, _, rfl, hk⟩
        · have LAW : Hid (ModL t en 0 en2 er2) := Lib.hid (fun k => by rw [HK2.out, hk]; unfold fe; rw [if_pos hne])
          clear hne hk HK2
          go_wp2_with fail
          go_ret2
          exact ⟨_, _, st2, en2, a2, er2, rfl, ⟨_, _, _, rfl⟩, H2.out, F2.out, LAW.out⟩
        · have LAW : Hid (ModL t en 0 en2 (modsF (bs x2))) := Lib.hid (fun k => by rw [HK2.out, hk]; rfl)
          have SP := Lib.hid (split_any x2 44 w2 (by omega) E2.out)
          clear hk HK2
          go_wp2_with fail
          refine SP.out.mono ?_
          rintro e w3 ⟨v, gs, rfl, hgs, ⟨sa, scap, rfl, hscap, hrow⟩, hgz, hgn, hown, hb3⟩
          have HGS := Lib.hid hgs
          have H3 := Lib.hid (H2.out.below hb3)
          have F3 := Lib.hid (F2.out.trans (Fr1.of_below hb3))
          have hb2' : b < w2.heap.size := H2.out.lt
          have hb3' : b < w3.heap.size := H3.out.lt
          have ROW : Hid (gs ≠ [] → ∃ b' off, sa = some ⟨b', off, none⟩ ∧ b' < w3.heap.size ∧ b' ≠ b ∧ ∀ j (h : j < gs.length), w3.cell? ⟨b', off + j, none⟩ = some (.string gs[j])) := Lib.hid (fun hne => by
            obtain ⟨b', off, h1, h2, h3⟩ := hrow hne
            refine ⟨b', off, h1, h2, ?_, h3⟩
            have := (hown.lt b' (by rw [h1]; rfl)).1
            omega)
          have GZ := Lib.hid hgz
          obtain ⟨n, hn⟩ : ∃ n, n = gs.length := ⟨_, rfl⟩
          have HN := Lib.hid hn
          rw [← hn] at hgn ⊢
          obtain ⟨i0, hi0, hz0, hz1, hz2⟩ := info_parts infoAu
          have hw03 : w.heap.size ≤ w3.heap.size := F3.out.size
          clear SP hgs hrow hgz hown hb3 hn hscap
          go_wp2_with fail
          go_loopg [6, 8, 9, 10, 11, 41] n (fun k v s8 s9 s10 s11 i wr => ∃ (j : Nat) (a : Int), j ≤ n ∧ k = n - j ∧ i = .int .i64 (j : Int) ∧ Hid (WS wr b t st2 en2 a (auBad (gs.take j))) ∧ Hid (wr.ownsRow w3.heap.size 33 16 v j (auCells (gs.take j))) ∧ Hid (Fr1 b w3 wr))
          case atStart => exact ⟨0, a2, by omega, rfl, rfl, Lib.hid (by exact H3.out), Lib.hid (World.ownsRow_nil _ _ _ _), Lib.hid (Fr1.refl _ _)⟩
          case round =>
            obtain ⟨j, ar, hj, rfl, rfl, hws, ho, hfr⟩ := hrel
            by_cases hjn : j < n
            · have hjl : j < gs.length := by rw [← HN.out]; exact hjn
              obtain ⟨b', off, rfl, hbl, hbb, hcl⟩ := ROW.out (by intro e; rw [e] at hjl; simp at hjl)
              obtain ⟨g, hg⟩ : ∃ g, g = gs[j] := ⟨_, rfl⟩
              have hcg : wr.cell? ⟨b', off + j, none⟩ = some (.string g) := by
                have h5 := hcl j hjl
                rw [← hg] at h5
                have := hfr.out.other b' hbl hbb
                unfold World.cell? at h5 ⊢
                simp only [this]
                exact h5
              have hgs1 : g.size ≤ 1000000 := by have := GZ.out g (by rw [hg]; exact List.getElem_mem hjl); omega
              have TKE : gs.take (j + 1) = gs.take j ++ [g] := by rw [List.take_succ_eq_append_getElem hjl, hg]
              have PA := Lib.hid (pauthor_any g wr hgs1)
              have TB := Lib.hid (show auBad (gs.take (j + 1)) = fe (auBad (gs.take j)) (if (autP (bs g)).isNone = true then 3 else 0) by rw [TKE, auBad_snoc])
              obtain ⟨cs, hcs⟩ : ∃ cs, cs = idA (auZ g) := ⟨_, rfl⟩
              have CL : Hid (Cl 16 cs) := Lib.hid (by rw [hcs]; exact cl_au (auZ_ok g))
              have TS : Hid (auCells (gs.take (j + 1)) = auCells (gs.take j) ++ cs.toList) := Lib.hid (by rw [TKE, auCells_snoc, hcs]; rfl)
              have PA2 : Hid (Calls Tryz.prog 111 #[.string g] wr fun e w' => ∃ (aa er : Int), e = .returned (.tuple #[.agg cs, .int .i64 aa, .int .i64 er]) ∧ ((autP (bs g)).isNone = true ↔ er ≠ 0) ∧ Below wr.heap.size wr w') := Lib.hid (PA.out.mono (by
                rintro e w' ⟨aa, er, h1, h2⟩
                rw [hcs]
                unfold auZ
                cases hq : autP (bs g) with
                | none => rw [hq] at h1; obtain ⟨rfl, h3⟩ := h1; exact ⟨aa, er, rfl, by simp [h3], h2⟩
                | some id => rw [hq] at h1; subst h1; exact ⟨aa, 0, rfl, by simp, h2⟩))
              have CSZ : Hid (cs.size = 16) := Lib.hid CL.out.1
              have ONE := Lib.hid (cl_mem CL.out)
              have BS : Hid (Tryz.prog.builtSlice 33 1 [((0 : Nat), Value.agg cs)] = some cs) := Lib.hid (by have := blt_au cs.toList (by simpa using CSZ.out); simpa using this)
              have FO : Hid (Array.foldl (fun (cs : Array Value) (x : Value × Nat) => cs.setIfInBounds x.snd x.fst) #[Value.int .u8 0, Value.int .u8 0, Value.int .u8 0, Value.int .u8 0, Value.int .u8 0, Value.int .u8 0, Value.int .u8 0, Value.int .u8 0, Value.int .u8 0, Value.int .u8 0, Value.int .u8 0, Value.int .u8 0, Value.int .u8 0, Value.int .u8 0, Value.int .u8 0, Value.int .u8 0] cs.zipIdx 0 cs.size = cs) := Lib.hid (by have := fold_au cs.toList (by simpa using CSZ.out); simpa using this)
              have FO2 : Hid (Array.foldl (fun (cs : Array Value) (x : Value × Nat) => cs.setIfInBounds x.snd x.fst) #[Value.int .u8 0, Value.int .u8 0, Value.int .u8 0, Value.int .u8 0, Value.int .u8 0, Value.int .u8 0, Value.int .u8 0, Value.int .u8 0, Value.int .u8 0, Value.int .u8 0, Value.int .u8 0, Value.int .u8 0, Value.int .u8 0, Value.int .u8 0, Value.int .u8 0, Value.int .u8 0] cs.zipIdx 0 16 = cs) := Lib.hid (by have := FO.out; rw [CSZ.out] at this; exact this)
              clear hcl hcs hg PA TKE
              have hbwr : b < wr.heap.size := hws.out.lt
              have hw3r : w3.heap.size ≤ wr.heap.size := hfr.out.size
              go_wp2_with fail
              refine PA2.out.mono ?_
              rintro e w4 ⟨aa, er4, rfl, hiff, hb4⟩
              have STN : Hid (∀ zz : Array Value, zz.size = 16 → (storeVar 33 ⟨w4.heap.size, 0, none⟩ (.agg cs)).run Tryz.prog (w4.alloc (.cells zz 33)) = .ok () (w4.alloc (.cells cs 33))) := Lib.hid (fun zz hz => run_storeVar_new w4 33 zz cs (by rw [CL.out.1]; exact size16) (by rw [hz, CL.out.1]) CL.out.2)
              have hb5 : Below wr.heap.size wr (w4.alloc (.cells cs 33)) := hb4.alloc hb4.size _
              have P5 := Lib.hid (heap_alloc_new w4 (.cells cs 33))
              have H5 := Lib.hid (hws.out.below hb5)
              have O5 := Lib.hid (owns_below ho.out hb5)
              have F5 := Lib.hid (hfr.out.trans (Fr1.of_below hb5))
              have hw4 : wr.heap.size ≤ w4.heap.size := hb4.size
              have hc1 : (w4.alloc (.cells cs 33)).cell? ⟨b, 1, none⟩ = some (.int .i64 (st2 : Int)) := cell_of_row _ b 1 _ _ _ H5.out.1
              have FL := Lib.hid (fail_any _ b t st2 en2 ar _ H5.out (st2 : Int) 3)
              have HIFF := Lib.hid hiff
              clear hb4 hb5 PA2 hiff hws ho hfr
              by_cases her : er4 = 0
              · subst her
                have TB2 : Hid (auBad (gs.take (j + 1)) = auBad (gs.take j)) := Lib.hid (by rw [TB.out, if_neg (fun h => HIFF.out.1 h rfl), fe_z0])
                go_upto_region 17 with ((with_reducible refine wpList_store 33 rfl _ _ rfl ?_); refine ⟨_, _, _, rfl, rfl, STN.out _ rfl, ?_⟩)
                obtain ⟨w6, hw6⟩ : ∃ w6, w6 = w4.alloc (.cells cs 33) := ⟨_, rfl⟩
                have F6 : Hid (Fr1 b (w4.alloc (.cells cs 33)) w6) := Lib.hid (by rw [hw6]; exact Fr1.refl _ _)
                obtain ⟨a6, ha6⟩ : ∃ a6, a6 = ar := ⟨_, rfl⟩
                have H6 : Hid (WS w6 b t st2 en2 a6 (auBad (gs.take (j + 1)))) := Lib.hid (by rw [TB2.out, hw6, ha6]; exact H5.out)
                have P6 : Hid (w6.heap[w4.heap.size]? = some (.cells cs 33 (0, 0))) := Lib.hid (by rw [hw6]; exact P5.out)
                rw [← hw6]
                have LD := Lib.hid (run_load_cl w6 w4.heap.size 16 _ _ cs _ _ P6.out rfl Tryz.underlying33 size16 CL.out.1)
                have O6 := Lib.hid (owns_fr O5.out F6.out hb3')
                have hw36 : w3.heap.size ≤ w6.heap.size := by have := F6.out.size; simp at this; omega
                have GROW : Hid (∀ (o : Obj) (w8 : World), (w6.alloc o).grownBy w8 u6.ownBlock → WS w8 b t st2 en2 a6 (auBad (gs.take (j + 1))) ∧ Fr1 b w3 w8) := Lib.hid (fun o w8 hg => by
                  have B1 : Below w3.heap.size w6 (w6.alloc o) := (Below.refl _ _).alloc hw36 _
                  have B := Below.grown B1 hg (by simp; omega) (fun k hk => (O6.out.lt k hk).1)
                  exact ⟨⟨(B.block b hb3').trans H6.out.1, H6.out.2⟩, ⟨B.os.trans (F5.out.trans F6.out).os, B.tape.trans (F5.out.trans F6.out).tape, B.output.trans (F5.out.trans F6.out).output, Nat.le_trans hw36 B.size, fun k hk hne => (B.block k hk).trans ((F5.out.trans F6.out).other k hk hne)⟩⟩)
                clear hw6 ha6 FL hc1 STN P5 H5
                have hcz : cs.size = 16 := CSZ.out
                go_wp2_with (first
                  | ((with_reducible refine wpList_load 33 rfl _ rfl ?_); refine ⟨_, _, rfl, LD.out, ?_⟩)
                  | ((with_reducible refine wpList_buildSliceTo rfl 150 33 1 _ rfl w6.heap.size rfl _ rfl Tryz.underlying150 cs BS.out ?_))
                  | (at_builtin; refine wpList_append_own _ rfl _ _ 150 rfl w3.heap.size 33 i0 (.agg (idA zero16)) 16 16 Tryz.underlying150 hi0 hz0 hz1 hz2 rfl (by decide) _ _ _ rfl (O6.out.alloc _) ⟨w6.heap.size, 0, none⟩ 1 1 cs.toList rfl (by simpa using CSZ.out) (World.news_of_block (cs := cs) (t := 33) (fr := (0, 0)) (by (first | rw [FO2.out] | rw [FO.out]); exact heap_alloc_new w6 _)) ONE.out (by unfold maxLen; omega) (by omega) (by simp; omega) ?_; intro v' w8 hown' hgrow _))
                have O8 : Hid (w8.ownsRow w3.heap.size 33 16 v' (j + 1) (auCells (gs.take (j + 1)))) := Lib.hid (by rw [TS.out]; exact hown')
                have F8 := Lib.hid (GROW.out _ w8 hgrow)
                clear hown' hgrow
                go_wp2_with fail
                go_roundg (n - (j + 1))
                case measure => omega
                case rel => exact ⟨j + 1, a6, by omega, rfl, by go_num, Lib.hid F8.out.1, O8, Lib.hid F8.out.2⟩
              · have q0 : (er4 != 0) = true := int_neq her
                have TB2 : Hid (auBad (gs.take (j + 1)) = fe (auBad (gs.take j)) 3) := Lib.hid (by rw [TB.out, if_pos (HIFF.out.2 her)])
                clear her
                go_wp2_with ((with_reducible refine wpList_store 33 rfl _ _ rfl ?_); refine ⟨_, _, _, rfl, rfl, STN.out _ rfl, ?_⟩)
                refine FL.out.mono ?_
                rintro e w6 ⟨⟨v, rfl⟩, ⟨a6, h6⟩, f6⟩
                have H6 : Hid (WS w6 b t st2 en2 a6 (auBad (gs.take (j + 1)))) := Lib.hid (by rw [TB2.out]; exact h6)
                have F6 := Lib.hid f6
                have P6 := Lib.hid ((f6.other w4.heap.size (by simp) (by omega)).trans P5.out)
                have LD := Lib.hid (run_load_cl w6 w4.heap.size 16 _ _ cs _ _ P6.out rfl Tryz.underlying33 size16 CL.out.1)
                have O6 := Lib.hid (owns_fr O5.out F6.out hb3')
                have hw36 : w3.heap.size ≤ w6.heap.size := by have := F6.out.size; simp at this; omega
                have GROW : Hid (∀ (o : Obj) (w8 : World), (w6.alloc o).grownBy w8 u6.ownBlock → WS w8 b t st2 en2 a6 (auBad (gs.take (j + 1))) ∧ Fr1 b w3 w8) := Lib.hid (fun o w8 hg => by
                  have B1 : Below w3.heap.size w6 (w6.alloc o) := (Below.refl _ _).alloc hw36 _
                  have B := Below.grown B1 hg (by simp; omega) (fun k hk => (O6.out.lt k hk).1)
                  exact ⟨⟨(B.block b hb3').trans H6.out.1, H6.out.2⟩, ⟨B.os.trans (F5.out.trans F6.out).os, B.tape.trans (F5.out.trans F6.out).tape, B.output.trans (F5.out.trans F6.out).output, Nat.le_trans hw36 B.size, fun k hk hne => (B.block k hk).trans ((F5.out.trans F6.out).other k hk hne)⟩⟩)
                clear h6 f6 FL hc1 STN P5 H5
                have hcz : cs.size = 16 := CSZ.out
                go_wp2_with (first
                  | ((with_reducible refine wpList_load 33 rfl _ rfl ?_); refine ⟨_, _, rfl, LD.out, ?_⟩)
                  | ((with_reducible refine wpList_buildSliceTo rfl 150 33 1 _ rfl w6.heap.size rfl _ rfl Tryz.underlying150 cs BS.out ?_))
                  | (at_builtin; refine wpList_append_own _ rfl _ _ 150 rfl w3.heap.size 33 i0 (.agg (idA zero16)) 16 16 Tryz.underlying150 hi0 hz0 hz1 hz2 rfl (by decide) _ _ _ rfl (O6.out.alloc _) ⟨w6.heap.size, 0, none⟩ 1 1 cs.toList rfl (by simpa using CSZ.out) (World.news_of_block (cs := cs) (t := 33) (fr := (0, 0)) (by (first | rw [FO2.out] | rw [FO.out]); exact heap_alloc_new w6 _)) ONE.out (by unfold maxLen; omega) (by omega) (by simp; omega) ?_; intro v' w8 hown' hgrow _))
                have O8 : Hid (w8.ownsRow w3.heap.size 33 16 v' (j + 1) (auCells (gs.take (j + 1)))) := Lib.hid (by rw [TS.out]; exact hown')
                have F8 := Lib.hid (GROW.out _ w8 hgrow)
                clear hown' hgrow
                go_wp2_with fail
                go_roundg (n - (j + 1))
                case measure => omega
                case rel => exact ⟨j + 1, a6, by omega, rfl, by go_num, Lib.hid F8.out.1, O8, Lib.hid F8.out.2⟩
            · obtain rfl : j = n := by omega
              have hall : gs.take j = gs := List.take_of_length_le (by rw [HN.out]; exact Nat.le_refl _)
              rw [hall] at hws ho
              have ML : Hid (modsF (bs x2) = fe (fe (auBad gs) (eIf (decide (8 < gs.length)) 9)) (eIf (!incB (gs.map auZ)) 30)) := Lib.hid (mods_law HGS.out)
              obtain ⟨va, vc, rfl, har⟩ := owns_au HN.out ho.out
              have HAR := Lib.hid har
              have AOK : Hid (∀ y ∈ gs.map auZ, AuOk y) := Lib.hid (fun y hy => by obtain ⟨g, _, rfl⟩ := List.mem_map.1 hy; exact auZ_ok g)
              have LNM : Hid ((gs.map auZ).length = j) := Lib.hid (by rw [List.length_map, HN.out])
              rw [← HN.out] at ML
              have HWS := Lib.hid hws.out; have HFR := Lib.hid hfr.out
              have hc1 : wr.cell? ⟨b, 1, none⟩ = some (.int .i64 (st2 : Int)) := cell_of_row wr b 1 _ _ _ hws.out.1
              have OWN5 : Hid (∀ w5, Fr1 b wr w5 → ARow w5 va (gs.map auZ)) := Lib.hid (fun w5 f5 => by
                obtain ⟨va', vc', e1, e2⟩ := owns_au HN.out (owns_fr ho.out f5 hb3')
                cases e1; exact e2)
              clear har hall hws ho hfr ROW GZ
              by_cases h8 : 8 < j
              · have FL9 := Lib.hid (fail_any wr b t st2 en2 ar _ HWS.out (st2 : Int) 9)
                have ML9 : Hid (modsF (bs x2) = fe (fe (auBad gs) 9) (eIf (!incB (gs.map auZ)) 30)) := Lib.hid (by rw [ML.out, decide_eq_true h8]; rfl)
                clear ML
                have ML := ML9
                clear ML9
                go_wp2_with fail
                refine FL9.out.mono ?_
                rintro e w5 ⟨⟨v5, rfl⟩, ⟨a5, h5⟩, f5⟩
                have HAR5 : Hid (ARow w5 va (gs.map auZ)) := Lib.hid (OWN5.out w5 f5)
                have H5 := Lib.hid h5; have F5 := Lib.hid (HFR.out.trans f5)
                clear FL9 h5 f5 hc1 HAR
                have HAR := HAR5
                have IC := Lib.hid (inc_any w5 va vc (gs.map auZ) (by rw [List.length_map, ← HN.out]; omega) HAR.out AOK.out)
                rw [LNM.out] at IC
                obtain ⟨ib, hib⟩ : ∃ ib, ib = incB (gs.map auZ) := ⟨_, rfl⟩
                rw [← hib] at IC ML
                clear hib
                go_wp2_with fail
                refine IC.out.mono ?_
                rintro e w6 ⟨rfl, hd6⟩
                have hb6 := Dr.below hd6
                have h6 := H5.out.below hb6
                have F6 := Lib.hid (F5.out.trans (Fr1.of_below hb6))
                have H6 := Lib.hid h6
                have hc6 : w6.cell? ⟨b, 1, none⟩ = some (.int .i64 (st2 : Int)) := cell_of_row w6 b 1 _ _ _ h6.1
                clear hd6 hb6 h6 IC
                cases ib
                · have FL30 := Lib.hid (fail_any w6 b t st2 en2 _ _ H6.out (st2 : Int) 30)
                  go_wp2_with fail
                  refine FL30.out.mono ?_
                  rintro e w7 ⟨⟨v, rfl⟩, ⟨a7, h7⟩, f7⟩
                  have H7 : Hid (WS w7 b t st2 en2 a7 (modsF (bs x2))) := Lib.hid (by rw [ML.out]; exact h7)
                  have F7 := Lib.hid (F6.out.trans f7)
                  clear FL30 h7 f7 hc6
                  go_wp2_with fail
                  go_ret2
                  exact ⟨_, _, st2, en2, a7, _, rfl, ⟨_, _, _, rfl⟩, H7.out, F3.out.trans F7.out, LAW.out⟩
                · have H7 : Hid (WS w6 b t st2 en2 _ (modsF (bs x2))) := Lib.hid (by rw [ML.out]; show WS w6 b t st2 en2 _ (fe _ 0); rw [fe_z0]; exact H6.out)
                  go_wp2_with fail
                  go_ret2
                  exact ⟨_, _, st2, en2, _, _, rfl, ⟨_, _, _, rfl⟩, H7.out, F3.out.trans F6.out, LAW.out⟩
              · have ML9 : Hid (modsF (bs x2) = fe (auBad gs) (eIf (!incB (gs.map auZ)) 30)) := Lib.hid (by rw [ML.out, decide_eq_false h8]; show fe (fe _ 0) _ = _; rw [fe_z0])
                clear ML hc1
                have ML := ML9
                clear ML9
                have IC := Lib.hid (inc_any wr va vc (gs.map auZ) (by rw [List.length_map, ← HN.out]; omega) HAR.out AOK.out)
                rw [LNM.out] at IC
                obtain ⟨ib, hib⟩ : ∃ ib, ib = incB (gs.map auZ) := ⟨_, rfl⟩
                rw [← hib] at IC ML
                clear hib
                go_wp2_with fail
                refine IC.out.mono ?_
                rintro e w6 ⟨rfl, hd6⟩
                have hb6 := Dr.below hd6
                have h6 := HWS.out.below hb6
                have F6 := Lib.hid (HFR.out.trans (Fr1.of_below hb6))
                have H6 := Lib.hid h6
                have hc6 : w6.cell? ⟨b, 1, none⟩ = some (.int .i64 (st2 : Int)) := cell_of_row w6 b 1 _ _ _ h6.1
                clear hd6 hb6 h6 IC
                cases ib
                · have FL30 := Lib.hid (fail_any w6 b t st2 en2 _ _ H6.out (st2 : Int) 30)
                  go_wp2_with fail
                  refine FL30.out.mono ?_
                  rintro e w7 ⟨⟨v, rfl⟩, ⟨a7, h7⟩, f7⟩
                  have H7 : Hid (WS w7 b t st2 en2 a7 (modsF (bs x2))) := Lib.hid (by rw [ML.out]; exact h7)
                  have F7 := Lib.hid (F6.out.trans f7)
                  clear FL30 h7 f7 hc6
                  go_wp2_with fail
                  go_ret2
                  exact ⟨_, _, st2, en2, a7, _, rfl, ⟨_, _, _, rfl⟩, H7.out, F3.out.trans F7.out, LAW.out⟩
                · have H7 : Hid (WS w6 b t st2 en2 _ (modsF (bs x2))) := Lib.hid (by rw [ML.out]; show WS w6 b t st2 en2 _ (fe _ 0); rw [fe_z0]; exact H6.out)
                  go_wp2_with fail
                  go_ret2
                  exact ⟨_, _, st2, en2, _, _, rfl, ⟨_, _, _, rfl⟩, H7.out, F3.out.trans F6.out, LAW.out⟩
      · have hnm : bs x ≠ wMod := fun e => hm (str_eqb (e.trans (by rfl)))
        have q2 : (x.toList == [109, 111, 100, 101, 114, 97, 116, 101, 100]) = false := by
          rw [beq_eq_false_iff_ne]; intro e; apply hm; apply ByteArray.ext; apply Array.toList_inj.1; rw [← ByteArray.toList_eq]; exact e
        have LAW : Hid (ModL t en 0 en' 3) := Lib.hid (fun k => by rw [HK.out, if_neg hno, if_neg hnm]; rfl)
        have FL := Lib.hid (fail_any w1 b t st' en' a 0 H1.out (st' : Int) 3)
        clear ho hno hm hnm
        go_wp2_with fail
        refine FL.out.mono ?_
        rintro e w3 ⟨⟨v, rfl⟩, ⟨a', h3⟩, f3⟩
        have H3 : Hid (WS w3 b t st' en' a' 3) := Lib.hid h3; have F3 := Lib.hid (F1.out.trans f3)
        clear FL h3 f3 hc1
        go_wp2_with fail
        go_ret2
        exact ⟨_, _, st', en', a', 3, rfl, ⟨_, _, _, rfl⟩, H3.out, F3.out, LAW.out⟩
set_option maxHeartbeats 4000000 in
theorem form3_any (w : World) (b : Nat) (t : ByteArray) (st en : Nat) (at_ : Int) (er : Nat) (h : WS w b t st en at_ er) (hE : Env w) (hb9 : 9 ≤ b) (ht2 : t.size ≤ 100000) :
    Calls Tryz.prog 188 #[.pointer (some ⟨b, 0, none⟩)] w (FormPost w b t en er (fun T => nxt T fun x T => fe (grpF x) ((fun T => nxt T fun x T => fe ((numF 0 1000000) x) ((fun T => nxt T fun m T => if m = wOpen then restF T else if m = wMod then nxt T (fun a T => fe (modsF a) (restF T)) else 3) T)) T))) := by
  have ht : t.size ≤ 1000000 := by omega
  obtain ⟨zs, hzs⟩ : ∃ zs, zs = cmdA 0 z32c := ⟨_, rfl⟩
  obtain ⟨ks, hks⟩ : ∃ ks, ks = cmdA 3 z32c := ⟨_, rfl⟩
  have ZCL : Hid (Cl 56 zs) := Lib.hid (by rw [hzs]; exact cl_cmdA 0 _ (by simp [z32c]) cl_z32c)
  have KCL : Hid (Cl 56 ks) := Lib.hid (by rw [hks]; exact cl_cmdA 3 _ (by simp [z32c]) cl_z32c)
  have BK : Hid (∀ w, (Instr.build 152 #[(0, .int .i64 3)]).run Tryz.prog w = .ok (.agg ks) w) := Lib.hid (fun w => by rw [hks]; exact build_cmdK w 3)
  have hbw := h.lt
  have STN : Hid (∀ zz : Array Value, zz.size = 56 → (storeVar 152 ⟨w.heap.size + 1, 0, none⟩ (.agg ks)).run Tryz.prog ((w.alloc (.cells zs 152)).alloc (.cells zz 152)) = .ok () ((w.alloc (.cells zs 152)).alloc (.cells ks 152))) := Lib.hid (fun zz hz => by
    have := run_storeVar_new (P := Tryz.prog) (w.alloc (.cells zs 152)) 152 zz ks (by rw [KCL.out.1]; exact size_cmd) (by rw [hz, KCL.out.1]) KCL.out.2
    rwa [World.size_alloc] at this)
  obtain ⟨w0, hw0⟩ : ∃ w0, w0 = (w.alloc (.cells zs 152)).alloc (.cells ks 152) := ⟨_, rfl⟩
  have bA : Below w.heap.size w (w.alloc (.cells zs 152)) := (Below.refl _ w).alloc (Nat.le_refl _) _
  have b0 : Below w.heap.size w w0 := by rw [hw0]; exact bA.alloc bA.size _
  have h0 := h.below b0
  have E0 := hE.on b0
  have F0 : Hid (Fr1 b w w0) := Lib.hid (Fr1.of_below b0)
  have Z0 : Hid (w0.heap[w.heap.size]? = some (.cells zs 152 (0, 0))) := Lib.hid (by
    rw [hw0]
    exact (((Below.refl _ (w.alloc (.cells zs 152))).alloc (Nat.le_refl _) _).block w.heap.size (by simp)).trans (heap_alloc_new w _))
  have hm0 : MB w0 (w.heap.size + 1) := ⟨ks, by rw [hw0]; have := heap_alloc_new (w.alloc (.cells zs 152)) (.cells ks 152); rwa [World.size_alloc] at this, KCL.out⟩
  have M0 := Lib.hid hm0
  rw [hzs] at STN
  have HW : Hid (w0 = (w.alloc (.cells (cmdA 0 z32c) 152)).alloc (.cells ks 152)) := Lib.hid (by rw [hw0, hzs])
  have H0 := Lib.hid h0; have HE0 := Lib.hid E0
  have HB9 := Lib.hid hb9; have HT := Lib.hid ht
  clear h hE hzs hks hw0 bA b0 h0 E0 hm0
  have C1 := Lib.hid (group_any w0 b t st en at_ er H0.out HE0.out hb9 ht)
  go_enter Tryz.func188, Tryz.ntmps188
  go_wp2_with (first
    | ((with_reducible refine wpList_build1 152 rfl _ rfl ?_); refine ⟨_, _, rfl, BK.out _, ?_⟩)
    | ((with_reducible refine wpList_store 152 rfl _ _ rfl ?_); refine ⟨_, _, _, rfl, rfl, STN.out _ rfl, ?_⟩))
  have C1' : Hid (∀ wq, w0 = wq → Calls Tryz.prog 187 #[.pointer (some ⟨b, 0, none⟩)] wq (WPost w0 b t en er grpF fun v => ∃ s, v = .string s ∧ s.size ≤ t.size)) := Lib.hid (by rintro wq rfl; exact C1.out)
  refine (C1'.out _ HW.out).mono ?_
  clear C1 C1' HW STN BK
  rintro e v1 ⟨v, st1, en1, a1, er1, rfl, ⟨s1, rfl, hsz1⟩, h1, f1, hsl1⟩
  have MV1 := Lib.hid (M0.out.fr f1 (by omega))
  have ZV1 := Lib.hid ((f1.other w.heap.size (lt_of_block Z0.out) (by omega)).trans Z0.out)
  have FV1 := Lib.hid (F0.out.trans f1)
  have EV1 := Lib.hid (fr_env HE0.out hb9 f1)
  have HSL1 := Lib.hid hsl1
  obtain ⟨u1, hc1, hf1⟩ := MV1.out.cell (j := 33) (by omega)
  obtain ⟨y1, hy1⟩ : ∃ y, y = v1.setCell ⟨w.heap.size + 1, 33, none⟩ (.string s1) := ⟨_, rfl⟩
  have M1 : Hid (MB y1 (w.heap.size + 1)) := Lib.hid (by rw [hy1]; exact MV1.out.setCell 33 rfl)
  have ff1 : Fr1 (w.heap.size + 1) v1 y1 := by rw [hy1]; exact Fr1.setC _
  have H1 := Lib.hid (h1.fr ff1 (by omega))
  have F1 := Lib.hid (FV1.out.new ff1 (by omega))
  have Z1 := Lib.hid ((ff1.other w.heap.size (lt_of_block ZV1.out) (by omega)).trans ZV1.out)
  have HE1 := Lib.hid (fr_env EV1.out (by have := HB9.out; have := hbw; omega) ff1)
  have HY1 := Lib.hid hy1
  clear h1 f1 hsl1 ff1 hy1
  have C2 := Lib.hid (number_any y1 b t st1 en1 a1 er1 H1.out HE1.out hb9 ht 0 1000000 (by omega) (by omega))
  go_wp2_with fail
  rw [← HY1.out]
  refine C2.out.mono ?_
  rintro e v2 ⟨v, st2, en2, a2, er2, rfl, ⟨n2, rfl⟩, h2, f2, hsl2⟩
  have MV2 := Lib.hid (M1.out.fr f2 (by omega))
  have ZV2 := Lib.hid ((f2.other w.heap.size (lt_of_block Z1.out) (by omega)).trans Z1.out)
  have FV2 := Lib.hid (F1.out.trans f2)
  have EV2 := Lib.hid (fr_env HE1.out hb9 f2)
  have HSL2 := Lib.hid hsl2
  obtain ⟨u2, hc2, hf2⟩ := MV2.out.cell (j := 34) (by omega)
  obtain ⟨y2, hy2⟩ : ∃ y, y = v2.setCell ⟨w.heap.size + 1, 34, none⟩ (.int .i64 n2) := ⟨_, rfl⟩
  have M2 : Hid (MB y2 (w.heap.size + 1)) := Lib.hid (by rw [hy2]; exact MV2.out.setCell 34 rfl)
  have ff2 : Fr1 (w.heap.size + 1) v2 y2 := by rw [hy2]; exact Fr1.setC _
  have H2 := Lib.hid (h2.fr ff2 (by omega))
  have F2 := Lib.hid (FV2.out.new ff2 (by omega))
  have Z2 := Lib.hid ((ff2.other w.heap.size (lt_of_block ZV2.out) (by omega)).trans ZV2.out)
  have HE2 := Lib.hid (fr_env EV2.out (by have := HB9.out; have := hbw; omega) ff2)
  have HY2 := Lib.hid hy2
  clear h2 f2 hsl2 ff2 hy2
  have C3 := Lib.hid (mode_any y2 b t st2 en2 a2 er2 H2.out HE2.out hb9 ht2)
  go_wp2_with fail
  rw [← HY2.out]
  refine C3.out.mono ?_
  rintro e v3 ⟨bo3, v, st3, en3, a3, er3, rfl, ⟨sa3, sn3, sc3, rfl⟩, h3, f3, hsl3⟩
  have MV3 := Lib.hid (M2.out.fr f3 (by omega))
  have ZV3 := Lib.hid ((f3.other w.heap.size (lt_of_block Z2.out) (by omega)).trans Z2.out)
  have FV3 := Lib.hid (F2.out.trans f3)
  have EV3 := Lib.hid (fr_env HE2.out hb9 f3)
  have HSL3 := Lib.hid hsl3
  obtain ⟨u3, hc3, hf3⟩ := MV3.out.cell (j := 35) (by omega)
  obtain ⟨uu3, hcc3, hff3⟩ := MV3.out.cell (j := 36) (by omega)
  obtain ⟨y3, hy3⟩ : ∃ y, y = (v3.setCell ⟨w.heap.size + 1, 35, none⟩ (.bool bo3)).setCell ⟨w.heap.size + 1, 36, none⟩ (.slice sa3 sn3 sc3) := ⟨_, rfl⟩
  have M3 : Hid (MB y3 (w.heap.size + 1)) := Lib.hid (by rw [hy3]; exact (MV3.out.setCell 35 rfl).setCell 36 rfl)
  have ff3 : Fr1 (w.heap.size + 1) v3 y3 := by rw [hy3]; exact (Fr1.setC _).trans (Fr1.setC _)
  have H3 := Lib.hid (h3.fr ff3 (by omega))
  have F3 := Lib.hid (FV3.out.new ff3 (by omega))
  have Z3 := Lib.hid ((ff3.other w.heap.size (lt_of_block ZV3.out) (by omega)).trans ZV3.out)
  have HE3 := Lib.hid (fr_env EV3.out (by have := HB9.out; have := hbw; omega) ff3)
  have HY3 := Lib.hid hy3
  clear h3 f3 hsl3 ff3 hy3
  have C4 := Lib.hid (rest_any y3 b t st3 en3 a3 er3 H3.out hb9 ht)
  go_wp2_with fail
  rw [← HY3.out]
  refine C4.out.mono ?_
  rintro e v4 ⟨s4, st4, en4, a4, er4, rfl, hsz4, h4, f4, hsl4⟩
  have MV4 := Lib.hid (M3.out.fr f4 (by omega))
  have ZV4 := Lib.hid ((f4.other w.heap.size (lt_of_block Z3.out) (by omega)).trans Z3.out)
  have FV4 := Lib.hid (F3.out.trans f4)
  have EV4 := Lib.hid (fr_env HE3.out hb9 f4)
  have HSL4 := Lib.hid hsl4
  obtain ⟨u4, hc4, hf4⟩ := MV4.out.cell (j := 37) (by omega)
  obtain ⟨y4, hy4⟩ : ∃ y, y = v4.setCell ⟨w.heap.size + 1, 37, none⟩ (.string s4) := ⟨_, rfl⟩
  have M4 : Hid (MB y4 (w.heap.size + 1)) := Lib.hid (by rw [hy4]; exact MV4.out.setCell 37 rfl)
  have ff4 : Fr1 (w.heap.size + 1) v4 y4 := by rw [hy4]; exact Fr1.setC _
  have H4 := Lib.hid (h4.fr ff4 (by omega))
  have F4 := Lib.hid (FV4.out.new ff4 (by omega))
  have Z4 := Lib.hid ((ff4.other w.heap.size (lt_of_block ZV4.out) (by omega)).trans ZV4.out)
  have HE4 := Lib.hid (fr_env EV4.out (by have := HB9.out; have := hbw; omega) ff4)
  have HY4 := Lib.hid hy4
  clear h4 f4 hsl4 ff4 hy4
  obtain ⟨cs, hp, hcl⟩ := M4.out
  have LD := Lib.hid (run_load_cl y4 (w.heap.size + 1) 56 _ _ cs _ _ hp rfl Tryz.underlying152 size_cmd hcl.1)
  have ST := Lib.hid (run_storeVar_row (P := Tryz.prog) y4 w.heap.size _ 152 zs cs Z4.out (by rw [hcl.1]; exact size_cmd) (by rw [hcl.1, ZCL.out.1]) hcl.2)
  have W2 := Lib.hid (setRow_heap y4 w.heap.size zs cs _ _ Z4.out)
  have CSZ : Hid (cs.size = 56) := Lib.hid hcl.1
  have POST : Hid (FormPost w b t en er (fun T => nxt T fun x T => fe (grpF x) ((fun T => nxt T fun x T => fe ((numF 0 1000000) x) ((fun T => nxt T fun m T => if m = wOpen then restF T else if m = wMod then nxt T (fun a T => fe (modsF a) (restF T)) else 3) T)) T)) (.returned (.agg cs)) (y4.setRow w.heap.size cs)) := Lib.hid ⟨cs, st4, en4, a4, er4, rfl, hcl, H4.out.row (by omega) cs, F4.out.row (Nat.le_refl _) cs, ((HSL1.out (fun T => nxt T fun x T => fe ((numF 0 1000000) x) ((fun T => nxt T fun m T => if m = wOpen then restF T else if m = wMod then nxt T (fun a T => fe (modsF a) (restF T)) else 3) T))).trans ((HSL2.out (fun T => nxt T fun m T => if m = wOpen then restF T else if m = wMod then nxt T (fun a T => fe (modsF a) (restF T)) else 3)).trans ((HSL3.out restF).trans HSL4.out.symm))).symm⟩
  clear hp hcl
  go_upto_region 6 with fail
  rw [← HY4.out]
  refine wp_region_list ?_
  simp only []
  refine wpList_load 152 rfl _ rfl ⟨_, _, rfl, LD.out, ?_⟩
  go_wp2_with ((with_reducible refine wpList_store 152 rfl _ _ rfl ?_); refine ⟨_, _, _, rfl, rfl, ST.out, ?_⟩)
  exact bodyPost_ret (results_cell_row Tryz.results188 _ _ w.heap.size _ _ _ _ rfl W2.out Tryz.underlying152 rfl (by rw [CSZ.out]; exact size_cmd)) rfl POST.out
/-- How many operations have not come up. -/
def undone (listed : Array Bool) : Nat := listed.toList.countP (fun b => !b)
theorem undone_set {listed : Array Bool} {i : Nat} (hi : listed.getD i true = false) : undone (listed.setIfInBounds i true) + 1 = undone listed := by
  have hlt : i < listed.size := by
    rcases Nat.lt_or_ge i listed.size with h | h
    · exact h
    · simp [Array.getD, Nat.not_lt.2 h] at hi
  have hv : listed.toList[i]'(by simpa using hlt) = false := by
    simp [Array.getD, hlt] at hi; simpa using hi
  unfold undone
  have hp : 0 < listed.toList.countP (fun b => !b) := List.countP_pos_iff.2 ⟨false, by rw [← hv]; exact List.getElem_mem _, rfl⟩
  rw [Array.toList_setIfInBounds, List.countP_set (by simpa using hlt)]
  simp only [hv, Bool.not_false, Bool.not_true, if_true, Bool.false_eq_true, if_false]
  omega
theorem wpAny_inv {P : Program} {md : Region.Mode} {ops : Array Oper} {Q : Exit → Act → World → Prop} (I : Array Bool → Act → World → Prop)
    (hstep : ∀ listed a w i, I listed a w → i ∈ Region.ready md ops listed → listed.getD i true = false ∧ wpOp P ops Q i (fun a' w' => I (listed.setIfInBounds i true) a' w') a w)
    (hend : ∀ listed a w, I listed a w → Region.ready md ops listed = [] → Q .normal a w) :
    ∀ (fuel : Nat) (listed : Array Bool) (a : Act) (w : World), I listed a w → undone listed ≤ fuel → wpAny P md ops Q fuel listed a w
  | 0, listed, a, w, h, hu => by
    have hr : Region.ready md ops listed = [] := by
      cases hq : Region.ready md ops listed with
      | nil => rfl
      | cons i t =>
        have := undone_set (hstep listed a w i h (by rw [hq]; exact List.mem_cons_self ..)).1
        omega
    exact ⟨hr, hend listed a w h hr⟩
  | fuel + 1, listed, a, w, h, hu => ⟨hend listed a w h, fun i hi => by
      obtain ⟨h1, h2⟩ := hstep listed a w i h hi
      have := undone_set h1
      exact wpOp_mono (fun a' w' h' => wpAny_inv I hstep hend fuel _ a' w' h' (by omega)) h2⟩
end Go.Proofs.YtohmdledkhgdaaaGreatDoor
