/- Lists of names of groups. -/
import Derived.Test.YtohmdledkhgdaaaGreatDoorLo11
namespace Go.Proofs.YtohmdledkhgdaaaGreatDoor
open Go.RowKit
set_option linter.unusedVariables false
set_option maxRecDepth 100000
theorem spl_len (c : Nat) : ∀ l : List Nat, ∀ p ∈ spl c l, p.length ≤ l.length
  | [], p, h => by simp [spl] at h; subst h; simp
  | x :: t, p, h => by
    have ih := spl_len c t
    simp only [spl] at h
    split at h
    · rcases List.mem_cons.1 h with rfl | h
      · simp
      · have := ih p h; simp; omega
    · split at h
      · rename_i e; exact absurd e (spl_ne c t)
      · rename_i a r e
        rw [e] at ih
        rcases List.mem_cons.1 h with rfl | h
        · have := ih a (by simp); simp; omega
        · have := ih p (by simp [h]); simp; omega
theorem spl_count (c : Nat) : ∀ l : List Nat, (spl c l).length ≤ l.length + 1
  | [] => by simp [spl]
  | x :: t => by
    have ih := spl_count c t
    simp only [spl]
    split
    · simp; omega
    · split
      · simp
      · rename_i a r e; rw [e] at ih; simp at ih ⊢; omega
/-- What Split returns. -/
def SplPost (c : Nat) (s : ByteArray) (w : World) (e : Ending) (w' : World) : Prop :=
  ∃ (v : Value) (gs : List ByteArray), e = .returned v ∧ gs.map bs = spl c (bs s) ∧ SRow w' v gs ∧ (∀ g ∈ gs, g.size ≤ s.size) ∧ gs.length ≤ s.size + 1 ∧ w'.ownsRow w.heap.size 9 1 v gs.length (gs.map Value.string) ∧ Below w.heap.size w w'
theorem split_any (s : ByteArray) (c : UInt8) (w : World) (hs : s.size ≤ 1000000) (hE : Env w) :
    Calls Tryz.prog 153 #[.string s, .string ⟨#[c]⟩] w (SplPost c.toNat s w) := by
  obtain ⟨m, hm⟩ := hE.mx
  refine (lb_strings_Split s ⟨#[c]⟩ m w (by omega) hm (by simp [ByteArray.size])).mono fun e w' ⟨h1, h2⟩ => ?_
  have hlen := Lib.splitB_all ⟨#[c]⟩ (by simp [ByteArray.size]) 0 (Lib.countB s ⟨#[c]⟩) s rfl
  have hmap : (Lib.splitB ⟨#[c]⟩ 0 (Lib.countB s ⟨#[c]⟩) s).map bs = spl c.toNat (bs s) := by
    have h3 := Lib.splitB_data ⟨#[c]⟩ 0 (Lib.countB s ⟨#[c]⟩) s
    have h4 := splitK_spl c s.data.toList
    have e1 : (Lib.splitB ⟨#[c]⟩ 0 (Lib.countB s ⟨#[c]⟩) s).map bs = ((Lib.splitB ⟨#[c]⟩ 0 (Lib.countB s ⟨#[c]⟩) s).map (·.data.toList)).map (fun p => p.map UInt8.toNat) := by
      rw [List.map_map]; rfl
    rw [e1, h3]
    exact h4
  generalize hg : Lib.splitB ⟨#[c]⟩ 0 (Lib.countB s ⟨#[c]⟩) s = gs at h2 hlen hmap
  subst h2
  refine ⟨_, gs, h1, hmap, ⟨some ⟨w.heap.size, 0, none⟩, gs.length, by rw [hlen], Nat.le_refl _, fun _ => ⟨w.heap.size, 0, rfl, by simp, fun j hj => ?_⟩⟩, ?_, ?_, ?_, (Below.refl _ _).alloc (Nat.le_refl _) _⟩
  · rw [Nat.zero_add, cell_of_row _ w.heap.size j _ 9 (0, 0) (heap_alloc_new w _)]
    simp [hj]
  · intro g hg'
    have := spl_len c.toNat (bs s) (bs g) (by rw [← hmap]; exact List.mem_map_of_mem hg')
    rwa [bs_length, bs_length] at this
  · have := spl_count c.toNat (bs s)
    rw [← hmap, List.length_map, bs_length] at this
    exact this
  · have := spl_count c.toNat (bs s)
    rw [← hmap, List.length_map, bs_length] at this
    exact ⟨by simp, .inr ⟨w.heap.size, gs.length, (gs.map Value.string).toArray, by rw [hlen], Nat.le_refl _, heap_alloc_new w _, Nat.le_refl _, by unfold maxLen; omega, by simp, by simp [List.take_of_length_le]⟩⟩
def IxbPost (b : Bool) (w : World) (e : Ending) (w' : World) : Prop :=
  ∃ n : Int, e = .returned (.int .i64 n) ∧ (b = true → 0 ≤ n) ∧ (b = false → n < 0) ∧ Below w.heap.size w w'
def nComp (g : ByteArray) : Bool := !compB (bs g)
theorem anyG_all {p : ByteArray → Bool} {l : List ByteArray} {k : Nat} (h : (l.take k).any p = false) (hk : l.length ≤ k) : l.any p = false := by rwa [List.take_of_length_le hk] at h
theorem anyG_hit {p : ByteArray → Bool} {l : List ByteArray} {k : Nat} (hk : k < l.length) (h : p l[k] = true) : l.any p = true := by
  rw [List.any_eq_true]; exact ⟨_, List.getElem_mem hk, h⟩
theorem anyG_miss {p : ByteArray → Bool} {l : List ByteArray} {k : Nat} (h0 : (l.take k).any p = false) (hk : k < l.length) (h : p l[k] = false) : (l.take (k + 1)).any p = false := by
  rw [List.take_succ_eq_append_getElem hk, List.any_append, h0]; simp [h]
set_option maxHeartbeats 1000000 in
theorem ixs_nc (w : World) (v : Value) (gs : List ByteArray) (hr : SRow w v gs) (hl : gs.length ≤ 1000001) (hz : ∀ g ∈ gs, g.size ≤ 1000000) :
    Calls Tryz.prog 212 #[v, .func (.func 174) #[] #[]] w (IxbPost (gs.any nComp) w) := by
  obtain ⟨n, hn⟩ : ∃ n, n = gs.length := ⟨_, rfl⟩
  obtain ⟨a, cap, rfl, hcap, hcells⟩ := hr
  rw [← hn] at hl hcap ⊢
  have HC := Lib.hid hcells; have HN := Lib.hid hn; have HZ := Lib.hid hz
  clear hcells hn hz
  go_enter Tryz.func212, Tryz.ntmps212
  go_wp2_with fail
  go_loopg [8] n (fun k i wr => ∃ j : Nat, j ≤ n ∧ k = n - j ∧ i = .int .i64 (j : Int) ∧ Hid ((gs.take j).any nComp = false) ∧ Hid (Below w.heap.size w wr))
  case atStart => exact ⟨0, by omega, rfl, rfl, rfl, Lib.hid (Below.refl _ _)⟩
  case round =>
    obtain ⟨j, hj, rfl, rfl, ha, hb⟩ := hrel
    by_cases h : j < n
    · have hjl : j < gs.length := by rw [← HN.out]; exact h
      obtain ⟨b, off, rfl, hbl, hcl⟩ := HC.out (by intro e; rw [e] at hjl; simp at hjl)
      obtain ⟨g, hg⟩ : ∃ g, g = gs[j] := ⟨_, rfl⟩
      have hcc : wr.cell? ⟨b, off + j, none⟩ = some (.string g) := by rw [hb.out.cell (p := ⟨b, off + j, none⟩) hbl, hg]; exact hcl j hjl
      have hgz : g.size ≤ 1000000 := by rw [hg]; exact HZ.out _ (List.getElem_mem hjl)
      have C := Lib.hid (ncomp_any g wr hgz)
      have HG := Lib.hid hg; have HJ := Lib.hid hjl
      obtain ⟨p, hp⟩ : ∃ p, p = !compB (bs g) := ⟨_, rfl⟩
      rw [← hp] at C
      have HP : Hid (nComp g = p) := Lib.hid hp.symm
      clear hg hcl hp hgz
      cases p
      · go_wp2_with fail
        refine C.out.mono ?_
        rintro e w1 ⟨rfl, hb1⟩
        have B1 := Lib.hid (hb.out.trans (hb1.mono hb.out.size))
        clear hb1 C hcc
        go_wp2_with fail
        go_roundg (n - (j + 1))
        case measure => omega
        case rel => exact ⟨j + 1, by omega, rfl, by go_num, Lib.hid (anyG_miss ha.out HJ.out (by rw [← HG.out]; exact HP.out)), B1⟩
      · go_wp2_with fail
        refine C.out.mono ?_
        rintro e w1 ⟨rfl, hb1⟩
        have B1 := Lib.hid (hb.out.trans (hb1.mono hb.out.size))
        clear hb1 C hcc
        go_wp2_with fail
        go_ret
        exact ⟨_, rfl, (fun _ => by omega), (fun h => by rw [anyG_hit HJ.out (by rw [← HG.out]; exact HP.out)] at h; cases h), B1.out⟩
    · go_wp2_with fail
      go_ret
      exact ⟨_, rfl, (fun h' => by rw [anyG_all ha.out (by rw [← HN.out]; omega)] at h'; cases h'), (fun _ => by decide), hb.out⟩
theorem cfs_nc (w : World) (v : Value) (gs : List ByteArray) (hr : SRow w v gs) (hl : gs.length ≤ 1000001) (hz : ∀ g ∈ gs, g.size ≤ 1000000) :
    Calls Tryz.prog 173 #[v, .func (.func 174) #[] #[]] w fun e w' => e = .returned (.bool (gs.any nComp)) ∧ Below w.heap.size w w' := by
  have C := Lib.hid (ixs_nc w v gs hr hl hz)
  obtain ⟨b, hb⟩ : ∃ b, b = gs.any nComp := ⟨_, rfl⟩
  rw [← hb] at C ⊢
  clear hb hl hr hz
  go_enter Tryz.func173, Tryz.ntmps173
  go_wp2_with fail
  refine C.out.mono ?_
  rintro e w' ⟨m, rfl, h1, h2, hb⟩
  have HB := Lib.hid hb
  clear hb
  cases b
  · have h := h2 rfl
    clear h1 h2 C
    go_wp2_with fail
    go_ret
    exact ⟨ret_bool (by simp; omega), HB.out⟩
  · have h := h1 rfl
    clear h1 h2 C
    go_wp2_with fail
    go_ret
    exact ⟨rfl, HB.out⟩
theorem parts_any (s : ByteArray) (w : World) (hs : s.size ≤ 1000000) (hE : Env w) :
    Calls Tryz.prog 172 #[.string s] w (SplPost 46 s w) := by
  have S := Lib.hid (split_any s 46 w hs hE)
  rw [show (46 : UInt8).toNat = 46 from rfl] at S
  clear hs hE
  go_enter Tryz.func172, Tryz.ntmps172
  go_wp2_with fail
  refine S.out.mono ?_
  rintro e w1 ⟨v, gs, rfl, h⟩
  have H := Lib.hid h
  clear h S
  go_wp2_with fail
  go_ret
  exact ⟨v, gs, rfl, H.out⟩
theorem any_nComp {gs : List ByteArray} {ls : List (List Nat)} (h : gs.map bs = ls) : gs.any nComp = ls.any (fun p => !compB p) := by
  subst h; rw [List.any_map]; rfl
set_option maxHeartbeats 1000000 in
theorem gcheck_any (s : ByteArray) (w : World) (hs : s.size ≤ 1000000) (hE : Env w) :
    Calls Tryz.prog 135 #[.string s] w fun e w' => e = .returned (.int .i64 (nameF (bs s) : Nat)) ∧ Below w.heap.size w w' := by
  have P := Lib.hid (parts_any s w hs hE)
  have LEN := Lib.hid (bs_length s)
  by_cases h80 : 80 < s.size
  · have N : Hid (nameF (bs s) = 5) := Lib.hid (by unfold nameF; rw [if_pos (by rw [LEN.out]; exact h80)])
    clear hE P
    go_enter Tryz.func135, Tryz.ntmps135
    go_wp2_with fail
    go_ret
    exact ⟨by rw [N.out]; rfl, Below.refl _ _⟩
  · have N : Hid (nameF (bs s) = if (spl 46 (bs s)).any (fun p => !compB p) = true then 12 else if 10 < (spl 46 (bs s)).length then 9 else 0) := Lib.hid (by unfold nameF; rw [if_neg (by rw [LEN.out]; exact h80)])
    clear hE
    go_enter Tryz.func135, Tryz.ntmps135
    go_wp2_with fail
    refine P.out.mono ?_
    rintro e w1 ⟨v, gs, rfl, hm, hr, hz, hl, _, hb⟩
    have hv : ∃ a cap, v = .slice a gs.length cap := by obtain ⟨a, cap, h, _⟩ := hr; exact ⟨a, cap, h⟩
    obtain ⟨a, cap, rfl⟩ := hv
    have CF := Lib.hid (cfs_nc w1 _ gs hr (by omega) (fun g hg => by have := hz g hg; omega))
    have HB := Lib.hid hb
    rw [any_nComp hm] at CF
    have HL : Hid (gs.length = (spl 46 (bs s)).length) := Lib.hid (by rw [← hm, List.length_map])
    obtain ⟨n, hn⟩ : ∃ n, n = gs.length := ⟨_, rfl⟩
    rw [← hn] at HL CF ⊢
    obtain ⟨q, hq⟩ : ∃ q, q = (spl 46 (bs s)).any (fun p => !compB p) := ⟨_, rfl⟩
    rw [← hq] at CF N
    have N2 : Hid (nameF (bs s) = if q = true then 12 else if 10 < n then 9 else 0) := Lib.hid (by rw [N.out, HL.out])
    clear hm hr hz hl hb P HL hn hq N
    go_wp2_with fail
    refine CF.out.mono ?_
    rintro e w2 ⟨rfl, hb2⟩
    have HB2 := Lib.hid (HB.out.trans (hb2.mono HB.out.size))
    clear hb2 CF
    cases q
    · by_cases h10 : 10 < n
      · go_wp2_with fail
        go_ret
        exact ⟨by rw [N2.out, if_neg (by decide), if_pos h10]; rfl, HB2.out⟩
      · go_wp2_with fail
        go_ret
        exact ⟨by rw [N2.out, if_neg (by decide), if_neg h10]; rfl, HB2.out⟩
    · go_wp2_with fail
      go_ret
      exact ⟨by rw [N2.out]; rfl, HB2.out⟩
theorem bs_inj {a b : ByteArray} (h : bs a = bs b) : a = b := by rw [← strN_bs a, h, strN_bs]
theorem mem_bs {x : ByteArray} {gs : List ByteArray} : bs x ∈ gs.map bs ↔ x ∈ gs :=
  ⟨fun h => by obtain ⟨y, hy, e⟩ := List.mem_map.1 h; rw [← bs_inj e]; exact hy, List.mem_map_of_mem⟩
/-- slices.Contains on texts. -/
theorem contS_any (w : World) (a : Option Addr) (n cap : Nat) (gs : List ByteArray) (x : ByteArray) (hn : n ≤ gs.length) (hl : gs.length ≤ 1000000) (hc : gs ≠ [] → ∃ b off, a = some ⟨b, off, none⟩ ∧ b < w.heap.size ∧ ∀ j (h : j < gs.length), w.cell? ⟨b, off + j, none⟩ = some (.string gs[j])) :
    Calls Tryz.prog 136 #[.slice a n cap, .string x] w fun e w' => e = .returned (.bool (decide (bs x ∈ (gs.map bs).take n))) ∧ w = w' := by
  by_cases h0 : n = 0
  · subst h0
    exact (lb_slices_Contains_string_empty a cap x w).mono fun e w' h => ⟨by rw [h.1]; simp, h.2.symm⟩
  · obtain ⟨b, off, rfl, hb, hcl⟩ := hc (by intro e; rw [e] at hn; simp at hn; omega)
    refine (lb_slices_Contains_string b off n cap gs x w hn (by omega) (fun j hj => by rw [hcl j hj]; simp [List.getD, hj])).mono fun e w' h => ⟨?_, h.2.symm⟩
    rw [h.1]
    have e : Lib.containsS (gs.take n) x = decide (bs x ∈ (gs.map bs).take n) := by rw [Bool.eq_iff_iff, Lib.containsS_iff, decide_eq_true_iff, ← List.map_take, mem_bs]
    rw [e]
theorem listG_step (f : List Nat → Nat) (d : Nat) (L : List (List Nat)) (j : Nat) (h : j < L.length) :
    listG f d (L.take j) (L.drop j) = if f L[j] ≠ 0 then f L[j] else if L[j] ∈ L.take j then d else listG f d (L.take (j + 1)) (L.drop (j + 1)) := by
  rw [List.drop_eq_getElem_cons h, listG, List.take_succ_eq_append_getElem h]
  simp only [List.contains_iff_mem]
set_option maxHeartbeats 1000000 in
theorem clist_any (w : World) (v : Value) (gs : List ByteArray) (hr : SRow w v gs) (hl : gs.length ≤ 1000000) (hz : ∀ g ∈ gs, g.size ≤ 1000000) (hE : Env w) :
    Calls Tryz.prog 94 #[v] w fun e w' => e = .returned (.int .i64 (listF nameF (gs.map bs) : Nat)) ∧ Below w.heap.size w w' := by
  obtain ⟨n, hn⟩ : ∃ n, n = gs.length := ⟨_, rfl⟩
  obtain ⟨a, cap, rfl, hcap, hcells⟩ := hr
  rw [← hn] at hcap hl ⊢
  have HN := Lib.hid hn
  have HC := Lib.hid hcells; have HZ := Lib.hid hz; have HE := Lib.hid hE
  by_cases h20 : 20 < n
  · have F : Hid (listF nameF (gs.map bs) = 9) := Lib.hid (by unfold listF; rw [if_pos (by rw [List.length_map, ← hn]; exact h20)])
    clear hcells hn hz hE
    go_enter Tryz.func94, Tryz.ntmps94
    go_wp2_with fail
    go_ret
    exact ⟨by rw [F.out]; rfl, Below.refl _ _⟩
  · have F : Hid (listF nameF (gs.map bs) = listG nameF 7 ((gs.map bs).take 0) ((gs.map bs).drop 0)) := Lib.hid (by unfold listF; rw [if_neg (by rw [List.length_map, ← hn]; exact h20)]; rfl)
    clear hcells hn hz hE
    go_enter Tryz.func94, Tryz.ntmps94
    go_wp2_with fail
    go_loopg [3, 4, 5, 11] n (fun k s3 s4 s5 i wr => ∃ j : Nat, j ≤ n ∧ k = n - j ∧ i = .int .i64 (j : Int) ∧ Hid (listF nameF (gs.map bs) = listG nameF 7 ((gs.map bs).take j) ((gs.map bs).drop j)) ∧ Hid (Below w.heap.size w wr))
    case atStart => exact ⟨0, by omega, rfl, rfl, F, Lib.hid (Below.refl _ _)⟩
    case round =>
      obtain ⟨j, hj, rfl, rfl, ha, hb⟩ := hrel
      by_cases h : j < n
      · have hjl : j < gs.length := by rw [← HN.out]; exact h
        obtain ⟨b, off, rfl, hbl, hcl⟩ := HC.out (by intro e; rw [e] at hjl; simp at hjl)
        obtain ⟨g, hg⟩ : ∃ g, g = gs[j] := ⟨_, rfl⟩
        have hcc : wr.cell? ⟨b, off + j, none⟩ = some (.string g) := by rw [hb.out.cell (p := ⟨b, off + j, none⟩) hbl, hg]; exact hcl j hjl
        have hgz : g.size ≤ 1000000 := by rw [hg]; exact HZ.out _ (List.getElem_mem hjl)
        have C := Lib.hid (gcheck_any g wr hgz (HE.out.on hb.out))
        have ST := Lib.hid (listG_step nameF 7 (gs.map bs) j (by simpa using hjl))
        simp only [List.getElem_map, ← hg] at ST
        have KC : Hid (∀ w', Below wr.heap.size wr w' → Calls Tryz.prog 136 #[.slice (some ⟨b, off, none⟩) j cap, .string g] w' fun e w'' => e = .returned (.bool (decide (bs g ∈ (gs.map bs).take j))) ∧ w' = w'') := Lib.hid (fun w' hw =>
          contS_any w' _ j cap gs g (by omega) (by rw [← HN.out]; omega) (fun _ => ⟨b, off, rfl, Nat.lt_of_lt_of_le hbl (Nat.le_trans hb.out.size hw.size), fun k hk => ((hb.out.trans (hw.mono hb.out.size)).cell (p := ⟨b, off + k, none⟩) hbl).trans (hcl k hk)⟩))
        obtain ⟨m, hm⟩ : ∃ m, m = nameF (bs g) := ⟨_, rfl⟩
        rw [← hm] at C ST
        obtain ⟨q, hq⟩ : ∃ q, q = decide (bs g ∈ (gs.map bs).take j) := ⟨_, rfl⟩
        rw [← hq] at KC
        have HQ := Lib.hid hq
        clear hg hcl hm hgz hq
        go_wp2_with fail
        refine C.out.mono ?_
        rintro e w1 ⟨rfl, hb1⟩
        have B1 := Lib.hid hb1
        have B2 := Lib.hid (hb.out.trans (hb1.mono hb.out.size))
        have K1 := Lib.hid (KC.out w1 hb1)
        clear hb1 C hcc KC
        by_cases m0 : m = 0
        · have q0 : ((m : Int) != 0) = false := int_nneq (by omega)
          have M0 := Lib.hid m0
          clear m0
          cases q
          · have ST2 : Hid (listF nameF (gs.map bs) = listG nameF 7 ((gs.map bs).take (j + 1)) ((gs.map bs).drop (j + 1))) := Lib.hid (by
              rw [ha.out, ST.out, if_neg (by rw [M0.out]; decide), if_neg (of_decide_eq_false HQ.out.symm)])
            go_wp2_with (go_at_call 136; refine K1.out.mono ?_; rintro e w' ⟨rfl, rfl⟩)
            go_roundg (n - (j + 1))
            case measure => omega
            case rel => exact ⟨j + 1, by omega, rfl, by go_num, ST2, B2⟩
          · have ST2 : Hid (listF nameF (gs.map bs) = 7) := Lib.hid (by
              rw [ha.out, ST.out, if_neg (by rw [M0.out]; decide), if_pos (of_decide_eq_true HQ.out.symm)])
            go_wp2_with (go_at_call 136; refine K1.out.mono ?_; rintro e w' ⟨rfl, rfl⟩)
            go_ret
            exact ⟨by rw [ST2.out]; rfl, B2.out⟩
        · have q0 : ((m : Int) != 0) = true := int_neq (by omega)
          have ST2 : Hid (listF nameF (gs.map bs) = m) := Lib.hid (by rw [ha.out, ST.out, if_pos m0])
          clear m0
          go_wp2_with fail
          go_ret
          exact ⟨by rw [ST2.out]; rfl, B2.out⟩
      · obtain rfl : j = n := by omega
        have ST2 : Hid (listF nameF (gs.map bs) = 0) := Lib.hid (by rw [ha.out, List.drop_of_length_le (by rw [List.length_map, HN.out]; exact Nat.le_refl _)]; rfl)
        go_wp2_with fail
        go_ret
        exact ⟨by rw [ST2.out]; rfl, hb.out⟩
/-- One word is read, with the error f of it. -/
def StL (t : ByteArray) (en er en' er' : Nat) (f : List Nat → Nat) : Prop :=
  ∀ k : List Nat → Nat, fe er (nxt ((bs t).drop en) fun x T => fe (f x) (k T)) = fe er' (k ((bs t).drop en'))
theorem StL.no {t : ByteArray} {en er en' er' : Nat} {f : List Nat → Nat} (h : er' ≠ 0) (hk : ∀ k, fe er (nxt ((bs t).drop en) k) = er') : StL t en er en' er' f := by
  intro k
  rw [hk]; unfold fe; rw [if_pos h]
theorem StL.yes {t : ByteArray} {en en' : Nat} {f : List Nat → Nat} {x : List Nat} (hk : ∀ k, nxt ((bs t).drop en) k = k x ((bs t).drop en')) : StL t en 0 en' (f x) f := by
  intro k
  rw [hk]; rfl
def WPost (w : World) (b : Nat) (t : ByteArray) (en er : Nat) (f : List Nat → Nat) (R : Value → Prop) (e : Ending) (w' : World) : Prop :=
  ∃ (v : Value) (st' en' : Nat) (a : Int) (er' : Nat), e = .returned v ∧ R v ∧ WS w' b t st' en' a er' ∧ Fr1 b w w' ∧ StL t en er en' er' f
theorem group_any (w : World) (b : Nat) (t : ByteArray) (st en : Nat) (at_ : Int) (er : Nat) (h : WS w b t st en at_ er) (hE : Env w) (hb9 : 9 ≤ b) (ht : t.size ≤ 1000000) :
    Calls Tryz.prog 187 #[.pointer (some ⟨b, 0, none⟩)] w (WPost w b t en er grpF fun v => ∃ s, v = .string s ∧ s.size ≤ t.size) := by
  have NX := Lib.hid (next_any w b t st en at_ er h hE hb9 ht)
  have HE := Lib.hid hE
  clear h hE
  go_enter Tryz.func187, Tryz.ntmps187
  go_wp2_with fail
  refine NX.out.mono ?_
  rintro e w1 ⟨x, ok, st', en', a, er', rfl, h1, f1, hx, h⟩
  have H1 := Lib.hid h1; have F1 := Lib.hid f1
  have E1 := Lib.hid (fr_env HE.out hb9 f1)
  clear NX h1 f1
  rcases h with ⟨rfl, hne, hk⟩ | ⟨rfl, rfl, rfl, hk⟩
  · have SL : Hid (StL t en er en' er' grpF) := Lib.hid (StL.no hne hk)
    clear hne hk
    go_wp2_with fail
    go_ret
    exact ⟨_, st', en', a, er', rfl, ⟨x, rfl, hx⟩, H1.out, F1.out, SL.out⟩
  · have SL : Hid (StL t en 0 en' (grpF (bs x)) grpF) := Lib.hid (StL.yes hk)
    have GC := Lib.hid (gcheck_any x w1 (by omega) E1.out)
    have GF : Hid (grpF (bs x) = if nameF (bs x) = 0 then 0 else 12) := Lib.hid rfl
    obtain ⟨m, hm⟩ : ∃ m, m = nameF (bs x) := ⟨_, rfl⟩
    rw [← hm] at GC GF
    clear hk hm
    by_cases m0 : m = 0
    · have q0 : ((m : Int) != 0) = false := by rw [m0]; rfl
      have SL2 : Hid (StL t en 0 en' 0 grpF) := Lib.hid (by have := SL.out; rw [GF.out, if_pos m0] at this; exact this)
      clear m0 SL GF
      go_wp2_with fail
      refine GC.out.mono ?_
      rintro e w2 ⟨rfl, hb2⟩
      have H2 := Lib.hid (H1.out.below hb2); have F2 := Lib.hid (F1.out.trans (Fr1.of_below hb2))
      clear hb2 GC
      go_wp2_with fail
      go_ret
      exact ⟨_, st', en', a, 0, rfl, ⟨x, rfl, hx⟩, H2.out, F2.out, SL2.out⟩
    · have q0 : ((m : Int) != 0) = true := int_neq (by omega)
      have SL2 : Hid (StL t en 0 en' 12 grpF) := Lib.hid (by have := SL.out; rw [GF.out, if_neg m0] at this; exact this)
      clear m0 SL GF
      go_wp2_with fail
      refine GC.out.mono ?_
      rintro e w2 ⟨rfl, hb2⟩
      have h2 := H1.out.below hb2
      have hc1 : w2.cell? ⟨b, 1, none⟩ = some (.int .i64 (st' : Int)) := cell_of_row w2 b 1 _ _ _ h2.1
      have F2 := Lib.hid (F1.out.trans (Fr1.of_below hb2))
      have FL := Lib.hid (fail_any w2 b t st' en' a 0 h2 (st' : Int) 12)
      clear hb2 GC h2
      go_wp2_with fail
      refine FL.out.mono ?_
      rintro e w3 ⟨⟨v, rfl⟩, ⟨a', h3⟩, f3⟩
      have H3 : Hid (WS w3 b t st' en' a' 12) := Lib.hid h3; have F3 := Lib.hid (F2.out.trans f3)
      clear FL h3 f3 hc1
      go_wp2_with fail
      go_ret
      exact ⟨_, st', en', a', 12, rfl, ⟨x, rfl, hx⟩, H3.out, F3.out, SL2.out⟩
theorem number_any (w : World) (b : Nat) (t : ByteArray) (st en : Nat) (at_ : Int) (er : Nat) (h : WS w b t st en at_ er) (hE : Env w) (hb9 : 9 ≤ b) (ht : t.size ≤ 1000000) (lo hi : Nat) (hlo : lo ≤ 1000000) (hhi : hi ≤ 1000000) :
    Calls Tryz.prog 189 #[.pointer (some ⟨b, 0, none⟩), .int .i64 (lo : Int), .int .i64 (hi : Int)] w (WPost w b t en er (numF lo hi) fun v => ∃ n : Int, v = .int .i64 n) := by
  have NX := Lib.hid (next_any w b t st en at_ er h hE hb9 ht)
  have HE := Lib.hid hE
  clear h hE
  go_enter Tryz.func189, Tryz.ntmps189
  go_wp2_with fail
  refine NX.out.mono ?_
  rintro e w1 ⟨x, ok, st', en', a, er', rfl, h1, f1, hx, h⟩
  have hc1 : w1.cell? ⟨b, 1, none⟩ = some (.int .i64 (st' : Int)) := cell_of_row w1 b 1 _ _ _ h1.1
  have H1 := Lib.hid h1; have F1 := Lib.hid f1
  clear NX h1 f1
  rcases h with ⟨rfl, hne, hk⟩ | ⟨rfl, rfl, rfl, hk⟩
  · have SL : Hid (StL t en er en' er' (numF lo hi)) := Lib.hid (StL.no hne hk)
    clear hne hk
    go_wp2_with fail
    go_ret
    exact ⟨_, st', en', a, er', rfl, ⟨_, rfl⟩, H1.out, F1.out, SL.out⟩
  · have SL : Hid (StL t en 0 en' (numF lo hi (bs x)) (numF lo hi)) := Lib.hid (StL.yes hk)
    have DC := Lib.hid (decimal_any x w1 (by omega))
    have FL := Lib.hid (fun n => fail_any w1 b t st' en' a 0 H1.out (st' : Int) n)
    have NF : Hid (numF lo hi (bs x) = match numP (bs x) with | none => 3 | some n => if n < lo ∨ hi < n then 2 else 0) := Lib.hid rfl
    clear hk
    cases hp : numP (bs x) with
    | none =>
      have SL2 : Hid (StL t en 0 en' 3 (numF lo hi)) := Lib.hid (by have := SL.out; rw [NF.out, hp] at this; exact this)
      clear SL NF
      go_wp2_with fail
      refine DC.out.mono ?_
      rintro e w2 ⟨he, rfl⟩
      rw [hp] at he
      obtain rfl := he
      clear DC hp
      go_wp2_with fail
      refine (FL.out 3).mono ?_
      rintro e w3 ⟨⟨v, rfl⟩, ⟨a', h3⟩, f3⟩
      have H3 : Hid (WS w3 b t st' en' a' 3) := Lib.hid h3; have F3 := Lib.hid (F1.out.trans f3)
      clear FL h3 f3 hc1
      go_wp2_with fail
      go_ret
      exact ⟨_, st', en', a', 3, rfl, ⟨_, rfl⟩, H3.out, F3.out, SL2.out⟩
    | some n =>
      by_cases hb : n < lo ∨ hi < n
      · have SL2 : Hid (StL t en 0 en' 2 (numF lo hi)) := Lib.hid (by have := SL.out; rw [NF.out, hp] at this; simp only [if_pos hb] at this; exact this)
        clear SL NF
        go_wp2_with fail
        refine DC.out.mono ?_
        rintro e w2 ⟨he, rfl⟩
        rw [hp] at he
        obtain rfl := he
        clear DC hp
        by_cases hl : n < lo
        · clear hb
          go_wp2_with fail
          refine (FL.out 2).mono ?_
          rintro e w3 ⟨⟨v, rfl⟩, ⟨a', h3⟩, f3⟩
          have H3 : Hid (WS w3 b t st' en' a' 2) := Lib.hid h3; have F3 := Lib.hid (F1.out.trans f3)
          clear FL h3 f3 hc1
          go_wp2_with fail
          go_ret
          exact ⟨_, st', en', a', 2, rfl, ⟨_, rfl⟩, H3.out, F3.out, SL2.out⟩
        · have hl2 : hi < n := by omega
          clear hb
          go_wp2_with fail
          refine (FL.out 2).mono ?_
          rintro e w3 ⟨⟨v, rfl⟩, ⟨a', h3⟩, f3⟩
          have H3 : Hid (WS w3 b t st' en' a' 2) := Lib.hid h3; have F3 := Lib.hid (F1.out.trans f3)
          clear FL h3 f3 hc1
          go_wp2_with fail
          go_ret
          exact ⟨_, st', en', a', 2, rfl, ⟨_, rfl⟩, H3.out, F3.out, SL2.out⟩
      · have SL2 : Hid (StL t en 0 en' 0 (numF lo hi)) := Lib.hid (by have := SL.out; rw [NF.out, hp] at this; simp only [if_neg hb] at this; exact this)
        have hl : ¬ n < lo := by omega
        have hl2 : ¬ hi < n := by omega
        clear SL NF hb
        go_wp2_with fail
        refine DC.out.mono ?_
        rintro e w2 ⟨he, rfl⟩
        rw [hp] at he
        obtain rfl := he
        clear DC hp
        go_wp2_with fail
        go_ret
        exact ⟨_, st', en', a, 0, rfl, ⟨_, rfl⟩, H1.out, F1.out, SL2.out⟩
theorem WS.row {w : World} {b : Nat} {t : ByteArray} {st en : Nat} {at_ : Int} {er : Nat} (h : WS w b t st en at_ er) {g : Nat} (hg : b ≠ g) (cs : Array Value) : WS (w.setRow g cs) b t st en at_ er := ⟨(setRow_other w g b cs hg).trans h.1, h.2⟩
theorem Fr1.row {b g : Nat} {w w' : World} (h : Fr1 b w w') (hg : w.heap.size ≤ g) (cs : Array Value) : Fr1 b w (w'.setRow g cs) :=
  have B := below_setRow (Below.refl g w') (Nat.le_refl g) cs
  ⟨B.os.trans h.os, B.tape.trans h.tape, B.output.trans h.output, Nat.le_trans h.size B.size, fun k hk hne => (setRow_other w' g k cs (by omega)).trans (h.other k hk hne)⟩
/-- What is known of a value of cells. -/
def Cl (n : Nat) (cs : Array Value) : Prop := cs.size = n ∧ cs.all (·.oneCell') = true
theorem cl_id {l : List Nat} (h : IdOk l) : Cl 32 (idA l) := ⟨by rw [idA_size, h.len], one_idA _⟩
theorem run_load_cl (w : World) (g n : Nat) (ty : TypeId) (d : TypeDesc) (cs : Array Value) (T : TypeId) (fr : Nat × Nat) (hg : w.heap[g]? = some (.cells cs T fr)) (hd : (match d with | .struct _ | .array _ _ => true | _ => false) = true) (hu : Tryz.prog.underlying ty = some d) (hi : (Tryz.prog.info? ty).map (·.size) = some n) (hc : cs.size = n) :
    (loadVar ty ⟨g, 0, none⟩).run Tryz.prog w = .ok (.agg cs) w :=
  by
  have hi' : (Tryz.prog.info? ty).map (·.size) = some cs.size := by rw [hi, hc]
  cases d <;> first | exact run_loadVar_row w g T ty cs fr _ hg hu rfl hi' | exact absurd hd (by simp)
set_option maxHeartbeats 2000000 in
theorem target_any (w : World) (b : Nat) (t : ByteArray) (st en : Nat) (at_ : Int) (er : Nat) (h : WS w b t st en at_ er) (hE : Env w) (hb9 : 9 ≤ b) (ht : t.size ≤ 1000000) :
    Calls Tryz.prog 185 #[.pointer (some ⟨b, 0, none⟩)] w (WPost w b t en er tgtF fun v => ∃ cs, v = .agg cs ∧ Cl 32 cs) := by
  obtain ⟨zs, hzs⟩ : ∃ zs, zs = idA zero32 := ⟨_, rfl⟩
  have zcl : Cl 32 zs := by rw [hzs]; exact cl_id zero_ok
  have BU : Hid (∀ w, (Instr.build 26 #[]).run Tryz.prog w = .ok (.agg zs) w) := Lib.hid (fun w => by rw [hzs]; kernel_rfl)
  have hbw := h.lt
  have NX : Hid (∀ w0, w.alloc (.cells zs 26) = w0 → Calls Tryz.prog 224 #[.pointer (some ⟨b, 0, none⟩)] w0 (NxPost (w.alloc (.cells zs 26)) b t st en er)) := Lib.hid (by
    rintro w0 rfl
    have B := (Below.refl w.heap.size w).alloc (Nat.le_refl _) (.cells zs 26)
    exact next_any _ b t st en at_ er (h.below B) (hE.on B) hb9 ht)
  have START : Hid (w.alloc (.cells zs 26) = w.alloc (.cells (Array.replicate 32 (.int .u8 0)) 26)) := Lib.hid (by rw [hzs]; rfl)
  have HE := Lib.hid hE
  have ZCL := Lib.hid zcl
  clear h hE hzs zcl
  go_enter Tryz.func185, Tryz.ntmps185
  go_wp2_with fail
  refine (NX.out _ START.out).mono ?_
  rintro e w1 ⟨x, ok, st', en', a, er', rfl, h1, f1, hx, h⟩
  have hz1 : w1.heap[w.heap.size]? = some (.cells zs 26 (0, 0)) := (f1.other w.heap.size (by simp) (by omega)).trans (heap_alloc_new w _)
  have f0 : Fr1 b w w1 := (Fr1.of_below ((Below.refl w.heap.size w).alloc (Nat.le_refl _) _)).trans f1
  have H1 := Lib.hid h1; have F1 := Lib.hid f0; have Z1 := Lib.hid hz1
  have hs1 : w.heap.size < w1.heap.size := lt_of_block hz1
  clear NX h1 f1 START f0 hz1
  rcases h with ⟨rfl, hne, hk⟩ | ⟨rfl, rfl, rfl, hk⟩
  · have SL : Hid (StL t en er en' er' tgtF) := Lib.hid (StL.no hne hk)
    have ST := Lib.hid (run_storeVar_row (P := Tryz.prog) w1 w.heap.size _ 26 zs zs Z1.out (by rw [ZCL.out.1]; exact size23) rfl ZCL.out.2)
    have W2 := Lib.hid (setRow_heap w1 w.heap.size zs zs _ _ Z1.out)
    have H2 := Lib.hid (H1.out.row (show b ≠ w.heap.size by omega) zs)
    have F2 := Lib.hid (F1.out.row (Nat.le_refl w.heap.size) zs)
    clear hne hk
    go_wp2_with (first
      | ((with_reducible refine wpList_build0 26 rfl rfl ?_); refine ⟨_, BU.out _, ?_⟩)
      | ((with_reducible refine wpList_store 26 rfl _ _ rfl ?_); refine ⟨_, _, _, rfl, rfl, ST.out, ?_⟩))
    exact bodyPost_ret (results_cell_row Tryz.results185 _ _ w.heap.size _ _ _ _ rfl W2.out Tryz.underlying26 rfl (by rw [ZCL.out.1]; exact size23)) rfl
      ⟨_, st', en', a, er', rfl, ⟨_, rfl, ZCL.out⟩, H2.out, F2.out, SL.out⟩
  · have SL : Hid (StL t en 0 en' (tgtF (bs x)) tgtF) := Lib.hid (StL.yes hk)
    have MP := Lib.hid (mparse_any x w1 (by omega))
    have TF : Hid (tgtF (bs x) = match midP (bs x) with | none => 3 | some i => if i = zero32 then 1 else 0) := Lib.hid rfl
    clear hk
    -- what follows from the last region on
    have FIN : Hid (∀ (w4 : World) (cs : Array Value) (p : Nat) (st' : Nat) (a : Int) (n : Nat), Cl 32 cs → w4.heap[w.heap.size]? = some (.cells zs 26 (0, 0)) → w4.heap[p]? = some (.cells cs 26 (0, 0)) → WS w4 b t st' en' a n → Fr1 b w w4 → StL t en 0 en' n tgtF →
        (loadVar 26 ⟨p, 0, none⟩).run Tryz.prog w4 = .ok (.agg cs) w4 ∧ (storeVar 26 ⟨w.heap.size, 0, none⟩ (.agg cs)).run Tryz.prog w4 = .ok () (w4.setRow w.heap.size cs) ∧
        (∀ tmps : Array Value, tmps.getD 2 undef = .pointer (some ⟨w.heap.size, 0, none⟩) → (results Tryz.f185 tmps).run Tryz.prog (w4.setRow w.heap.size cs) = .ok (.agg cs) (w4.setRow w.heap.size cs)) ∧
        WPost w b t en 0 tgtF (fun v => ∃ cs, v = .agg cs ∧ Cl 32 cs) (.returned (.agg cs)) (w4.setRow w.heap.size cs)) := Lib.hid (fun w4 cs p st' a n hcl hg hp hw hf hsl =>
      ⟨run_load_cl w4 p 32 _ _ cs _ _ hp rfl Tryz.underlying26 size23 hcl.1,
       run_storeVar_row (P := Tryz.prog) w4 w.heap.size _ 26 zs cs hg (by rw [hcl.1]; exact size23) (by rw [hcl.1, ZCL.out.1]) hcl.2,
       fun tmps h2 => results_cell_row Tryz.results185 tmps _ w.heap.size _ _ _ _ h2 (setRow_heap w4 w.heap.size zs cs _ _ hg) Tryz.underlying26 rfl (by rw [hcl.1]; exact size23),
       ⟨_, st', en', a, n, rfl, ⟨_, rfl, hcl⟩, hw.row (by omega) cs, hf.row (Nat.le_refl _) cs, hsl⟩⟩)
    cases hp : midP (bs x) with
    | none =>
      have SL2 : Hid (StL t en 0 en' 3 tgtF) := Lib.hid (by have := SL.out; rw [TF.out, hp] at this; exact this)
      clear SL TF
      go_wp2_with fail
      refine MP.out.mono ?_
      rintro e w2 ⟨a2, er2, hv, hb2⟩
      rw [hp] at hv
      obtain ⟨rfl, her⟩ := hv
      obtain ⟨cs, hcs⟩ : ∃ cs, cs = idA zero32 := ⟨_, rfl⟩
      have CL : Hid (Cl 32 cs) := Lib.hid (by rw [hcs]; exact cl_id zero_ok)
      rw [← hcs]
      have q0 : (er2 != 0) = true := int_neq her
      have STN : Hid (∀ zz : Array Value, zz.size = 32 → (storeVar 26 ⟨w2.heap.size, 0, none⟩ (.agg cs)).run Tryz.prog (w2.alloc (.cells zz 26)) = .ok () (w2.alloc (.cells cs 26))) := Lib.hid (fun zz hz => run_storeVar_new w2 26 zz cs (by rw [CL.out.1]; exact size23) (by rw [hz, CL.out.1]) CL.out.2)
      have hb3 : Below w1.heap.size w1 (w2.alloc (.cells cs 26)) := hb2.alloc hb2.size _
      have h3 := H1.out.below hb3
      have hc1 : (w2.alloc (.cells cs 26)).cell? ⟨b, 1, none⟩ = some (.int .i64 (st' : Int)) := cell_of_row _ b 1 _ _ _ h3.1
      have Z3 := Lib.hid ((hb3.block _ hs1).trans Z1.out)
      have P3 := Lib.hid (heap_alloc_new w2 (.cells cs 26))
      have F3 := Lib.hid (F1.out.trans (Fr1.of_below hb3))
      have FL := Lib.hid (fail_any _ b t st' en' a 0 h3 (st' : Int) 3)
      have hbp : b ≠ w2.heap.size := by have := H1.out.lt; have := hb2.size; omega
      have hgp : w.heap.size < w2.heap.size := by have := hb2.size; omega
      clear MP hp her hb2 hb3 h3 hcs
      go_wp2_with ((with_reducible refine wpList_store 26 rfl _ _ rfl ?_); refine ⟨_, _, _, rfl, rfl, STN.out _ rfl, ?_⟩)
      refine FL.out.mono ?_
      rintro e w4 ⟨⟨v, rfl⟩, ⟨a', h4⟩, f4⟩
      obtain ⟨LD, ST, RES, POST⟩ := FIN.out w4 cs w2.heap.size st' a' 3 CL.out ((f4.other _ (by simp; omega) (by omega)).trans Z3.out) ((f4.other _ (by simp) (by omega)).trans P3.out) h4 (F3.out.trans f4) SL2.out
      have LD := Lib.hid LD; have ST := Lib.hid ST; have RES := Lib.hid RES; have POST := Lib.hid POST
      clear h4 f4 FL FIN hc1
      go_upto_region 9 with fail
      refine wp_region_list ?_
      simp only []
      refine wpList_load 26 rfl _ rfl ⟨_, _, rfl, LD.out, ?_⟩
      go_wp2_with ((with_reducible refine wpList_store 26 rfl _ _ rfl ?_); refine ⟨_, _, _, rfl, rfl, ST.out, ?_⟩)
      exact bodyPost_ret (RES.out _ rfl) rfl POST.out
    | some l =>
      have IOK := Lib.hid (mid_ok hp)
      obtain ⟨z, hz⟩ : ∃ z, z = decide (l = zero32) := ⟨_, rfl⟩
      have SL2 : Hid (StL t en 0 en' (if z = true then 1 else 0) tgtF) := Lib.hid (by have := SL.out; rw [TF.out, hp] at this; simp only [hz, decide_eq_true_eq]; exact this)
      clear SL TF
      go_wp2_with fail
      refine MP.out.mono ?_
      rintro e w2 ⟨a2, er2, hv, hb2⟩
      rw [hp] at hv
      obtain rfl := hv
      obtain ⟨cs, hcs⟩ : ∃ cs, cs = idA l := ⟨_, rfl⟩
      have CL : Hid (Cl 32 cs) := Lib.hid (by rw [hcs]; exact cl_id IOK.out)
      have IZ : Hid (∀ w, Calls Tryz.prog 99 #[.agg cs] w fun e w' => e = .returned (.bool z) ∧ Below w.heap.size w w') := Lib.hid (fun w => by rw [hz, hcs]; exact iszero_any w IOK.out)
      rw [← hcs]
      have STN : Hid (∀ zz : Array Value, zz.size = 32 → (storeVar 26 ⟨w2.heap.size, 0, none⟩ (.agg cs)).run Tryz.prog (w2.alloc (.cells zz 26)) = .ok () (w2.alloc (.cells cs 26))) := Lib.hid (fun zz hz => run_storeVar_new w2 26 zz cs (by rw [CL.out.1]; exact size23) (by rw [hz, CL.out.1]) CL.out.2)
      have hb3 : Below w1.heap.size w1 (w2.alloc (.cells cs 26)) := hb2.alloc hb2.size _
      have H3 := Lib.hid (H1.out.below hb3)
      have Z3 := Lib.hid ((hb3.block _ hs1).trans Z1.out)
      have P3 := Lib.hid (heap_alloc_new w2 (.cells cs 26))
      have F3 := Lib.hid (F1.out.trans (Fr1.of_below hb3))
      have LD0 : Hid ((loadVar 26 ⟨w2.heap.size, 0, none⟩).run Tryz.prog (w2.alloc (.cells cs 26)) = .ok (.agg cs) (w2.alloc (.cells cs 26))) := Lib.hid (run_load_cl _ w2.heap.size 32 _ _ cs _ _ P3.out rfl Tryz.underlying26 size23 CL.out.1)
      have hbp : b < w2.heap.size := by have := H1.out.lt; have := hb2.size; omega
      have hgp : w.heap.size < w2.heap.size := by have := hb2.size; omega
      clear MP hp hb2 hb3 hcs hz
      go_upto_region 7 with ((with_reducible refine wpList_store 26 rfl _ _ rfl ?_); refine ⟨_, _, _, rfl, rfl, STN.out _ rfl, ?_⟩)
      refine wp_region_list ?_
      simp only []
      refine wpList_load 26 rfl _ rfl ⟨_, _, rfl, LD0.out, ?_⟩
      go_wp2_with fail
      refine (IZ.out _).mono ?_
      rintro e w3 ⟨rfl, hb4⟩
      have h4 := H3.out.below hb4
      have hc1 : w3.cell? ⟨b, 1, none⟩ = some (.int .i64 (st' : Int)) := cell_of_row _ b 1 _ _ _ h4.1
      have Z4 := Lib.hid ((hb4.block _ (by simp; omega)).trans Z3.out)
      have P4 := Lib.hid ((hb4.block _ (by simp)).trans P3.out)
      have F4 := Lib.hid (F3.out.trans (Fr1.of_below hb4))
      have H4 := Lib.hid h4
      have hs4 : w2.heap.size < w3.heap.size := lt_of_block P4.out
      have FL := Lib.hid (fail_any _ b t st' en' a 0 h4 (st' : Int) 1)
      clear hb4 h4 IZ LD0 STN Z3 P3
      cases z
      · obtain ⟨LD, ST, RES, POST⟩ := FIN.out w3 cs w2.heap.size st' a 0 CL.out Z4.out P4.out H4.out F4.out SL2.out
        have LD := Lib.hid LD; have ST := Lib.hid ST; have RES := Lib.hid RES; have POST := Lib.hid POST
        clear FL FIN hc1
        go_upto_region 9 with fail
        refine wp_region_list ?_
        simp only []
        refine wpList_load 26 rfl _ rfl ⟨_, _, rfl, LD.out, ?_⟩
        go_wp2_with ((with_reducible refine wpList_store 26 rfl _ _ rfl ?_); refine ⟨_, _, _, rfl, rfl, ST.out, ?_⟩)
        exact bodyPost_ret (RES.out _ rfl) rfl POST.out
      · go_wp2_with fail
        refine FL.out.mono ?_
        rintro e w4 ⟨⟨v, rfl⟩, ⟨a', h4⟩, f4⟩
        obtain ⟨LD, ST, RES, POST⟩ := FIN.out w4 cs w2.heap.size st' a' 1 CL.out ((f4.other _ (by omega) (by omega)).trans Z4.out) ((f4.other _ (by omega) (by omega)).trans P4.out) h4 (F4.out.trans f4) SL2.out
        have LD := Lib.hid LD; have ST := Lib.hid ST; have RES := Lib.hid RES; have POST := Lib.hid POST
        clear h4 f4 FL FIN hc1
        go_upto_region 9 with fail
        refine wp_region_list ?_
        simp only []
        refine wpList_load 26 rfl _ rfl ⟨_, _, rfl, LD.out, ?_⟩
        go_wp2_with ((with_reducible refine wpList_store 26 rfl _ _ rfl ?_); refine ⟨_, _, _, rfl, rfl, ST.out, ?_⟩)
        exact bodyPost_ret (RES.out _ rfl) rfl POST.out
end Go.Proofs.YtohmdledkhgdaaaGreatDoor
