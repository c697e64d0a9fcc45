/- One who enters: the walks of comer's look and enter. -/
import Derived.Test.YtconieenkeajiaaFoundNew
namespace Go.Proofs.Ytconieenkeajiaa
open Go.RowKit
set_option linter.unusedVariables false
set_option linter.unusedSimpArgs false

theorem Arn.drewN {w : World} {p b : Nat} {ws : List Int} (h : Arn w p b ws) (n : Nat) : Arn (w.drewN n) p b ws := ⟨h.box, h.row, h.ok, h.ne, h.small, h.some⟩
theorem Arn.drew {w : World} {p b : Nat} {ws : List Int} (h : Arn w p b ws) : Arn w.drew p b ws := ⟨h.box, h.row, h.ok, h.ne, h.small, h.some⟩
/-- one who enters, in memory -/
def comArr (p : Nat) (a : Int) (cs : Array Value) : Array Value := #[.pointer (some ⟨p, 0, none⟩), .int .i64 a] ++ cs
theorem com_get (p : Nat) (a : Int) (cs : Array Value) (j : Nat) : (comArr p a cs)[2 + j]? = cs[j]? := by
  unfold comArr
  rw [Array.getElem?_append_right (by simp)]
  simp
theorem com_size (p : Nat) (a : Int) (cs : Array Value) : (comArr p a cs).size = 2 + cs.size := by simp [comArr]
theorem com_set (p : Nat) (a : Int) (cs : Array Value) (j : Nat) (v : Value) : (comArr p a cs).setIfInBounds (2 + j) v = comArr p a (cs.setIfInBounds j v) := by
  apply Array.ext_getElem?
  intro i
  rcases Nat.lt_or_ge i 2 with h | h
  · rw [Array.getElem?_setIfInBounds_ne (by omega)]
    unfold comArr
    rw [Array.getElem?_append_left (by simpa using h), Array.getElem?_append_left (by simpa using h)]
  · obtain ⟨k, rfl⟩ : ∃ k, i = 2 + k := ⟨i - 2, by omega⟩
    rw [com_get]
    by_cases e : j = k
    · subst e
      by_cases hl : j < cs.size
      · rw [Array.getElem?_setIfInBounds_self_of_lt (by rw [com_size]; omega), Array.getElem?_setIfInBounds_self_of_lt hl]
      · rw [Array.getElem?_eq_none (by simp [com_size]; omega), Array.getElem?_eq_none (by simp; omega)]
    · rw [Array.getElem?_setIfInBounds_ne (by omega), com_get, Array.getElem?_setIfInBounds_ne e]
theorem com_sub (p : Nat) (a : Int) (cs cs' : Array Value) (h : cs'.size = cs.size) : subSet (comArr p a cs) 2 cs' = comArr p a cs' := by
  apply Array.ext_getElem?
  intro i
  have hs : 2 + cs'.size ≤ (comArr p a cs).size := by rw [com_size]; omega
  rcases Nat.lt_or_ge i 2 with h2 | h2
  · rw [subSet_out _ _ _ hs _ (.inl h2)]
    unfold comArr
    rw [Array.getElem?_append_left (by simpa using h2), Array.getElem?_append_left (by simpa using h2)]
  · obtain ⟨k, rfl⟩ : ∃ k, i = 2 + k := ⟨i - 2, by omega⟩
    rcases Nat.lt_or_ge k cs'.size with h3 | h3
    · rw [com_get, subSet_in _ _ _ hs k cs'[k] (by simp [h3])]
      simp [h3]
    · rw [subSet_out _ _ _ hs _ (.inr (by omega)), Array.getElem?_eq_none (by rw [com_size]; omega), Array.getElem?_eq_none (by rw [com_size]; omega)]
abbrev Com (w : World) (g p : Nat) (a : Int) (r : Rn) : Prop := w.heap[g]? = some (.cells (comArr p a r.arr) 93 (0, 0))
theorem Com.cell {w : World} {g p : Nat} {a : Int} {r : Rn} (h : Com w g p a r) (n j : Nat) (v : Value) (hn : n = 2 + j) (hj : r.arr[j]? = some v) : w.cell? ⟨g, n, none⟩ = some v := by
  subst hn
  rw [row_cell h, com_get, hj]
theorem com_0 (p : Nat) (a : Int) (cs : Array Value) : (comArr p a cs)[0]? = some (.pointer (some ⟨p, 0, none⟩)) := by
  unfold comArr
  rw [Array.getElem?_append_left (by simp)]; simp
theorem com_1 (p : Nat) (a : Int) (cs : Array Value) : (comArr p a cs)[1]? = some (.int .i64 a) := by
  unfold comArr
  rw [Array.getElem?_append_left (by simp)]; simp
theorem com_box {w : World} {g p : Nat} {a : Int} {r : Rn} (h : Com w g p a r) :
    w.cell? ⟨g, 0, none⟩ = some (.pointer (some ⟨p, 0, none⟩)) ∧ w.cell? ⟨g, 1, none⟩ = some (.int .i64 a) ∧ w.cell? ⟨g, 9, none⟩ = some (.int .i64 r.pc) ∧ w.cell? ⟨g, 10, none⟩ = some (.int .i64 r.area) ∧ w.cell? ⟨g, 14, none⟩ = some (.int .u64 r.word) ∧ w.cell? ⟨g, 15, none⟩ = some (.int .u64 r.next) ∧ w.cell? ⟨g, 23, none⟩ = some (.bool r.done) ∧
      w.frozen? ⟨g, 9, none⟩ = false ∧ w.frozen? ⟨g, 14, none⟩ = false ∧ w.frozen? ⟨g, 15, none⟩ = false ∧ g < w.heap.size :=
  ⟨by rw [row_cell h, com_0], by rw [row_cell h, com_1], h.cell 9 7 (.int .i64 r.pc) rfl rfl, h.cell 10 8 (.int .i64 r.area) rfl rfl, h.cell 14 12 (.int .u64 r.word) rfl rfl, h.cell 15 13 (.int .u64 r.next) rfl rfl, h.cell 23 21 (.bool r.done) rfl rfl, row_frozen h 9, row_frozen h 14, row_frozen h 15, lt_of_heap h⟩
theorem set_two {P : World → Prop} (W : World) (g i j : Nat) (u v : Value) (cs : Array Value) (t : TypeId) (h : W.heap[g]? = some (.cells cs t (0, 0)))
    (K : ∀ Y, Y.heap[g]? = some (.cells ((cs.setIfInBounds i u).setIfInBounds j v) t (0, 0)) → Keep [g] W Y → P Y) : P ((W.setCell ⟨g, i, none⟩ u).setCell ⟨g, j, none⟩ v) :=
  K _ (row_set (row_set h u) v) (((Keep.refl [g] W).setCell (p := ⟨g, i, none⟩) (.inl (by simp)) u).setCell (p := ⟨g, j, none⟩) (.inl (by simp)) v)
theorem set_three {P : World → Prop} (W : World) (g i j k : Nat) (u v x : Value) (cs : Array Value) (t : TypeId) (h : W.heap[g]? = some (.cells cs t (0, 0)))
    (K : ∀ Y, Y.heap[g]? = some (.cells (((cs.setIfInBounds i u).setIfInBounds j v).setIfInBounds k x) t (0, 0)) → Keep [g] W Y → P Y) : P (((W.setCell ⟨g, i, none⟩ u).setCell ⟨g, j, none⟩ v).setCell ⟨g, k, none⟩ x) :=
  K _ (row_set (row_set (row_set h u) v) x) ((((Keep.refl [g] W).setCell (p := ⟨g, i, none⟩) (.inl (by simp)) u).setCell (p := ⟨g, j, none⟩) (.inl (by simp)) v).setCell (p := ⟨g, k, none⟩) (.inl (by simp)) x)
theorem infoRun' : (Try.prog.info? 40).map (·.size) = some 26 := infoRun

theorem one4 (a b c d : Int) : (#[Value.int .i64 a, .int .i64 b, .int .i64 c, .int .i64 d].all (·.oneCell')) = true := by simp [Value.oneCell']
/-- what a look makes of a call -/
def lookR (c : Ctl) (r : Rn) : Rn :=
  if (enter c r.area).2 = 10 then r else if (enter c r.area).2 = 0 then { r with pc := 14, word := word c, next := word (enter c r.area).1 } else toldR r (enter c r.area).2 0 noS
/-- what entering makes of it -/
def enterR (x : Int) (r : Rn) : Rn := if x = r.word then toldR r 0 0 noS else { r with word := 0, next := 0, pc := 13 }
theorem enter_right {c d : Ctl} {a : Int} (h : enter c a = (d, 0)) : Right d := by
  unfold enter at h
  split at h
  · exact absurd (congrArg Prod.snd h) (by simp)
  · rename_i h1
    have h2 : Right c ∧ 0 ≤ a ∧ a ≤ 7 := Decidable.not_not.1 h1
    obtain ⟨hr, f0, f1⟩ := h2
    obtain ⟨e0, e1, hk⟩ := hr
    split at h
    · exact absurd (congrArg Prod.snd h) (by simp)
    · split at h
      · exact absurd (congrArg Prod.snd h) (by simp)
      · split at h
        · simp only [Prod.mk.injEq, and_true] at h
          subst h
          refine ⟨e0, e1, .inr (.inl ⟨rfl, by simp, by simp, ?_, ?_⟩)⟩ <;> simp <;> omega
        · split at h
          · exact absurd (congrArg Prod.snd h) (by simp)
          · split at h
            · exact absurd (congrArg Prod.snd h) (by simp)
            · simp only [Prod.mk.injEq, and_true] at h
              subst h
              refine ⟨e0, e1, ?_⟩
              simp
              omega

set_option maxRecDepth 100000 in
set_option maxHeartbeats 2000000 in
theorem look_any (g p b k : Nat) (ws : List Int) (c : Ctl) (r : Rn) (w : World) (hC : Com w g p ((k * 8 : Nat) : Int) r) (hA : Arn w p b ws) (hc : Right c) (hk : ws[k]? = some (word c)) (hs : r.said = noS) (hn : g ≠ p ∧ g ≠ b) :
    Calls Try.prog 35 #[.pointer (some ⟨g, 0, none⟩)] w fun e w' => e = .returned (.tuple #[]) ∧ Com w' g p ((k * 8 : Nat) : Int) (lookR c r) ∧ Keep [g] w w' := by
  obtain ⟨cc, Hcc⟩ : ∃ cc, Hid (lookR c r = cc) := ⟨_, Lib.hid rfl⟩
  have HU := Lib.hid (unpack_word hc)
  have HY := Lib.hid (word_bd hc)
  have HC := Lib.hid hC
  have HA := Lib.hid hA
  have HK := Lib.hid hk
  have HSd := Lib.hid hs
  have Hn := Lib.hid hn
  obtain ⟨c1, c2, c3, c4⟩ := c
  obtain ⟨d1, d2, d3, d4, e, HE⟩ : ∃ d1 d2 d3 d4 e, Hid (enter ⟨c1, c2, c3, c4⟩ r.area = (⟨d1, d2, d3, d4⟩, e)) := ctl_parts _
  have HL : Hid (cc = if e = 10 then r else if e = 0 then { r with pc := 14, word := word ⟨c1, c2, c3, c4⟩, next := word ⟨d1, d2, d3, d4⟩ } else toldR r e 0 noS) := Lib.hid (by rw [← Hcc.out, lookR, HE.out])
  obtain ⟨v, Hv⟩ : ∃ x, Hid (word ⟨c1, c2, c3, c4⟩ = x) := ⟨_, Lib.hid rfl⟩
  rw [Hv.out] at HU HY HK HL
  rw [Hcc.out]
  obtain ⟨m, Hm⟩ : ∃ m, m = ((k * 8 : Nat) : Int) := ⟨_, rfl⟩
  have HW := fun w' (h : Arn w' p b ws) => Lib.hid (arnWord_any p b ws k v w' h HK.out)
  rw [← Hm] at HC HW ⊢
  clear hC hA hc hk hs hn Hcc Hm
  obtain ⟨p0, p1, p9, p10, p14, p15, p23, f9, f14, f15, zg⟩ := com_box HC.out
  go_enter Try.func35, Try.ntmps35
  go_upto_region 1 with (go_quiet ((go_at_call 24; exact Calls.quiet_of_same (HW _ (by first | exact HA.out | exact HA.out.drewN _)).out)))
  go_wp2_with fail
  refine (unpack_as HU HY.out.1 (by have := HY.out.2; omega) _).mono ?_
  rintro e' w2 ⟨rfl, hb⟩
  have HB2 := Lib.hid (below_only (below_drewN (Below.refl w.heap.size w) nq) hb)
  clear hb
  go_upto_region 2 with fail
  refine one_row w2 _ _ ?_
  intro w3 hr3 hb3
  have HB3 := Lib.hid (below_only HB2.out hb3)
  have HC3 : Hid (Com w3 g p m r) := Lib.hid (row_below HC.out HB3.out)
  obtain ⟨x0, x1, x2, x3, _⟩ := box4 hr3
  have z4 := lt_of_heap hr3
  clear hb3 hr3 p0 p1 p9 p10 p14 p15 p23 f9 f14 f15 zg HB2
  obtain ⟨p0, p1, p9, p10, p14, p15, p23, f9, f14, f15, zg⟩ := com_box HC3.out
  go_cut [6, 7] from 6 to 34 (fun v6 v7 wx => ∃ gZ, v6 = .pointer (some ⟨gZ, 0, none⟩) ∧ v7 = .int .i64 e ∧ w3.heap.size ≤ gZ ∧ wx.heap[gZ]? = some (.cells #[.int .i64 d1, .int .i64 d2, .int .i64 d3, .int .i64 d4] 23 (0, 0)) ∧ Below w3.heap.size w3 wx)
  case first =>
    refine wp_region_held_drew (S := Old w3) (by kernel_rfl) (old_of (by go_grown)) ?_
    intro hS
    generalize w3.drew = y0 at hS ⊢
    refine wpAnyH_take_at (i := 0) (v := ?v0x1) (some 26) rfl rfl (by kernel_rfl) (by kernel_rfl) (by kernel_rfl) (fun _ _ _ h => h) (Or.inl ⟨by kernel_rfl, ?h0x1⟩) (by assumption) ?r0x1
    case h0x1 => (intro w hSw; (try dsimp only at hSw); go_simp; first | done | (with_reducible rfl))
    try simp only [Act.put]
    try simp only [List.setIfInBounds_toArray]
    try simp only [List.set_cons_succ]
    try simp only [List.set_cons_zero]
    refine wpAnyH_take_at (i := 1) (v := ?v1x2) (some 27) rfl rfl (by kernel_rfl) (by kernel_rfl) (by kernel_rfl) (fun _ _ _ h => h) (Or.inl ⟨by kernel_rfl, ?h1x2⟩) (by assumption) ?r1x2
    case h1x2 => (intro w hSw; (try dsimp only at hSw); go_simp; first | done | (with_reducible rfl))
    try simp only [Act.put]
    try simp only [List.setIfInBounds_toArray]
    try simp only [List.set_cons_succ]
    try simp only [List.set_cons_zero]
    refine wpAnyH_take_at (i := 2) (v := ?v2x3) (some 28) rfl rfl (by kernel_rfl) (by kernel_rfl) (by kernel_rfl) (fun _ _ _ h => h) (Or.inl ⟨by kernel_rfl, ?h2x3⟩) (by assumption) ?r2x3
    case h2x3 => (intro w hSw; (try dsimp only at hSw); go_simp; first | done | (with_reducible rfl))
    try simp only [Act.put]
    try simp only [List.setIfInBounds_toArray]
    try simp only [List.set_cons_succ]
    try simp only [List.set_cons_zero]
    refine wpAnyH_take_at (i := 3) (v := ?v3x4) (some 29) rfl rfl (by kernel_rfl) (by kernel_rfl) (by kernel_rfl) (fun _ _ _ h => h) (Or.inl ⟨by kernel_rfl, ?h3x4⟩) (by assumption) ?r3x4
    case h3x4 => (intro w hSw; (try dsimp only at hSw); go_simp; first | done | (with_reducible rfl))
    try simp only [Act.put]
    try simp only [List.setIfInBounds_toArray]
    try simp only [List.set_cons_succ]
    try simp only [List.set_cons_zero]
    refine wpAnyH_take_at (i := 4) (v := ?v4x5) (some 30) rfl rfl (by kernel_rfl) (by kernel_rfl) (by kernel_rfl) (fun _ _ _ h => h) (Or.inl ⟨by kernel_rfl, ?h4x5⟩) (by assumption) ?r4x5
    case h4x5 => (intro w hSw; (try dsimp only at hSw); go_simp; first | done | (with_reducible rfl))
    try simp only [Act.put]
    try simp only [List.setIfInBounds_toArray]
    try simp only [List.set_cons_succ]
    try simp only [List.set_cons_zero]
    refine wpAnyH_take_at (i := 5) (v := ?v5x6) (some 31) rfl rfl (by kernel_rfl) (by kernel_rfl) (by kernel_rfl) (fun _ _ _ h => h) (Or.inl ⟨by kernel_rfl, ?h5x6⟩) (by assumption) ?r5x6
    case h5x6 => (intro w hSw; (try dsimp only at hSw); go_simp; first | done | (with_reducible rfl))
    try simp only [Act.put]
    try simp only [List.setIfInBounds_toArray]
    try simp only [List.set_cons_succ]
    try simp only [List.set_cons_zero]
    refine wpAnyH_ready (rs := [6, 10]) (by kernel_rfl) (by simp) ?_
    refine AllReadyH.cons rfl (fun K hK => ?_) (AllReadyH.cons rfl (fun K hK => ?_) AllReadyH.nil)
    · skip
      go_simp
      refine (enter_as HE _).mono ?_
      rintro r yE ⟨rfl, hb⟩
      go_simp
      have oE := below_only hS.1 hb
      refine hK.out _ _ (old_of oE) (fun hS => ?_)
      clear hK K
      try simp only [Act.put]
      try simp only [List.setIfInBounds_toArray]
      try simp only [List.set_cons_succ]
      try simp only [List.set_cons_zero]
      refine wpAnyH_take_at (i := 7) (v := ?v7x7) (some 25) rfl rfl (by kernel_rfl) (by kernel_rfl) (by kernel_rfl) (fun _ _ _ h => h) (Or.inl ⟨by kernel_rfl, ?h7x7⟩) (by assumption) ?r7x7
      case h7x7 => (intro w hSw; (try dsimp only at hSw); go_simp; first | done | (with_reducible rfl))
      try simp only [Act.put]
      try simp only [List.setIfInBounds_toArray]
      try simp only [List.set_cons_succ]
      try simp only [List.set_cons_zero]
      refine wpAnyH_take_at (i := 8) (v := ?v8x8) (some 33) rfl rfl (by kernel_rfl) (by kernel_rfl) (by kernel_rfl) (fun _ _ _ h => h) (Or.inl ⟨by kernel_rfl, ?h8x8⟩) (by assumption) ?r8x8
      case h8x8 => (intro w hSw; (try dsimp only at hSw); go_simp; first | done | (with_reducible rfl))
      try simp only [Act.put]
      try simp only [List.setIfInBounds_toArray]
      try simp only [List.set_cons_succ]
      try simp only [List.set_cons_zero]
      refine wpAnyH_take_at (i := 9) (v := ?v9x9) (some 34) rfl rfl (by kernel_rfl) (by kernel_rfl) (by kernel_rfl) (fun _ _ _ h => h) (Or.inl ⟨by kernel_rfl, ?h9x9⟩) (by assumption) ?r9x9
      case h9x9 => (intro w hSw; (try dsimp only at hSw); go_simp; first | done | (with_reducible rfl))
      try simp only [Act.put]
      try simp only [List.setIfInBounds_toArray]
      try simp only [List.set_cons_succ]
      try simp only [List.set_cons_zero]
      refine wpAnyH_ready (rs := [10]) (by kernel_rfl) (by simp) ?_
      refine AllReadyH.cons rfl (fun K hK => ?_) AllReadyH.nil
      go_simp
      refine k_alloc (fun yZ hZ hb => ?_)
      have oZ := below_only hS.1 hb
      have hgZ : w3.heap.size ≤ yE.heap.size := hS.1.size
      obtain ⟨gZ, HgZ⟩ : ∃ x, x = yE.heap.size := ⟨_, rfl⟩
      rw [← HgZ] at hZ hgZ ⊢
      clear HgZ
      refine hK.out _ _ (old_of oZ) (fun hS => ?_)
      clear hK K
      try simp only [Act.put]
      try simp only [List.setIfInBounds_toArray]
      try simp only [List.set_cons_succ]
      try simp only [List.set_cons_zero]
      refine wpAnyH_ready (rs := [11]) (by kernel_rfl) (by simp) ?_
      refine AllReadyH.cons rfl (fun K hK => ?_) AllReadyH.nil
      refine step_store_row none rfl rfl 23 (.tmp 6) (.tmp 33) rfl gZ #[.int .i64 d1, .int .i64 d2, .int .i64 d3, .int .i64 d4] rfl rfl 23 #[.int .i64 0, .int .i64 0, .int .i64 0, .int .i64 0] hZ infoCtl4 rfl (one4 _ _ _ _) ?_
      refine hK.out _ _ (old_of (below_setRow hS.1 hgZ _)) (fun hS => ?_)
      clear hK K
      try simp only [Act.put]
      try simp only [List.setIfInBounds_toArray]
      try simp only [List.set_cons_succ]
      try simp only [List.set_cons_zero]
      refine wpAnyH_take_at (i := 12) (v := ?v12x10) (some 7) rfl rfl (by kernel_rfl) (by kernel_rfl) (by kernel_rfl) (fun _ _ _ h => h) (Or.inl ⟨by kernel_rfl, ?h12x10⟩) (by assumption) ?r12x10
      case h12x10 => (intro w hSw; (try dsimp only at hSw); go_simp; first | done | (with_reducible rfl))
      try simp only [Act.put]
      try simp only [List.setIfInBounds_toArray]
      try simp only [List.set_cons_succ]
      try simp only [List.set_cons_zero]
      refine wpAnyH_done (by kernel_rfl) ?_ _
      go_wp2_with fail
      go_meet
      exact ⟨gZ, rfl, rfl, hgZ, setRow_heap _ _ _ _ _ _ hZ, by first | exact hS.1 | assumption⟩
    · skip
      go_simp
      refine k_alloc (fun yZ hZ hb => ?_)
      have oZ := below_only hS.1 hb
      have hgZ : w3.heap.size ≤ y0.heap.size := hS.1.size
      obtain ⟨gZ, HgZ⟩ : ∃ x, x = y0.heap.size := ⟨_, rfl⟩
      rw [← HgZ] at hZ hgZ ⊢
      clear HgZ
      refine hK.out _ _ (old_of oZ) (fun hS => ?_)
      clear hK K
      try simp only [Act.put]
      try simp only [List.setIfInBounds_toArray]
      try simp only [List.set_cons_succ]
      try simp only [List.set_cons_zero]
      refine wpAnyH_ready (rs := [6]) (by kernel_rfl) (by simp) ?_
      refine AllReadyH.cons rfl (fun K hK => ?_) AllReadyH.nil
      go_simp
      refine (enter_as HE _).mono ?_
      rintro r yE ⟨rfl, hb⟩
      go_simp
      have oE := below_only hS.1 hb
      replace hZ := row_below hZ hb
      refine hK.out _ _ (old_of oE) (fun hS => ?_)
      clear hK K
      try simp only [Act.put]
      try simp only [List.setIfInBounds_toArray]
      try simp only [List.set_cons_succ]
      try simp only [List.set_cons_zero]
      refine wpAnyH_take_at (i := 7) (v := ?v7x11) (some 25) rfl rfl (by kernel_rfl) (by kernel_rfl) (by kernel_rfl) (fun _ _ _ h => h) (Or.inl ⟨by kernel_rfl, ?h7x11⟩) (by assumption) ?r7x11
      case h7x11 => (intro w hSw; (try dsimp only at hSw); go_simp; first | done | (with_reducible rfl))
      try simp only [Act.put]
      try simp only [List.setIfInBounds_toArray]
      try simp only [List.set_cons_succ]
      try simp only [List.set_cons_zero]
      refine wpAnyH_take_at (i := 8) (v := ?v8x12) (some 33) rfl rfl (by kernel_rfl) (by kernel_rfl) (by kernel_rfl) (fun _ _ _ h => h) (Or.inl ⟨by kernel_rfl, ?h8x12⟩) (by assumption) ?r8x12
      case h8x12 => (intro w hSw; (try dsimp only at hSw); go_simp; first | done | (with_reducible rfl))
      try simp only [Act.put]
      try simp only [List.setIfInBounds_toArray]
      try simp only [List.set_cons_succ]
      try simp only [List.set_cons_zero]
      refine wpAnyH_take_at (i := 9) (v := ?v9x13) (some 34) rfl rfl (by kernel_rfl) (by kernel_rfl) (by kernel_rfl) (fun _ _ _ h => h) (Or.inl ⟨by kernel_rfl, ?h9x13⟩) (by assumption) ?r9x13
      case h9x13 => (intro w hSw; (try dsimp only at hSw); go_simp; first | done | (with_reducible rfl))
      try simp only [Act.put]
      try simp only [List.setIfInBounds_toArray]
      try simp only [List.set_cons_succ]
      try simp only [List.set_cons_zero]
      refine wpAnyH_ready (rs := [11]) (by kernel_rfl) (by simp) ?_
      refine AllReadyH.cons rfl (fun K hK => ?_) AllReadyH.nil
      refine step_store_row none rfl rfl 23 (.tmp 6) (.tmp 33) rfl gZ #[.int .i64 d1, .int .i64 d2, .int .i64 d3, .int .i64 d4] rfl rfl 23 #[.int .i64 0, .int .i64 0, .int .i64 0, .int .i64 0] hZ infoCtl4 rfl (one4 _ _ _ _) ?_
      refine hK.out _ _ (old_of (below_setRow hS.1 hgZ _)) (fun hS => ?_)
      clear hK K
      try simp only [Act.put]
      try simp only [List.setIfInBounds_toArray]
      try simp only [List.set_cons_succ]
      try simp only [List.set_cons_zero]
      refine wpAnyH_take_at (i := 12) (v := ?v12x14) (some 7) rfl rfl (by kernel_rfl) (by kernel_rfl) (by kernel_rfl) (fun _ _ _ h => h) (Or.inl ⟨by kernel_rfl, ?h12x14⟩) (by assumption) ?r12x14
      case h12x14 => (intro w hSw; (try dsimp only at hSw); go_simp; first | done | (with_reducible rfl))
      try simp only [Act.put]
      try simp only [List.setIfInBounds_toArray]
      try simp only [List.set_cons_succ]
      try simp only [List.set_cons_zero]
      refine wpAnyH_done (by kernel_rfl) ?_ _
      go_wp2_with fail
      go_meet
      exact ⟨gZ, rfl, rfl, hgZ, setRow_heap _ _ _ _ _ _ hZ, by first | exact hS.1 | assumption⟩
  case rest =>
    obtain ⟨gZ, rfl, rfl, hgZ, hR, hb⟩ := hcut
    obtain ⟨w5, hwx⟩ : ∃ x, x = wc := ⟨_, rfl⟩
    subst hwx
    have HB5 := Lib.hid (below_only HB3.out hb)
    have HC5 : Hid (Com w5 g p m r) := Lib.hid (row_below HC3.out hb)
    have HR := Lib.hid hR
    have Hgg : Hid (g ≠ gZ) := Lib.hid (by omega)
    clear hb hR p0 p1 p9 p10 p14 p15 p23 f9 f14 f15 zg hgZ z4 x0 x1 x2 x3 HC3 HB3
    obtain ⟨p0, p1, p9, p10, p14, p15, p23, f9, f14, f15, zg⟩ := com_box HC5.out
    by_cases h10 : e = 10
    · have Hf : Hid (cc = r) := Lib.hid (by rw [HL.out, if_pos h10])
      have t1 : (e == 10) = true := by simp [h10]
      clear h10 HL
      go_wp2_with fail
      go_end0
      rw [Hf.out]
      exact ⟨rfl, HC5.out, keep_below HB5.out [g]⟩
    · have t1 : (e == 10) = false := by simpa using h10
      by_cases h0 : e = 0
      · have t2 : (e == 0) = true := by simp [h0]
        have hd : Right ⟨d1, d2, d3, d4⟩ := enter_right (by rw [HE.out, h0])
        have HP := Lib.hid (pack_right hd)
        obtain ⟨v2, Hv2⟩ : ∃ x, Hid (word ⟨d1, d2, d3, d4⟩ = x) := ⟨_, Lib.hid rfl⟩
        rw [Hv2.out] at HP HL
        have Hf := Lib.hid (show cc = { r with pc := 14, word := v, next := v2 } by rw [HL.out, if_neg h10, if_pos h0])
        clear h10 h0 HL hd
        go_upto_region 8 with fail
        refine set_two w5 g 14 9 _ _ _ _ HC5.out ?_
        intro w6 hC6 hK6
        rw [com_set p m _ 12, com_set p m _ 7] at hC6
        have HC6 : Hid (Com w6 g p m { r with pc := 14, word := v }) := Lib.hid hC6
        have HR6 := Lib.hid (hK6.row HR.out (by simpa using fun e => Hgg.out e.symm))
        have HK6 := Lib.hid ((keep_below HB5.out [g]).trans hK6)
        clear hC6 hK6 p0 p1 p9 p10 p14 p15 p23 f9 f14 f15 zg
        obtain ⟨x0, x1, x2, x3, _⟩ := box4 HR6.out
        go_wp2_with fail
        refine (pack_as HP _).mono ?_
        rintro e' w7 ⟨rfl, hb⟩
        have HC7 : Hid (Com w7 g p m { r with pc := 14, word := v }) := Lib.hid (row_below HC6.out hb)
        have HK7 := Lib.hid (HK6.out.call hb)
        clear hb x0 x1 x2 x3
        obtain ⟨p0, p1, p9, p10, p14, p15, p23, f9, f14, f15, zg⟩ := com_box HC7.out
        go_wp2_with fail
        go_end0
        have hC8 := row_set (i := 15) HC7.out (.int .u64 v2)
        rw [com_set p m _ 13] at hC8
        rw [Hf.out]
        exact ⟨rfl, hC8, HK7.out.setCell (p := ⟨g, 15, none⟩) (.inl (by simp)) _⟩
      · have t2 : (e == 0) = false := by simpa using h0
        have Hf := Lib.hid (show cc = toldR r e 0 noS by rw [HL.out, if_neg h10, if_neg h0])
        clear h10 h0 HL
        go_wp2_with (refine wpList_load_sub rfl 40 (.tmp 39) rfl g 2 rfl 93 (comArr p m r.arr) r.arr (0, 0) _ HC5.out (fun j v h => by rw [com_get]; exact h) undRun rfl infoRun ?_)
        refine (tell_any r e 0 _ HSd.out).mono ?_
        rintro e' w6 ⟨rfl, hb⟩
        have HC6 : Hid (Com w6 g p m r) := Lib.hid (row_below HC5.out hb)
        have HB6 := Lib.hid (below_only HB5.out hb)
        clear hb p0 p1 p9 p10 p14 p15 p23 f9 f14 f15 zg
        go_wp2_with (refine wpList_store_sub rfl 40 (.tmp 44) (.tmp 42) rfl g 2 (toldR r e 0 noS).arr rfl rfl 93 _ HC6.out infoRun (by rw [com_size]; exact Nat.le_refl _) (Rn.one _) ?_)
        go_end0
        have hC8 : (w6.setRow g (subSet (comArr p m r.arr) 2 (toldR r e 0 noS).arr)).heap[g]? = some (.cells (comArr p m (toldR r e 0 noS).arr) 93 (0, 0)) := (setRow_heap w6 g _ (subSet (comArr p m r.arr) 2 (toldR r e 0 noS).arr) _ (0, 0) HC6.out).trans (by rw [com_sub p m r.arr (toldR r e 0 noS).arr rfl])
        rw [Hf.out]
        refine ⟨rfl, hC8, (keep_below HB6.out [g]).setRow (.inl (by simp)) _⟩

set_option maxRecDepth 100000 in
set_option maxHeartbeats 2000000 in
theorem enterM_any (g p b k : Nat) (ws : List Int) (x : Int) (r : Rn) (w : World) (hC : Com w g p ((k * 8 : Nat) : Int) r) (hA : Arn w p b ws) (hk : ws[k]? = some x) (hs : r.said = noS) (hn : g ≠ p ∧ g ≠ b) (hy : 0 ≤ r.next ∧ r.next < 18446744073709551616) :
    Calls Try.prog 36 #[.pointer (some ⟨g, 0, none⟩)] w fun e w' => e = .returned (.tuple #[]) ∧ Com w' g p ((k * 8 : Nat) : Int) (enterR x r) ∧ Arn w' p b (if x = r.word then ws.set k r.next else ws) ∧ Keep [g, b] w w' := by
  have HC := Lib.hid hC
  have HA := Lib.hid hA
  have HSd := Lib.hid hs
  have Hn := Lib.hid hn
  obtain ⟨cs, Hcs⟩ : ∃ cs, Hid (enterR x r = cs) := ⟨_, Lib.hid rfl⟩
  by_cases hx : x = r.word
  · have Hf := Lib.hid (show enterR x r = toldR r 0 0 noS by unfold enterR; rw [if_pos hx])
    rw [if_pos hx, Hf.out]
    have HW := fun w' (h : Arn w' p b ws) => Lib.hid (arnCas_yes p b ws k x r.next w' h hk hy)
    obtain ⟨m, Hm⟩ : ∃ m, m = ((k * 8 : Nat) : Int) := ⟨_, rfl⟩
    rw [hx] at HW
    rw [← Hm] at HC HW ⊢
    clear hC hA hk hs hn hy Hcs Hm hx
    obtain ⟨p0, p1, p9, p10, p14, p15, p23, f9, f14, f15, zg⟩ := com_box HC.out
    go_enter Try.func36, Try.ntmps36
    go_wp2_with fail
    refine wp_region_held_drew (S := fun W => W.cell? ⟨g, 0, none⟩ = some (.pointer (some ⟨p, 0, none⟩)) ∧ W.cell? ⟨g, 1, none⟩ = some (.int .i64 m) ∧ W.cell? ⟨g, 14, none⟩ = some (.int .u64 r.word) ∧ W.cell? ⟨g, 15, none⟩ = some (.int .u64 r.next)) (by kernel_rfl) (by first | exact ⟨p0, p1, p14, p15⟩ | (dsimp only; exact ⟨p0, p1, p14, p15⟩)) ?_
    intro hS
    have hC0 : Com w.drew g p m r := HC.out
    have hA0 := HA.out.drew
    have hKK : Keep [b] w w.drew := (Keep.refl _ _).drew
    generalize w.drew = y0 at hS hC0 hA0 hKK ⊢
    refine wpAnyH_take_at (i := 0) (v := ?v0x15) (some 5) rfl rfl (by kernel_rfl) (by kernel_rfl) (by kernel_rfl) (fun _ _ _ h => h) (Or.inl ⟨by kernel_rfl, ?h0x15⟩) (by assumption) ?r0x15
    case h0x15 => (intro w hSw; obtain ⟨s0, s1, s14, s15⟩ := hSw; go_simp; first | done | (with_reducible rfl))
    try simp only [Act.put]
    try simp only [List.setIfInBounds_toArray]
    try simp only [List.set_cons_succ]
    try simp only [List.set_cons_zero]
    refine wpAnyH_take_at (i := 1) (v := ?v1x16) (some 6) rfl rfl (by kernel_rfl) (by kernel_rfl) (by kernel_rfl) (fun _ _ _ h => h) (Or.inl ⟨by kernel_rfl, ?h1x16⟩) (by assumption) ?r1x16
    case h1x16 => (intro w hSw; obtain ⟨s0, s1, s14, s15⟩ := hSw; go_simp; first | done | (with_reducible rfl))
    try simp only [Act.put]
    try simp only [List.setIfInBounds_toArray]
    try simp only [List.set_cons_succ]
    try simp only [List.set_cons_zero]
    refine wpAnyH_take_at (i := 2) (v := ?v2x17) (some 7) rfl rfl (by kernel_rfl) (by kernel_rfl) (by kernel_rfl) (fun _ _ _ h => h) (Or.inl ⟨by kernel_rfl, ?h2x17⟩) (by assumption) ?r2x17
    case h2x17 => (intro w hSw; obtain ⟨s0, s1, s14, s15⟩ := hSw; go_simp; first | done | (with_reducible rfl))
    try simp only [Act.put]
    try simp only [List.setIfInBounds_toArray]
    try simp only [List.set_cons_succ]
    try simp only [List.set_cons_zero]
    refine wpAnyH_take_at (i := 3) (v := ?v3x18) (some 8) rfl rfl (by kernel_rfl) (by kernel_rfl) (by kernel_rfl) (fun _ _ _ h => h) (Or.inl ⟨by kernel_rfl, ?h3x18⟩) (by assumption) ?r3x18
    case h3x18 => (intro w hSw; obtain ⟨s0, s1, s14, s15⟩ := hSw; go_simp; first | done | (with_reducible rfl))
    try simp only [Act.put]
    try simp only [List.setIfInBounds_toArray]
    try simp only [List.set_cons_succ]
    try simp only [List.set_cons_zero]
    refine wpAnyH_take_at (i := 4) (v := ?v4x19) (some 9) rfl rfl (by kernel_rfl) (by kernel_rfl) (by kernel_rfl) (fun _ _ _ h => h) (Or.inl ⟨by kernel_rfl, ?h4x19⟩) (by assumption) ?r4x19
    case h4x19 => (intro w hSw; obtain ⟨s0, s1, s14, s15⟩ := hSw; go_simp; first | done | (with_reducible rfl))
    try simp only [Act.put]
    try simp only [List.setIfInBounds_toArray]
    try simp only [List.set_cons_succ]
    try simp only [List.set_cons_zero]
    refine wpAnyH_take_at (i := 5) (v := ?v5x20) (some 10) rfl rfl (by kernel_rfl) (by kernel_rfl) (by kernel_rfl) (fun _ _ _ h => h) (Or.inl ⟨by kernel_rfl, ?h5x20⟩) (by assumption) ?r5x20
    case h5x20 => (intro w hSw; obtain ⟨s0, s1, s14, s15⟩ := hSw; go_simp; first | done | (with_reducible rfl))
    try simp only [Act.put]
    try simp only [List.setIfInBounds_toArray]
    try simp only [List.set_cons_succ]
    try simp only [List.set_cons_zero]
    refine wpAnyH_take_at (i := 6) (v := ?v6x21) (some 11) rfl rfl (by kernel_rfl) (by kernel_rfl) (by kernel_rfl) (fun _ _ _ h => h) (Or.inl ⟨by kernel_rfl, ?h6x21⟩) (by assumption) ?r6x21
    case h6x21 => (intro w hSw; obtain ⟨s0, s1, s14, s15⟩ := hSw; go_simp; first | done | (with_reducible rfl))
    try simp only [Act.put]
    try simp only [List.setIfInBounds_toArray]
    try simp only [List.set_cons_succ]
    try simp only [List.set_cons_zero]
    refine wpAnyH_take_at (i := 7) (v := ?v7x22) (some 12) rfl rfl (by kernel_rfl) (by kernel_rfl) (by kernel_rfl) (fun _ _ _ h => h) (Or.inl ⟨by kernel_rfl, ?h7x22⟩) (by assumption) ?r7x22
    case h7x22 => (intro w hSw; obtain ⟨s0, s1, s14, s15⟩ := hSw; go_simp; first | done | (with_reducible rfl))
    try simp only [Act.put]
    try simp only [List.setIfInBounds_toArray]
    try simp only [List.set_cons_succ]
    try simp only [List.set_cons_zero]
    refine wpAnyH_take_at (i := 8) (v := ?v8x23) (some 13) rfl rfl (by kernel_rfl) (by kernel_rfl) (by kernel_rfl) (fun _ _ _ h => h) (Or.inl ⟨by kernel_rfl, ?h8x23⟩) (by assumption) ?r8x23
    case h8x23 => (intro w hSw; obtain ⟨s0, s1, s14, s15⟩ := hSw; go_simp; first | done | (with_reducible rfl))
    try simp only [Act.put]
    try simp only [List.setIfInBounds_toArray]
    try simp only [List.set_cons_succ]
    try simp only [List.set_cons_zero]
    refine wpAnyH_take_at (i := 9) (v := ?v9x24) (some 14) rfl rfl (by kernel_rfl) (by kernel_rfl) (by kernel_rfl) (fun _ _ _ h => h) (Or.inl ⟨by kernel_rfl, ?h9x24⟩) (by assumption) ?r9x24
    case h9x24 => (intro w hSw; obtain ⟨s0, s1, s14, s15⟩ := hSw; go_simp; first | done | (with_reducible rfl))
    try simp only [Act.put]
    try simp only [List.setIfInBounds_toArray]
    try simp only [List.set_cons_succ]
    try simp only [List.set_cons_zero]
    refine wpAnyH_take_at (i := 10) (v := ?v10x25) (some 15) rfl rfl (by kernel_rfl) (by kernel_rfl) (by kernel_rfl) (fun _ _ _ h => h) (Or.inl ⟨by kernel_rfl, ?h10x25⟩) (by assumption) ?r10x25
    case h10x25 => (intro w hSw; obtain ⟨s0, s1, s14, s15⟩ := hSw; go_simp; first | done | (with_reducible rfl))
    try simp only [Act.put]
    try simp only [List.setIfInBounds_toArray]
    try simp only [List.set_cons_succ]
    try simp only [List.set_cons_zero]
    refine wpAnyH_take_at (i := 11) (v := ?v11x26) (some 16) rfl rfl (by kernel_rfl) (by kernel_rfl) (by kernel_rfl) (fun _ _ _ h => h) (Or.inl ⟨by kernel_rfl, ?h11x26⟩) (by assumption) ?r11x26
    case h11x26 => (intro w hSw; obtain ⟨s0, s1, s14, s15⟩ := hSw; go_simp; first | done | (with_reducible rfl))
    try simp only [Act.put]
    try simp only [List.setIfInBounds_toArray]
    try simp only [List.set_cons_succ]
    try simp only [List.set_cons_zero]
    refine wpAnyH_take_at (i := 12) (v := ?v12x27) (some 17) rfl rfl (by kernel_rfl) (by kernel_rfl) (by kernel_rfl) (fun _ _ _ h => h) (Or.inl ⟨by kernel_rfl, ?h12x27⟩) (by assumption) ?r12x27
    case h12x27 => (intro w hSw; obtain ⟨s0, s1, s14, s15⟩ := hSw; go_simp; first | done | (with_reducible rfl))
    try simp only [Act.put]
    try simp only [List.setIfInBounds_toArray]
    try simp only [List.set_cons_succ]
    try simp only [List.set_cons_zero]
    refine wpAnyH_take_at (i := 13) (v := ?v13x28) (some 18) rfl rfl (by kernel_rfl) (by kernel_rfl) (by kernel_rfl) (fun _ _ _ h => h) (Or.inl ⟨by kernel_rfl, ?h13x28⟩) (by assumption) ?r13x28
    case h13x28 => (intro w hSw; obtain ⟨s0, s1, s14, s15⟩ := hSw; go_simp; first | done | (with_reducible rfl))
    try simp only [Act.put]
    try simp only [List.setIfInBounds_toArray]
    try simp only [List.set_cons_succ]
    try simp only [List.set_cons_zero]
    refine wpAnyH_take_at (i := 14) (v := ?v14x29) (some 19) rfl rfl (by kernel_rfl) (by kernel_rfl) (by kernel_rfl) (fun _ _ _ h => h) (Or.inl ⟨by kernel_rfl, ?h14x29⟩) (by assumption) ?r14x29
    case h14x29 => (intro w hSw; obtain ⟨s0, s1, s14, s15⟩ := hSw; go_simp; first | done | (with_reducible rfl))
    try simp only [Act.put]
    try simp only [List.setIfInBounds_toArray]
    try simp only [List.set_cons_succ]
    try simp only [List.set_cons_zero]
    refine wpAnyH_take_at (i := 15) (v := ?v15x30) (some 20) rfl rfl (by kernel_rfl) (by kernel_rfl) (by kernel_rfl) (fun _ _ _ h => h) (Or.inl ⟨by kernel_rfl, ?h15x30⟩) (by assumption) ?r15x30
    case h15x30 => (intro w hSw; obtain ⟨s0, s1, s14, s15⟩ := hSw; go_simp; first | done | (with_reducible rfl))
    try simp only [Act.put]
    try simp only [List.setIfInBounds_toArray]
    try simp only [List.set_cons_succ]
    try simp only [List.set_cons_zero]
    refine wpAnyH_take_at (i := 16) (v := ?v16x31) (some 21) rfl rfl (by kernel_rfl) (by kernel_rfl) (by kernel_rfl) (fun _ _ _ h => h) (Or.inl ⟨by kernel_rfl, ?h16x31⟩) (by assumption) ?r16x31
    case h16x31 => (intro w hSw; obtain ⟨s0, s1, s14, s15⟩ := hSw; go_simp; first | done | (with_reducible rfl))
    try simp only [Act.put]
    try simp only [List.setIfInBounds_toArray]
    try simp only [List.set_cons_succ]
    try simp only [List.set_cons_zero]
    refine wpAnyH_take_at (i := 17) (v := ?v17x32) (some 22) rfl rfl (by kernel_rfl) (by kernel_rfl) (by kernel_rfl) (fun _ _ _ h => h) (Or.inl ⟨by kernel_rfl, ?h17x32⟩) (by assumption) ?r17x32
    case h17x32 => (intro w hSw; obtain ⟨s0, s1, s14, s15⟩ := hSw; go_simp; first | done | (with_reducible rfl))
    try simp only [Act.put]
    try simp only [List.setIfInBounds_toArray]
    try simp only [List.set_cons_succ]
    try simp only [List.set_cons_zero]
    refine wpAnyH_ready (rs := [18]) (by kernel_rfl) (by simp) ?_
    refine AllReadyH.cons rfl (fun K hK => ?_) AllReadyH.nil
    go_simp
    refine (HW _ hA0).out.mono ?_
    rintro e' yC ⟨rfl, hA1, hK1⟩
    have hC1 : Com yC g p m r := hK1.row hC0 (by simpa using Hn.out.2)
    go_simp
    have HA1 := Lib.hid hA1
    have HK1 := Lib.hid (hKK.trans hK1)
    have HC1 := Lib.hid hC1
    clear hA1 hK1 hC1
    obtain ⟨q0, q1, q9, q10, q14, q15, q23, _⟩ := com_box HC1.out
    refine hK.out _ _ (⟨q0, q1, q14, q15⟩) (fun hS => ?_)
    clear hK K
    try simp only [Act.put]
    try simp only [List.setIfInBounds_toArray]
    try simp only [List.set_cons_succ]
    try simp only [List.set_cons_zero]
    clear q0 q1 q9 q10 q14 q15 q23
    refine wpAnyH_take_at (i := 19) (v := ?v19x33) (some 4) rfl rfl (by kernel_rfl) (by kernel_rfl) (by kernel_rfl) (fun _ _ _ h => h) (Or.inl ⟨by kernel_rfl, ?h19x33⟩) (by assumption) ?r19x33
    case h19x33 => (intro w hSw; obtain ⟨s0, s1, s14, s15⟩ := hSw; go_simp; first | done | (with_reducible rfl))
    try simp only [Act.put]
    try simp only [List.setIfInBounds_toArray]
    try simp only [List.set_cons_succ]
    try simp only [List.set_cons_zero]
    refine wpAnyH_take_at (i := 20) (v := ?v20x34) (some 24) rfl rfl (by kernel_rfl) (by kernel_rfl) (by kernel_rfl) (fun _ _ _ h => h) (Or.inl ⟨by kernel_rfl, ?h20x34⟩) (by assumption) ?r20x34
    case h20x34 => (intro w hSw; obtain ⟨s0, s1, s14, s15⟩ := hSw; go_simp; first | done | (with_reducible rfl))
    try simp only [Act.put]
    try simp only [List.setIfInBounds_toArray]
    try simp only [List.set_cons_succ]
    try simp only [List.set_cons_zero]
    refine wpAnyH_take_at (i := 21) (v := ?v21x35) (some 25) rfl rfl (by kernel_rfl) (by kernel_rfl) (by kernel_rfl) (fun _ _ _ h => h) (Or.inl ⟨by kernel_rfl, ?h21x35⟩) (by assumption) ?r21x35
    case h21x35 => (intro w hSw; obtain ⟨s0, s1, s14, s15⟩ := hSw; go_simp; first | done | (with_reducible rfl))
    try simp only [Act.put]
    try simp only [List.setIfInBounds_toArray]
    try simp only [List.set_cons_succ]
    try simp only [List.set_cons_zero]
    refine wpAnyH_take_at (i := 22) (v := ?v22x36) (some 2) rfl rfl (by kernel_rfl) (by kernel_rfl) (by kernel_rfl) (fun _ _ _ h => h) (Or.inl ⟨by kernel_rfl, ?h22x36⟩) (by assumption) ?r22x36
    case h22x36 => (intro w hSw; obtain ⟨s0, s1, s14, s15⟩ := hSw; go_simp; first | done | (with_reducible rfl))
    try simp only [Act.put]
    try simp only [List.setIfInBounds_toArray]
    try simp only [List.set_cons_succ]
    try simp only [List.set_cons_zero]
    refine wpAnyH_take_at (i := 23) (v := ?v23x37) (some 3) rfl rfl (by kernel_rfl) (by kernel_rfl) (by kernel_rfl) (fun _ _ _ h => h) (Or.inl ⟨by kernel_rfl, ?h23x37⟩) (by assumption) ?r23x37
    case h23x37 => (intro w hSw; obtain ⟨s0, s1, s14, s15⟩ := hSw; go_simp; first | done | (with_reducible rfl))
    try simp only [Act.put]
    try simp only [List.setIfInBounds_toArray]
    try simp only [List.set_cons_succ]
    try simp only [List.set_cons_zero]
    refine wpAnyH_done (by kernel_rfl) ?_ _
    obtain ⟨w5, hwx⟩ : ∃ x, x = yC := ⟨_, rfl⟩
    subst hwx
    have HC5 : Hid (Com w5 g p m r) := HC1
    have HA5 := HA1
    have HK5 := HK1
    clear HC1 HA1 HK1 p0 p1 p9 p10 p14 p15 p23 f9 f14 f15 zg HC HA HW hC0 hA0 hKK hS
    obtain ⟨p0, p1, p9, p10, p14, p15, p23, f9, f14, f15, zg⟩ := com_box HC5.out
    go_wp2_with (refine wpList_load_sub rfl 40 (.tmp 30) rfl g 2 rfl 93 (comArr p m r.arr) r.arr (0, 0) _ HC5.out (fun j v h => by rw [com_get]; exact h) undRun rfl infoRun ?_)
    refine (tell_any r 0 0 _ HSd.out).mono ?_
    rintro e' w6 ⟨rfl, hb⟩
    have HC6 : Hid (Com w6 g p m r) := Lib.hid (row_below HC5.out hb)
    have HA6 := Lib.hid (HA5.out.below hb)
    have HK6 := Lib.hid (HK5.out.call hb)
    clear hb p0 p1 p9 p10 p14 p15 p23 f9 f14 f15 zg
    go_wp2_with (refine wpList_store_sub rfl 40 (.tmp 34) (.tmp 32) rfl g 2 (toldR r 0 0 noS).arr rfl rfl 93 _ HC6.out infoRun (by rw [com_size]; exact Nat.le_refl _) (Rn.one _) ?_)
    refine bodyPost_ret (results_none rfl _ _ _) rfl ?_
    have hC8 : (w6.setRow g (subSet (comArr p m r.arr) 2 (toldR r 0 0 noS).arr)).heap[g]? = some (.cells (comArr p m (toldR r 0 0 noS).arr) 93 (0, 0)) := (setRow_heap w6 g _ (subSet (comArr p m r.arr) 2 (toldR r 0 0 noS).arr) _ (0, 0) HC6.out).trans (by rw [com_sub p m r.arr (toldR r 0 0 noS).arr rfl])
    have hKs := (Keep.refl [g] w6).setRow (g := g) (.inl (by simp)) (subSet (comArr p m r.arr) 2 (toldR r 0 0 noS).arr)
    exact ⟨rfl, hC8, HA6.out.kept hKs (by simpa using fun e => Hn.out.1 e.symm) (by simpa using fun e => Hn.out.2 e.symm), (HK6.out.mono (T := [g, b]) (fun i _ h => by simp at h ⊢; exact .inr h)).then hKs (fun i _ h => by simp at h ⊢; exact .inl h)⟩
  · have Hf := Lib.hid (show enterR x r = { r with word := 0, next := 0, pc := 13 } by unfold enterR; rw [if_neg hx])
    rw [if_neg hx, Hf.out]
    have HW := fun w' (h : Arn w' p b ws) => Lib.hid (arnCas_no p b ws k x r.word r.next w' h hk hx)
    obtain ⟨m, Hm⟩ : ∃ m, m = ((k * 8 : Nat) : Int) := ⟨_, rfl⟩
    rw [← Hm] at HC HW ⊢
    clear hC hA hk hs hn hy Hcs Hm hx
    obtain ⟨p0, p1, p9, p10, p14, p15, p23, f9, f14, f15, zg⟩ := com_box HC.out
    go_enter Try.func36, Try.ntmps36
    go_wp2_with fail
    refine wp_region_held_drew (S := fun W => W.cell? ⟨g, 0, none⟩ = some (.pointer (some ⟨p, 0, none⟩)) ∧ W.cell? ⟨g, 1, none⟩ = some (.int .i64 m) ∧ W.cell? ⟨g, 14, none⟩ = some (.int .u64 r.word) ∧ W.cell? ⟨g, 15, none⟩ = some (.int .u64 r.next)) (by kernel_rfl) (by first | exact ⟨p0, p1, p14, p15⟩ | (dsimp only; exact ⟨p0, p1, p14, p15⟩)) ?_
    intro hS
    have hC0 : Com w.drew g p m r := HC.out
    have hA0 := HA.out.drew
    have hKK : Keep [b] w w.drew := (Keep.refl _ _).drew
    generalize w.drew = y0 at hS hC0 hA0 hKK ⊢
    refine wpAnyH_take_at (i := 0) (v := ?v0x38) (some 5) rfl rfl (by kernel_rfl) (by kernel_rfl) (by kernel_rfl) (fun _ _ _ h => h) (Or.inl ⟨by kernel_rfl, ?h0x38⟩) (by assumption) ?r0x38
    case h0x38 => (intro w hSw; obtain ⟨s0, s1, s14, s15⟩ := hSw; go_simp; first | done | (with_reducible rfl))
    try simp only [Act.put]
    try simp only [List.setIfInBounds_toArray]
    try simp only [List.set_cons_succ]
    try simp only [List.set_cons_zero]
    refine wpAnyH_take_at (i := 1) (v := ?v1x39) (some 6) rfl rfl (by kernel_rfl) (by kernel_rfl) (by kernel_rfl) (fun _ _ _ h => h) (Or.inl ⟨by kernel_rfl, ?h1x39⟩) (by assumption) ?r1x39
    case h1x39 => (intro w hSw; obtain ⟨s0, s1, s14, s15⟩ := hSw; go_simp; first | done | (with_reducible rfl))
    try simp only [Act.put]
    try simp only [List.setIfInBounds_toArray]
    try simp only [List.set_cons_succ]
    try simp only [List.set_cons_zero]
    refine wpAnyH_take_at (i := 2) (v := ?v2x40) (some 7) rfl rfl (by kernel_rfl) (by kernel_rfl) (by kernel_rfl) (fun _ _ _ h => h) (Or.inl ⟨by kernel_rfl, ?h2x40⟩) (by assumption) ?r2x40
    case h2x40 => (intro w hSw; obtain ⟨s0, s1, s14, s15⟩ := hSw; go_simp; first | done | (with_reducible rfl))
    try simp only [Act.put]
    try simp only [List.setIfInBounds_toArray]
    try simp only [List.set_cons_succ]
    try simp only [List.set_cons_zero]
    refine wpAnyH_take_at (i := 3) (v := ?v3x41) (some 8) rfl rfl (by kernel_rfl) (by kernel_rfl) (by kernel_rfl) (fun _ _ _ h => h) (Or.inl ⟨by kernel_rfl, ?h3x41⟩) (by assumption) ?r3x41
    case h3x41 => (intro w hSw; obtain ⟨s0, s1, s14, s15⟩ := hSw; go_simp; first | done | (with_reducible rfl))
    try simp only [Act.put]
    try simp only [List.setIfInBounds_toArray]
    try simp only [List.set_cons_succ]
    try simp only [List.set_cons_zero]
    refine wpAnyH_take_at (i := 4) (v := ?v4x42) (some 9) rfl rfl (by kernel_rfl) (by kernel_rfl) (by kernel_rfl) (fun _ _ _ h => h) (Or.inl ⟨by kernel_rfl, ?h4x42⟩) (by assumption) ?r4x42
    case h4x42 => (intro w hSw; obtain ⟨s0, s1, s14, s15⟩ := hSw; go_simp; first | done | (with_reducible rfl))
    try simp only [Act.put]
    try simp only [List.setIfInBounds_toArray]
    try simp only [List.set_cons_succ]
    try simp only [List.set_cons_zero]
    refine wpAnyH_take_at (i := 5) (v := ?v5x43) (some 10) rfl rfl (by kernel_rfl) (by kernel_rfl) (by kernel_rfl) (fun _ _ _ h => h) (Or.inl ⟨by kernel_rfl, ?h5x43⟩) (by assumption) ?r5x43
    case h5x43 => (intro w hSw; obtain ⟨s0, s1, s14, s15⟩ := hSw; go_simp; first | done | (with_reducible rfl))
    try simp only [Act.put]
    try simp only [List.setIfInBounds_toArray]
    try simp only [List.set_cons_succ]
    try simp only [List.set_cons_zero]
    refine wpAnyH_take_at (i := 6) (v := ?v6x44) (some 11) rfl rfl (by kernel_rfl) (by kernel_rfl) (by kernel_rfl) (fun _ _ _ h => h) (Or.inl ⟨by kernel_rfl, ?h6x44⟩) (by assumption) ?r6x44
    case h6x44 => (intro w hSw; obtain ⟨s0, s1, s14, s15⟩ := hSw; go_simp; first | done | (with_reducible rfl))
    try simp only [Act.put]
    try simp only [List.setIfInBounds_toArray]
    try simp only [List.set_cons_succ]
    try simp only [List.set_cons_zero]
    refine wpAnyH_take_at (i := 7) (v := ?v7x45) (some 12) rfl rfl (by kernel_rfl) (by kernel_rfl) (by kernel_rfl) (fun _ _ _ h => h) (Or.inl ⟨by kernel_rfl, ?h7x45⟩) (by assumption) ?r7x45
    case h7x45 => (intro w hSw; obtain ⟨s0, s1, s14, s15⟩ := hSw; go_simp; first | done | (with_reducible rfl))
    try simp only [Act.put]
    try simp only [List.setIfInBounds_toArray]
    try simp only [List.set_cons_succ]
    try simp only [List.set_cons_zero]
    refine wpAnyH_take_at (i := 8) (v := ?v8x46) (some 13) rfl rfl (by kernel_rfl) (by kernel_rfl) (by kernel_rfl) (fun _ _ _ h => h) (Or.inl ⟨by kernel_rfl, ?h8x46⟩) (by assumption) ?r8x46
    case h8x46 => (intro w hSw; obtain ⟨s0, s1, s14, s15⟩ := hSw; go_simp; first | done | (with_reducible rfl))
    try simp only [Act.put]
    try simp only [List.setIfInBounds_toArray]
    try simp only [List.set_cons_succ]
    try simp only [List.set_cons_zero]
    refine wpAnyH_take_at (i := 9) (v := ?v9x47) (some 14) rfl rfl (by kernel_rfl) (by kernel_rfl) (by kernel_rfl) (fun _ _ _ h => h) (Or.inl ⟨by kernel_rfl, ?h9x47⟩) (by assumption) ?r9x47
    case h9x47 => (intro w hSw; obtain ⟨s0, s1, s14, s15⟩ := hSw; go_simp; first | done | (with_reducible rfl))
    try simp only [Act.put]
    try simp only [List.setIfInBounds_toArray]
    try simp only [List.set_cons_succ]
    try simp only [List.set_cons_zero]
    refine wpAnyH_take_at (i := 10) (v := ?v10x48) (some 15) rfl rfl (by kernel_rfl) (by kernel_rfl) (by kernel_rfl) (fun _ _ _ h => h) (Or.inl ⟨by kernel_rfl, ?h10x48⟩) (by assumption) ?r10x48
    case h10x48 => (intro w hSw; obtain ⟨s0, s1, s14, s15⟩ := hSw; go_simp; first | done | (with_reducible rfl))
    try simp only [Act.put]
    try simp only [List.setIfInBounds_toArray]
    try simp only [List.set_cons_succ]
    try simp only [List.set_cons_zero]
    refine wpAnyH_take_at (i := 11) (v := ?v11x49) (some 16) rfl rfl (by kernel_rfl) (by kernel_rfl) (by kernel_rfl) (fun _ _ _ h => h) (Or.inl ⟨by kernel_rfl, ?h11x49⟩) (by assumption) ?r11x49
    case h11x49 => (intro w hSw; obtain ⟨s0, s1, s14, s15⟩ := hSw; go_simp; first | done | (with_reducible rfl))
    try simp only [Act.put]
    try simp only [List.setIfInBounds_toArray]
    try simp only [List.set_cons_succ]
    try simp only [List.set_cons_zero]
    refine wpAnyH_take_at (i := 12) (v := ?v12x50) (some 17) rfl rfl (by kernel_rfl) (by kernel_rfl) (by kernel_rfl) (fun _ _ _ h => h) (Or.inl ⟨by kernel_rfl, ?h12x50⟩) (by assumption) ?r12x50
    case h12x50 => (intro w hSw; obtain ⟨s0, s1, s14, s15⟩ := hSw; go_simp; first | done | (with_reducible rfl))
    try simp only [Act.put]
    try simp only [List.setIfInBounds_toArray]
    try simp only [List.set_cons_succ]
    try simp only [List.set_cons_zero]
    refine wpAnyH_take_at (i := 13) (v := ?v13x51) (some 18) rfl rfl (by kernel_rfl) (by kernel_rfl) (by kernel_rfl) (fun _ _ _ h => h) (Or.inl ⟨by kernel_rfl, ?h13x51⟩) (by assumption) ?r13x51
    case h13x51 => (intro w hSw; obtain ⟨s0, s1, s14, s15⟩ := hSw; go_simp; first | done | (with_reducible rfl))
    try simp only [Act.put]
    try simp only [List.setIfInBounds_toArray]
    try simp only [List.set_cons_succ]
    try simp only [List.set_cons_zero]
    refine wpAnyH_take_at (i := 14) (v := ?v14x52) (some 19) rfl rfl (by kernel_rfl) (by kernel_rfl) (by kernel_rfl) (fun _ _ _ h => h) (Or.inl ⟨by kernel_rfl, ?h14x52⟩) (by assumption) ?r14x52
    case h14x52 => (intro w hSw; obtain ⟨s0, s1, s14, s15⟩ := hSw; go_simp; first | done | (with_reducible rfl))
    try simp only [Act.put]
    try simp only [List.setIfInBounds_toArray]
    try simp only [List.set_cons_succ]
    try simp only [List.set_cons_zero]
    refine wpAnyH_take_at (i := 15) (v := ?v15x53) (some 20) rfl rfl (by kernel_rfl) (by kernel_rfl) (by kernel_rfl) (fun _ _ _ h => h) (Or.inl ⟨by kernel_rfl, ?h15x53⟩) (by assumption) ?r15x53
    case h15x53 => (intro w hSw; obtain ⟨s0, s1, s14, s15⟩ := hSw; go_simp; first | done | (with_reducible rfl))
    try simp only [Act.put]
    try simp only [List.setIfInBounds_toArray]
    try simp only [List.set_cons_succ]
    try simp only [List.set_cons_zero]
    refine wpAnyH_take_at (i := 16) (v := ?v16x54) (some 21) rfl rfl (by kernel_rfl) (by kernel_rfl) (by kernel_rfl) (fun _ _ _ h => h) (Or.inl ⟨by kernel_rfl, ?h16x54⟩) (by assumption) ?r16x54
    case h16x54 => (intro w hSw; obtain ⟨s0, s1, s14, s15⟩ := hSw; go_simp; first | done | (with_reducible rfl))
    try simp only [Act.put]
    try simp only [List.setIfInBounds_toArray]
    try simp only [List.set_cons_succ]
    try simp only [List.set_cons_zero]
    refine wpAnyH_take_at (i := 17) (v := ?v17x55) (some 22) rfl rfl (by kernel_rfl) (by kernel_rfl) (by kernel_rfl) (fun _ _ _ h => h) (Or.inl ⟨by kernel_rfl, ?h17x55⟩) (by assumption) ?r17x55
    case h17x55 => (intro w hSw; obtain ⟨s0, s1, s14, s15⟩ := hSw; go_simp; first | done | (with_reducible rfl))
    try simp only [Act.put]
    try simp only [List.setIfInBounds_toArray]
    try simp only [List.set_cons_succ]
    try simp only [List.set_cons_zero]
    refine wpAnyH_ready (rs := [18]) (by kernel_rfl) (by simp) ?_
    refine AllReadyH.cons rfl (fun K hK => ?_) AllReadyH.nil
    go_simp
    refine (HW _ hA0).out.mono ?_
    rintro e' yC ⟨rfl, e1⟩
    rw [e1]
    clear e1 yC
    go_simp
    refine hK.out _ _ (hS) (fun hS => ?_)
    clear hK K
    try simp only [Act.put]
    try simp only [List.setIfInBounds_toArray]
    try simp only [List.set_cons_succ]
    try simp only [List.set_cons_zero]
    refine wpAnyH_take_at (i := 19) (v := ?v19x56) (some 4) rfl rfl (by kernel_rfl) (by kernel_rfl) (by kernel_rfl) (fun _ _ _ h => h) (Or.inl ⟨by kernel_rfl, ?h19x56⟩) (by assumption) ?r19x56
    case h19x56 => (intro w hSw; obtain ⟨s0, s1, s14, s15⟩ := hSw; go_simp; first | done | (with_reducible rfl))
    try simp only [Act.put]
    try simp only [List.setIfInBounds_toArray]
    try simp only [List.set_cons_succ]
    try simp only [List.set_cons_zero]
    refine wpAnyH_take_at (i := 20) (v := ?v20x57) (some 24) rfl rfl (by kernel_rfl) (by kernel_rfl) (by kernel_rfl) (fun _ _ _ h => h) (Or.inl ⟨by kernel_rfl, ?h20x57⟩) (by assumption) ?r20x57
    case h20x57 => (intro w hSw; obtain ⟨s0, s1, s14, s15⟩ := hSw; go_simp; first | done | (with_reducible rfl))
    try simp only [Act.put]
    try simp only [List.setIfInBounds_toArray]
    try simp only [List.set_cons_succ]
    try simp only [List.set_cons_zero]
    refine wpAnyH_take_at (i := 21) (v := ?v21x58) (some 25) rfl rfl (by kernel_rfl) (by kernel_rfl) (by kernel_rfl) (fun _ _ _ h => h) (Or.inl ⟨by kernel_rfl, ?h21x58⟩) (by assumption) ?r21x58
    case h21x58 => (intro w hSw; obtain ⟨s0, s1, s14, s15⟩ := hSw; go_simp; first | done | (with_reducible rfl))
    try simp only [Act.put]
    try simp only [List.setIfInBounds_toArray]
    try simp only [List.set_cons_succ]
    try simp only [List.set_cons_zero]
    refine wpAnyH_take_at (i := 22) (v := ?v22x59) (some 2) rfl rfl (by kernel_rfl) (by kernel_rfl) (by kernel_rfl) (fun _ _ _ h => h) (Or.inl ⟨by kernel_rfl, ?h22x59⟩) (by assumption) ?r22x59
    case h22x59 => (intro w hSw; obtain ⟨s0, s1, s14, s15⟩ := hSw; go_simp; first | done | (with_reducible rfl))
    try simp only [Act.put]
    try simp only [List.setIfInBounds_toArray]
    try simp only [List.set_cons_succ]
    try simp only [List.set_cons_zero]
    refine wpAnyH_take_at (i := 23) (v := ?v23x60) (some 3) rfl rfl (by kernel_rfl) (by kernel_rfl) (by kernel_rfl) (fun _ _ _ h => h) (Or.inl ⟨by kernel_rfl, ?h23x60⟩) (by assumption) ?r23x60
    case h23x60 => (intro w hSw; obtain ⟨s0, s1, s14, s15⟩ := hSw; go_simp; first | done | (with_reducible rfl))
    try simp only [Act.put]
    try simp only [List.setIfInBounds_toArray]
    try simp only [List.set_cons_succ]
    try simp only [List.set_cons_zero]
    refine wpAnyH_done (by kernel_rfl) ?_ _
    obtain ⟨w5, hwx⟩ : ∃ x, x = y0 := ⟨_, rfl⟩
    subst hwx
    have HC5 : Hid (Com w5 g p m r) := Lib.hid hC0
    have HA5 := Lib.hid hA0
    have HK5 := Lib.hid hKK
    clear p0 p1 p9 p10 p14 p15 p23 f9 f14 f15 zg HC HA HW hC0 hA0 hKK hS
    obtain ⟨p0, p1, p9, p10, p14, p15, p23, f9, f14, f15, zg⟩ := com_box HC5.out
    go_wp2_with fail
    go_end0
    have h1 := row_set (i := 9) (row_set (i := 15) (row_set (i := 14) HC5.out (.int .u64 0)) (.int .u64 0)) (.int .i64 13)
    have hC8 := h1.trans (by rw [com_set p m _ 12, com_set p m _ 13, com_set p m _ 7])
    have hKs := (((Keep.refl [g] w5).setCell (p := ⟨g, 14, none⟩) (.inl (by simp)) (.int .u64 0)).setCell (p := ⟨g, 15, none⟩) (.inl (by simp)) (.int .u64 0)).setCell (p := ⟨g, 9, none⟩) (.inl (by simp)) (.int .i64 13)
    exact ⟨rfl, hC8, HA5.out.kept hKs (by simpa using fun e => Hn.out.1 e.symm) (by simpa using fun e => Hn.out.2 e.symm), (HK5.out.mono (T := [g, b]) (fun i _ h => by simp at h ⊢; exact .inr h)).then hKs (fun i _ h => by simp at h ⊢; exact .inl h)⟩

end Go.Proofs.Ytconieenkeajiaa
