/- Layer 15: an allocation on its way in memory; the walks of taker's steps. (Printed by gen_takeb.py.) -/
import Derived.Test.YtoadddfiibeenaaSteps
namespace Go.Proofs.Ytoadddfiibeenaa
open Go.RowKit
set_option linter.unusedVariables false
set_option linter.unusedSimpArgs false

abbrev takPre (p : Nat) (s t i h : Int) : Array Value := #[.int .i64 s, .int .i64 t, .int .i64 i, .int .i64 h, .pointer (some ⟨p, 0, none⟩)]
abbrev Tak (w : World) (g p : Nat) (s t i h : Int) (r : Rn) : Prop := w.heap[g]? = some (.cells (preArr (takPre p s t i h) r.arr) 102 (0, 0))
section
variable {w : World} {g p : Nat} {s t i h : Int} {r : Rn}
theorem Tak.lo (H : Tak w g p s t i h r) (n : Nat) (v : Value) (hn : (takPre p s t i h)[n]? = some v) : w.cell? ⟨g, n, none⟩ = some v := by
  rw [row_cell H, pre_low _ _ _ (by rcases Nat.lt_or_ge n (takPre p s t i h).size with h1 | h1; exact h1; rw [Array.getElem?_eq_none h1] at hn; cases hn), hn]
theorem Tak.hi (H : Tak w g p s t i h r) (n j : Nat) (v : Value) (hn : n = 5 + j) (hj : r.arr[j]? = some v) : w.cell? ⟨g, n, none⟩ = some v := by
  rw [row_cell H, pre_get (takPre p s t i h) _ n j hn, hj]
theorem tak_box (H : Tak w g p s t i h r) :
    w.cell? ⟨g, 0, none⟩ = some (.int .i64 s) ∧ w.cell? ⟨g, 1, none⟩ = some (.int .i64 t) ∧ w.cell? ⟨g, 2, none⟩ = some (.int .i64 i) ∧ w.cell? ⟨g, 3, none⟩ = some (.int .i64 h) ∧ w.cell? ⟨g, 4, none⟩ = some (.pointer (some ⟨p, 0, none⟩)) ∧ w.cell? ⟨g, 5, none⟩ = some (.int .u8 r.c.op) ∧ w.cell? ⟨g, 6, none⟩ = some (.int .u8 r.c.r) ∧ w.cell? ⟨g, 7, none⟩ = some (.int .u8 r.c.h) ∧ w.cell? ⟨g, 8, none⟩ = some (.int .u8 r.c.v) ∧ w.cell? ⟨g, 9, none⟩ = some (.int .i64 r.c.a) ∧ w.cell? ⟨g, 10, none⟩ = some (.int .i64 r.c.b) ∧ w.cell? ⟨g, 11, none⟩ = some (.int .i64 r.c.c) ∧ w.cell? ⟨g, 12, none⟩ = some (.int .i64 r.pc) ∧ w.cell? ⟨g, 13, none⟩ = some (.int .i64 r.area) ∧ w.cell? ⟨g, 17, none⟩ = some (.int .u64 r.word) ∧ w.cell? ⟨g, 18, none⟩ = some (.int .u64 r.next) ∧ w.cell? ⟨g, 19, none⟩ = some (.int .i64 r.at_) ∧ w.cell? ⟨g, 26, none⟩ = some (.bool r.done) ∧ w.frozen? ⟨g, 12, none⟩ = false ∧ w.frozen? ⟨g, 17, none⟩ = false ∧ w.frozen? ⟨g, 18, none⟩ = false ∧ w.frozen? ⟨g, 19, none⟩ = false ∧ g < w.heap.size :=
  ⟨H.lo 0 _ rfl, H.lo 1 _ rfl, H.lo 2 _ rfl, H.lo 3 _ rfl, H.lo 4 _ rfl, H.hi 5 0 _ rfl rfl, H.hi 6 1 _ rfl rfl, H.hi 7 2 _ rfl rfl, H.hi 8 3 _ rfl rfl, H.hi 9 4 _ rfl rfl, H.hi 10 5 _ rfl rfl, H.hi 11 6 _ rfl rfl, H.hi 12 7 _ rfl rfl, H.hi 13 8 _ rfl rfl, H.hi 17 12 _ rfl rfl, H.hi 18 13 _ rfl rfl, H.hi 19 14 _ rfl rfl, H.hi 26 21 _ rfl rfl, row_frozen H 12, row_frozen H 17, row_frozen H 18, row_frozen H 19, lt_of_heap H⟩
end
set_option maxRecDepth 100000 in
set_option maxHeartbeats 2000000 in
theorem takLoad_any (g p b : Nat) (s t i h part : Int) (ws : List Int) (k : Nat) (x : Int) (r : Rn) (w : World) (H : PlanOk s t i h) (hT : Tak w g p s t i h r) (hA : Arn w p b ws) (hk : ws[k]? = some x) (ha : (k : Int) = 8 * r.area + part) (hp : 0 ≤ part ∧ part ≤ 4) (hs : 0 ≤ r.area ∧ r.area ≤ s - 1) :
    Calls Try.prog 76 #[.pointer (some ⟨g, 0, none⟩), .int .i64 part] w fun e w' => e = .returned (.int .u64 x) ∧ Below w.heap.size w w' := by
  have HP := fun w => Lib.hid (planAt_any s t i h part r.area w H hp hs)
  have He := Lib.hid (show 64 * r.area + 8 * part = ((k * 8 : Nat) : Int) by omega)
  have HT := Lib.hid hT
  have HA := Lib.hid hA
  have HW := fun w' (h : Arn w' p b ws) => Lib.hid (arnWord_any p b ws k x w' h hk)
  obtain ⟨m, Hm⟩ : ∃ m, m = ((k * 8 : Nat) : Int) := ⟨_, rfl⟩
  rw [← Hm] at He HW
  clear H hT hA hk ha hp hs Hm
  obtain ⟨v0, v1, v2, v3, v4, v5, v6, v7, v8, v9, v10, v11, v12, v13, v17, v18, v19, v26, vf12, vf17, vf18, vf19, vz⟩ := tak_box HT.out
  go_enter Try.func76, Try.ntmps76
  go_wp2_with fail
  refine wp_region_held_drew (S := fun W => Tak W g p s t i h r) (by kernel_rfl) (show Tak w.drew g p s t i h r from HT.out) ?_
  intro hS
  have hB0 : Below w.heap.size w w.drew := by go_grown
  generalize w.drew = y0 at hS hB0 ⊢
  clear v0 v1 v2 v3 v4 v5 v6 v7 v8 v9 v10 v11 v12 v13 v17 v18 v19 v26 vf12 vf17 vf18 vf19 vz
  refine wpAnyH_take_at (i := 0) (v := ?v0x1) (some 10) rfl rfl (by kernel_rfl) (by kernel_rfl) (by kernel_rfl) (fun _ _ _ h => h) (Or.inl ⟨by kernel_rfl, ?h0x1⟩) (by assumption) ?r0x1
  case h0x1 => (intro w hSw; obtain ⟨b0, b1, b2, b3, b4, b5, b6, b7, b8, b9, b10, b11, b12, b13, b17, b18, b19, b26, bf12, bf17, bf18, bf19, bz⟩ := tak_box hSw; go_simp; first | done | (with_reducible rfl))
  try simp only [Act.put]
  try simp only [List.setIfInBounds_toArray]
  try simp only [List.set_cons_succ]
  try simp only [List.set_cons_zero]
  refine wpAnyH_take_at (i := 1) (v := ?v1x2) (some 11) rfl rfl (by kernel_rfl) (by kernel_rfl) (by kernel_rfl) (fun _ _ _ h => h) (Or.inl ⟨by kernel_rfl, ?h1x2⟩) (by assumption) ?r1x2
  case h1x2 => (intro w hSw; obtain ⟨b0, b1, b2, b3, b4, b5, b6, b7, b8, b9, b10, b11, b12, b13, b17, b18, b19, b26, bf12, bf17, bf18, bf19, bz⟩ := tak_box hSw; go_simp; first | done | (with_reducible rfl))
  try simp only [Act.put]
  try simp only [List.setIfInBounds_toArray]
  try simp only [List.set_cons_succ]
  try simp only [List.set_cons_zero]
  refine wpAnyH_take_at (i := 2) (v := ?v2x3) (some 12) rfl rfl (by kernel_rfl) (by kernel_rfl) (by kernel_rfl) (fun _ _ _ h => h) (Or.inl ⟨by kernel_rfl, ?h2x3⟩) (by assumption) ?r2x3
  case h2x3 => (intro w hSw; obtain ⟨b0, b1, b2, b3, b4, b5, b6, b7, b8, b9, b10, b11, b12, b13, b17, b18, b19, b26, bf12, bf17, bf18, bf19, bz⟩ := tak_box hSw; go_simp; first | done | (with_reducible rfl))
  try simp only [Act.put]
  try simp only [List.setIfInBounds_toArray]
  try simp only [List.set_cons_succ]
  try simp only [List.set_cons_zero]
  refine wpAnyH_take_at (i := 3) (v := ?v3x4) (some 13) rfl rfl (by kernel_rfl) (by kernel_rfl) (by kernel_rfl) (fun _ _ _ h => h) (Or.inl ⟨by kernel_rfl, ?h3x4⟩) (by assumption) ?r3x4
  case h3x4 => (intro w hSw; obtain ⟨b0, b1, b2, b3, b4, b5, b6, b7, b8, b9, b10, b11, b12, b13, b17, b18, b19, b26, bf12, bf17, bf18, bf19, bz⟩ := tak_box hSw; go_simp; first | done | (with_reducible rfl))
  try simp only [Act.put]
  try simp only [List.setIfInBounds_toArray]
  try simp only [List.set_cons_succ]
  try simp only [List.set_cons_zero]
  refine wpAnyH_take_at (i := 4) (v := ?v4x5) (some 14) rfl rfl (by kernel_rfl) (by kernel_rfl) (by kernel_rfl) (fun _ _ _ h => h) (Or.inl ⟨by kernel_rfl, ?h4x5⟩) (by assumption) ?r4x5
  case h4x5 => (intro w hSw; obtain ⟨b0, b1, b2, b3, b4, b5, b6, b7, b8, b9, b10, b11, b12, b13, b17, b18, b19, b26, bf12, bf17, bf18, bf19, bz⟩ := tak_box hSw; go_simp; first | done | (with_reducible rfl))
  try simp only [Act.put]
  try simp only [List.setIfInBounds_toArray]
  try simp only [List.set_cons_succ]
  try simp only [List.set_cons_zero]
  refine wpAnyH_take_at (i := 5) (v := ?v5x6) (some 15) rfl rfl (by kernel_rfl) (by kernel_rfl) (by kernel_rfl) (fun _ _ _ h => h) (Or.inl ⟨by kernel_rfl, ?h5x6⟩) (by assumption) ?r5x6
  case h5x6 => (intro w hSw; obtain ⟨b0, b1, b2, b3, b4, b5, b6, b7, b8, b9, b10, b11, b12, b13, b17, b18, b19, b26, bf12, bf17, bf18, bf19, bz⟩ := tak_box hSw; go_simp; first | done | (with_reducible rfl))
  try simp only [Act.put]
  try simp only [List.setIfInBounds_toArray]
  try simp only [List.set_cons_succ]
  try simp only [List.set_cons_zero]
  refine wpAnyH_take_at (i := 6) (v := ?v6x7) (some 16) rfl rfl (by kernel_rfl) (by kernel_rfl) (by kernel_rfl) (fun _ _ _ h => h) (Or.inl ⟨by kernel_rfl, ?h6x7⟩) (by assumption) ?r6x7
  case h6x7 => (intro w hSw; obtain ⟨b0, b1, b2, b3, b4, b5, b6, b7, b8, b9, b10, b11, b12, b13, b17, b18, b19, b26, bf12, bf17, bf18, bf19, bz⟩ := tak_box hSw; go_simp; first | done | (with_reducible rfl))
  try simp only [Act.put]
  try simp only [List.setIfInBounds_toArray]
  try simp only [List.set_cons_succ]
  try simp only [List.set_cons_zero]
  refine wpAnyH_take_at (i := 7) (v := ?v7x8) (some 17) rfl rfl (by kernel_rfl) (by kernel_rfl) (by kernel_rfl) (fun _ _ _ h => h) (Or.inl ⟨by kernel_rfl, ?h7x8⟩) (by assumption) ?r7x8
  case h7x8 => (intro w hSw; obtain ⟨b0, b1, b2, b3, b4, b5, b6, b7, b8, b9, b10, b11, b12, b13, b17, b18, b19, b26, bf12, bf17, bf18, bf19, bz⟩ := tak_box hSw; go_simp; first | done | (with_reducible rfl))
  try simp only [Act.put]
  try simp only [List.setIfInBounds_toArray]
  try simp only [List.set_cons_succ]
  try simp only [List.set_cons_zero]
  refine wpAnyH_take_at (i := 8) (v := ?v8x9) (some 18) rfl rfl (by kernel_rfl) (by kernel_rfl) (by kernel_rfl) (fun _ _ _ h => h) (Or.inl ⟨by kernel_rfl, ?h8x9⟩) (by assumption) ?r8x9
  case h8x9 => (intro w hSw; obtain ⟨b0, b1, b2, b3, b4, b5, b6, b7, b8, b9, b10, b11, b12, b13, b17, b18, b19, b26, bf12, bf17, bf18, bf19, bz⟩ := tak_box hSw; go_simp; first | done | (with_reducible rfl))
  try simp only [Act.put]
  try simp only [List.setIfInBounds_toArray]
  try simp only [List.set_cons_succ]
  try simp only [List.set_cons_zero]
  refine wpAnyH_take_at (i := 9) (v := ?v9x10) (some 19) rfl rfl (by kernel_rfl) (by kernel_rfl) (by kernel_rfl) (fun _ _ _ h => h) (Or.inl ⟨by kernel_rfl, ?h9x10⟩) (by assumption) ?r9x10
  case h9x10 => (intro w hSw; obtain ⟨b0, b1, b2, b3, b4, b5, b6, b7, b8, b9, b10, b11, b12, b13, b17, b18, b19, b26, bf12, bf17, bf18, bf19, bz⟩ := tak_box hSw; go_simp; first | done | (with_reducible rfl))
  try simp only [Act.put]
  try simp only [List.setIfInBounds_toArray]
  try simp only [List.set_cons_succ]
  try simp only [List.set_cons_zero]
  refine wpAnyH_ready (rs := [10]) (by kernel_rfl) (by simp) ?_
  refine AllReadyH.cons rfl (fun K hK => ?_) AllReadyH.nil
  go_simp
  refine (HP _).out.mono ?_
  rintro e' y1 ⟨rfl, hb⟩
  rw [He.out]
  go_simp
  have hB1 := below_only hB0 hb
  refine hK.out _ _ (row_below hS hb) (fun hS => ?_)
  clear hK K
  try simp only [Act.put]
  try simp only [List.setIfInBounds_toArray]
  try simp only [List.set_cons_succ]
  try simp only [List.set_cons_zero]
  refine wpAnyH_take_at (i := 11) (v := ?v11x11) (some 9) rfl rfl (by kernel_rfl) (by kernel_rfl) (by kernel_rfl) (fun _ _ _ h => h) (Or.inl ⟨by kernel_rfl, ?h11x11⟩) (by assumption) ?r11x11
  case h11x11 => (intro w hSw; obtain ⟨b0, b1, b2, b3, b4, b5, b6, b7, b8, b9, b10, b11, b12, b13, b17, b18, b19, b26, bf12, bf17, bf18, bf19, bz⟩ := tak_box hSw; go_simp; first | done | (with_reducible rfl))
  try simp only [Act.put]
  try simp only [List.setIfInBounds_toArray]
  try simp only [List.set_cons_succ]
  try simp only [List.set_cons_zero]
  refine wpAnyH_take_at (i := 12) (v := ?v12x12) (some 21) rfl rfl (by kernel_rfl) (by kernel_rfl) (by kernel_rfl) (fun _ _ _ h => h) (Or.inl ⟨by kernel_rfl, ?h12x12⟩) (by assumption) ?r12x12
  case h12x12 => (intro w hSw; obtain ⟨b0, b1, b2, b3, b4, b5, b6, b7, b8, b9, b10, b11, b12, b13, b17, b18, b19, b26, bf12, bf17, bf18, bf19, bz⟩ := tak_box hSw; go_simp; first | done | (with_reducible rfl))
  try simp only [Act.put]
  try simp only [List.setIfInBounds_toArray]
  try simp only [List.set_cons_succ]
  try simp only [List.set_cons_zero]
  refine wpAnyH_take_at (i := 13) (v := ?v13x13) (some 22) rfl rfl (by kernel_rfl) (by kernel_rfl) (by kernel_rfl) (fun _ _ _ h => h) (Or.inl ⟨by kernel_rfl, ?h13x13⟩) (by assumption) ?r13x13
  case h13x13 => (intro w hSw; obtain ⟨b0, b1, b2, b3, b4, b5, b6, b7, b8, b9, b10, b11, b12, b13, b17, b18, b19, b26, bf12, bf17, bf18, bf19, bz⟩ := tak_box hSw; go_simp; first | done | (with_reducible rfl))
  try simp only [Act.put]
  try simp only [List.setIfInBounds_toArray]
  try simp only [List.set_cons_succ]
  try simp only [List.set_cons_zero]
  refine wpAnyH_take_at (i := 14) (v := ?v14x14) (some 5) rfl rfl (by kernel_rfl) (by kernel_rfl) (by kernel_rfl) (fun _ _ _ h => h) (Or.inl ⟨by kernel_rfl, ?h14x14⟩) (by assumption) ?r14x14
  case h14x14 => (intro w hSw; obtain ⟨b0, b1, b2, b3, b4, b5, b6, b7, b8, b9, b10, b11, b12, b13, b17, b18, b19, b26, bf12, bf17, bf18, bf19, bz⟩ := tak_box hSw; go_simp; first | done | (with_reducible rfl))
  try simp only [Act.put]
  try simp only [List.setIfInBounds_toArray]
  try simp only [List.set_cons_succ]
  try simp only [List.set_cons_zero]
  refine wpAnyH_take_at (i := 15) (v := ?v15x15) (some 6) rfl rfl (by kernel_rfl) (by kernel_rfl) (by kernel_rfl) (fun _ _ _ h => h) (Or.inl ⟨by kernel_rfl, ?h15x15⟩) (by assumption) ?r15x15
  case h15x15 => (intro w hSw; obtain ⟨b0, b1, b2, b3, b4, b5, b6, b7, b8, b9, b10, b11, b12, b13, b17, b18, b19, b26, bf12, bf17, bf18, bf19, bz⟩ := tak_box hSw; go_simp; first | done | (with_reducible rfl))
  try simp only [Act.put]
  try simp only [List.setIfInBounds_toArray]
  try simp only [List.set_cons_succ]
  try simp only [List.set_cons_zero]
  refine wpAnyH_done (by kernel_rfl) ?_ _
  have HB1 := Lib.hid hB1
  obtain ⟨v0, v1, v2, v3, v4, v5, v6, v7, v8, v9, v10, v11, v12, v13, v17, v18, v19, v26, vf12, vf17, vf18, vf19, vz⟩ := tak_box hS
  clear hS hB1
  go_wp2_with fail
  refine (HW _ (HA.out.below HB1.out)).out.mono ?_
  rintro e' w2 ⟨rfl, e2⟩
  rw [e2]
  clear e2 w2
  go_wp2_with fail
  go_ret
  exact ⟨rfl, HB1.out⟩
set_option maxRecDepth 100000 in
set_option maxHeartbeats 2000000 in
theorem takCtl_any (g p b : Nat) (s t i h : Int) (ws : List Int) (k : Nat) (c : Ctl) (r : Rn) (w : World) (H : PlanOk s t i h) (hT : Tak w g p s t i h r) (hA : Arn w p b ws) (hc : Right c) (hk : ws[k]? = some (word c)) (ha : (k : Int) = 8 * r.area) (hs : 0 ≤ r.area ∧ r.area ≤ s - 1) :
    Calls Try.prog 32 #[.pointer (some ⟨g, 0, none⟩)] w fun e w' => e = .returned (.tuple #[]) ∧ Tak w' g p s t i h { r with next := c.ep, pc := 2 } ∧ Keep [g] w w' := by
  have HC := fun w' (h' : Arn w' p b ws) => Lib.hid (foundCtl_any p b s t i h ws k r.area c w' H h' hc hk ha hs)
  have HT := Lib.hid hT
  have HA := Lib.hid hA
  have e0 : 0 ≤ c.ep := hc.1
  have e1 : c.ep ≤ 16777215 := hc.2.1
  obtain ⟨c1, c2, c3, c4⟩ := c
  have e0 : 0 ≤ c4 := e0
  have e1 : c4 ≤ 16777215 := e1
  clear H hT hA hc hk ha hs
  obtain ⟨v0, v1, v2, v3, v4, v5, v6, v7, v8, v9, v10, v11, v12, v13, v17, v18, v19, v26, vf12, vf17, vf18, vf19, vz⟩ := tak_box HT.out
  go_enter Try.func32, Try.ntmps32
  go_wp2_with fail
  go_cut [2, 3] from 2 to 20 (fun v2 v3 wx => ∃ gZ, v2 = .pointer (some ⟨gZ, 0, none⟩) ∧ v3 = .int .i64 0 ∧ w.heap.size ≤ gZ ∧ wx.heap[gZ]? = some (.cells #[.int .i64 c1, .int .i64 c2, .int .i64 c3, .int .i64 c4] 90 (0, 0)) ∧ Below w.heap.size w wx)
  case first =>
    refine wp_region_held_drew (S := fun W => Tak W g p s t i h r) (by kernel_rfl) (show Tak w.drew g p s t i h r from HT.out) ?_
    intro hS
    have hA0 : Arn w.drew p b ws := HA.out.drew
    have hB0 : Below w.heap.size w w.drew := by go_grown
    generalize w.drew = y0 at hS hA0 hB0 ⊢
    refine wpAnyH_take_at (i := 0) (v := ?v0x16) (some 5) rfl rfl (by kernel_rfl) (by kernel_rfl) (by kernel_rfl) (fun _ _ _ h => h) (Or.inl ⟨by kernel_rfl, ?h0x16⟩) (by assumption) ?r0x16
    case h0x16 => (intro w hSw; obtain ⟨b0, b1, b2, b3, b4, b5, b6, b7, b8, b9, b10, b11, b12, b13, b17, b18, b19, b26, bf12, bf17, bf18, bf19, bz⟩ := tak_box hSw; go_simp; first | done | (with_reducible rfl))
    try simp only [Act.put]
    try simp only [List.setIfInBounds_toArray]
    try simp only [List.set_cons_succ]
    try simp only [List.set_cons_zero]
    refine wpAnyH_take_at (i := 1) (v := ?v1x17) (some 6) rfl rfl (by kernel_rfl) (by kernel_rfl) (by kernel_rfl) (fun _ _ _ h => h) (Or.inl ⟨by kernel_rfl, ?h1x17⟩) (by assumption) ?r1x17
    case h1x17 => (intro w hSw; obtain ⟨b0, b1, b2, b3, b4, b5, b6, b7, b8, b9, b10, b11, b12, b13, b17, b18, b19, b26, bf12, bf17, bf18, bf19, bz⟩ := tak_box hSw; go_simp; first | done | (with_reducible rfl))
    try simp only [Act.put]
    try simp only [List.setIfInBounds_toArray]
    try simp only [List.set_cons_succ]
    try simp only [List.set_cons_zero]
    refine wpAnyH_take_at (i := 2) (v := ?v2x18) (some 7) rfl rfl (by kernel_rfl) (by kernel_rfl) (by kernel_rfl) (fun _ _ _ h => h) (Or.inl ⟨by kernel_rfl, ?h2x18⟩) (by assumption) ?r2x18
    case h2x18 => (intro w hSw; obtain ⟨b0, b1, b2, b3, b4, b5, b6, b7, b8, b9, b10, b11, b12, b13, b17, b18, b19, b26, bf12, bf17, bf18, bf19, bz⟩ := tak_box hSw; go_simp; first | done | (with_reducible rfl))
    try simp only [Act.put]
    try simp only [List.setIfInBounds_toArray]
    try simp only [List.set_cons_succ]
    try simp only [List.set_cons_zero]
    refine wpAnyH_take_at (i := 3) (v := ?v3x19) (some 8) rfl rfl (by kernel_rfl) (by kernel_rfl) (by kernel_rfl) (fun _ _ _ h => h) (Or.inl ⟨by kernel_rfl, ?h3x19⟩) (by assumption) ?r3x19
    case h3x19 => (intro w hSw; obtain ⟨b0, b1, b2, b3, b4, b5, b6, b7, b8, b9, b10, b11, b12, b13, b17, b18, b19, b26, bf12, bf17, bf18, bf19, bz⟩ := tak_box hSw; go_simp; first | done | (with_reducible rfl))
    try simp only [Act.put]
    try simp only [List.setIfInBounds_toArray]
    try simp only [List.set_cons_succ]
    try simp only [List.set_cons_zero]
    refine wpAnyH_take_at (i := 4) (v := ?v4x20) (some 9) rfl rfl (by kernel_rfl) (by kernel_rfl) (by kernel_rfl) (fun _ _ _ h => h) (Or.inl ⟨by kernel_rfl, ?h4x20⟩) (by assumption) ?r4x20
    case h4x20 => (intro w hSw; obtain ⟨b0, b1, b2, b3, b4, b5, b6, b7, b8, b9, b10, b11, b12, b13, b17, b18, b19, b26, bf12, bf17, bf18, bf19, bz⟩ := tak_box hSw; go_simp; first | done | (with_reducible rfl))
    try simp only [Act.put]
    try simp only [List.setIfInBounds_toArray]
    try simp only [List.set_cons_succ]
    try simp only [List.set_cons_zero]
    refine wpAnyH_take_at (i := 5) (v := ?v5x21) (some 10) rfl rfl (by kernel_rfl) (by kernel_rfl) (by kernel_rfl) (fun _ _ _ h => h) (Or.inl ⟨by kernel_rfl, ?h5x21⟩) (by assumption) ?r5x21
    case h5x21 => (intro w hSw; obtain ⟨b0, b1, b2, b3, b4, b5, b6, b7, b8, b9, b10, b11, b12, b13, b17, b18, b19, b26, bf12, bf17, bf18, bf19, bz⟩ := tak_box hSw; go_simp; first | done | (with_reducible rfl))
    try simp only [Act.put]
    try simp only [List.setIfInBounds_toArray]
    try simp only [List.set_cons_succ]
    try simp only [List.set_cons_zero]
    refine wpAnyH_take_at (i := 6) (v := ?v6x22) (some 11) rfl rfl (by kernel_rfl) (by kernel_rfl) (by kernel_rfl) (fun _ _ _ h => h) (Or.inl ⟨by kernel_rfl, ?h6x22⟩) (by assumption) ?r6x22
    case h6x22 => (intro w hSw; obtain ⟨b0, b1, b2, b3, b4, b5, b6, b7, b8, b9, b10, b11, b12, b13, b17, b18, b19, b26, bf12, bf17, bf18, bf19, bz⟩ := tak_box hSw; go_simp; first | done | (with_reducible rfl))
    try simp only [Act.put]
    try simp only [List.setIfInBounds_toArray]
    try simp only [List.set_cons_succ]
    try simp only [List.set_cons_zero]
    refine wpAnyH_take_at (i := 7) (v := ?v7x23) (some 12) rfl rfl (by kernel_rfl) (by kernel_rfl) (by kernel_rfl) (fun _ _ _ h => h) (Or.inl ⟨by kernel_rfl, ?h7x23⟩) (by assumption) ?r7x23
    case h7x23 => (intro w hSw; obtain ⟨b0, b1, b2, b3, b4, b5, b6, b7, b8, b9, b10, b11, b12, b13, b17, b18, b19, b26, bf12, bf17, bf18, bf19, bz⟩ := tak_box hSw; go_simp; first | done | (with_reducible rfl))
    try simp only [Act.put]
    try simp only [List.setIfInBounds_toArray]
    try simp only [List.set_cons_succ]
    try simp only [List.set_cons_zero]
    refine wpAnyH_take_at (i := 8) (v := ?v8x24) (some 13) rfl rfl (by kernel_rfl) (by kernel_rfl) (by kernel_rfl) (fun _ _ _ h => h) (Or.inl ⟨by kernel_rfl, ?h8x24⟩) (by assumption) ?r8x24
    case h8x24 => (intro w hSw; obtain ⟨b0, b1, b2, b3, b4, b5, b6, b7, b8, b9, b10, b11, b12, b13, b17, b18, b19, b26, bf12, bf17, bf18, bf19, bz⟩ := tak_box hSw; go_simp; first | done | (with_reducible rfl))
    try simp only [Act.put]
    try simp only [List.setIfInBounds_toArray]
    try simp only [List.set_cons_succ]
    try simp only [List.set_cons_zero]
    refine wpAnyH_take_at (i := 9) (v := ?v9x25) (some 14) rfl rfl (by kernel_rfl) (by kernel_rfl) (by kernel_rfl) (fun _ _ _ h => h) (Or.inl ⟨by kernel_rfl, ?h9x25⟩) (by assumption) ?r9x25
    case h9x25 => (intro w hSw; obtain ⟨b0, b1, b2, b3, b4, b5, b6, b7, b8, b9, b10, b11, b12, b13, b17, b18, b19, b26, bf12, bf17, bf18, bf19, bz⟩ := tak_box hSw; go_simp; first | done | (with_reducible rfl))
    try simp only [Act.put]
    try simp only [List.setIfInBounds_toArray]
    try simp only [List.set_cons_succ]
    try simp only [List.set_cons_zero]
    refine wpAnyH_take_at (i := 10) (v := ?v10x26) (some 15) rfl rfl (by kernel_rfl) (by kernel_rfl) (by kernel_rfl) (fun _ _ _ h => h) (Or.inl ⟨by kernel_rfl, ?h10x26⟩) (by assumption) ?r10x26
    case h10x26 => (intro w hSw; obtain ⟨b0, b1, b2, b3, b4, b5, b6, b7, b8, b9, b10, b11, b12, b13, b17, b18, b19, b26, bf12, bf17, bf18, bf19, bz⟩ := tak_box hSw; go_simp; first | done | (with_reducible rfl))
    try simp only [Act.put]
    try simp only [List.setIfInBounds_toArray]
    try simp only [List.set_cons_succ]
    try simp only [List.set_cons_zero]
    refine wpAnyH_take_at (i := 11) (v := ?v11x27) (some 16) rfl rfl (by kernel_rfl) (by kernel_rfl) (by kernel_rfl) (fun _ _ _ h => h) (Or.inl ⟨by kernel_rfl, ?h11x27⟩) (by assumption) ?r11x27
    case h11x27 => (intro w hSw; obtain ⟨b0, b1, b2, b3, b4, b5, b6, b7, b8, b9, b10, b11, b12, b13, b17, b18, b19, b26, bf12, bf17, bf18, bf19, bz⟩ := tak_box hSw; go_simp; first | done | (with_reducible rfl))
    try simp only [Act.put]
    try simp only [List.setIfInBounds_toArray]
    try simp only [List.set_cons_succ]
    try simp only [List.set_cons_zero]
    refine wpAnyH_take_at (i := 12) (v := ?v12x28) (some 17) rfl rfl (by kernel_rfl) (by kernel_rfl) (by kernel_rfl) (fun _ _ _ h => h) (Or.inl ⟨by kernel_rfl, ?h12x28⟩) (by assumption) ?r12x28
    case h12x28 => (intro w hSw; obtain ⟨b0, b1, b2, b3, b4, b5, b6, b7, b8, b9, b10, b11, b12, b13, b17, b18, b19, b26, bf12, bf17, bf18, bf19, bz⟩ := tak_box hSw; go_simp; first | done | (with_reducible rfl))
    try simp only [Act.put]
    try simp only [List.setIfInBounds_toArray]
    try simp only [List.set_cons_succ]
    try simp only [List.set_cons_zero]
    refine wpAnyH_ready (rs := [13, 17]) (by kernel_rfl) (by simp) ?_
    refine AllReadyH.cons rfl (fun K hK => ?_) (AllReadyH.cons rfl (fun K hK => ?_) AllReadyH.nil)
    · skip
      go_simp
      refine (HC _ hA0).out.mono ?_
      rintro e' yE ⟨rfl, hb⟩
      go_simp
      replace hA0 := hA0.below hb
      replace hB0 := below_only hB0 hb
      refine hK.out _ _ (row_below hS hb) (fun hS => ?_)
      clear hK K
      try simp only [Act.put]
      try simp only [List.setIfInBounds_toArray]
      try simp only [List.set_cons_succ]
      try simp only [List.set_cons_zero]
      refine wpAnyH_take_at (i := 14) (v := ?v14x29) (some 4) rfl rfl (by kernel_rfl) (by kernel_rfl) (by kernel_rfl) (fun _ _ _ h => h) (Or.inl ⟨by kernel_rfl, ?h14x29⟩) (by assumption) ?r14x29
      case h14x29 => (intro w hSw; obtain ⟨b0, b1, b2, b3, b4, b5, b6, b7, b8, b9, b10, b11, b12, b13, b17, b18, b19, b26, bf12, bf17, bf18, bf19, bz⟩ := tak_box hSw; go_simp; first | done | (with_reducible rfl))
      try simp only [Act.put]
      try simp only [List.setIfInBounds_toArray]
      try simp only [List.set_cons_succ]
      try simp only [List.set_cons_zero]
      refine wpAnyH_take_at (i := 15) (v := ?v15x30) (some 19) rfl rfl (by kernel_rfl) (by kernel_rfl) (by kernel_rfl) (fun _ _ _ h => h) (Or.inl ⟨by kernel_rfl, ?h15x30⟩) (by assumption) ?r15x30
      case h15x30 => (intro w hSw; obtain ⟨b0, b1, b2, b3, b4, b5, b6, b7, b8, b9, b10, b11, b12, b13, b17, b18, b19, b26, bf12, bf17, bf18, bf19, bz⟩ := tak_box hSw; go_simp; first | done | (with_reducible rfl))
      try simp only [Act.put]
      try simp only [List.setIfInBounds_toArray]
      try simp only [List.set_cons_succ]
      try simp only [List.set_cons_zero]
      refine wpAnyH_take_at (i := 16) (v := ?v16x31) (some 20) rfl rfl (by kernel_rfl) (by kernel_rfl) (by kernel_rfl) (fun _ _ _ h => h) (Or.inl ⟨by kernel_rfl, ?h16x31⟩) (by assumption) ?r16x31
      case h16x31 => (intro w hSw; obtain ⟨b0, b1, b2, b3, b4, b5, b6, b7, b8, b9, b10, b11, b12, b13, b17, b18, b19, b26, bf12, bf17, bf18, bf19, bz⟩ := tak_box hSw; go_simp; first | done | (with_reducible rfl))
      try simp only [Act.put]
      try simp only [List.setIfInBounds_toArray]
      try simp only [List.set_cons_succ]
      try simp only [List.set_cons_zero]
      refine wpAnyH_ready (rs := [17]) (by kernel_rfl) (by simp) ?_
      refine AllReadyH.cons rfl (fun K hK => ?_) AllReadyH.nil
      go_simp
      refine k_alloc (fun yZ hZ hb => ?_)
      have hgZ : w.heap.size ≤ yE.heap.size := hB0.size
      replace hA0 := hA0.below hb
      replace hB0 := below_only hB0 hb
      obtain ⟨gZ, HgZ⟩ : ∃ x, x = yE.heap.size := ⟨_, rfl⟩
      have hSb := row_below hS hb
      rw [← HgZ] at hZ hgZ ⊢
      clear HgZ hb
      have hgg : g ≠ gZ := by omega
      refine hK.out _ _ (hSb) (fun hS => ?_)
      clear hK K
      try simp only [Act.put]
      try simp only [List.setIfInBounds_toArray]
      try simp only [List.set_cons_succ]
      try simp only [List.set_cons_zero]
      clear hSb
      refine wpAnyH_ready (rs := [18]) (by kernel_rfl) (by simp) ?_
      refine AllReadyH.cons rfl (fun K hK => ?_) AllReadyH.nil
      refine step_store_row none rfl rfl 90 (.tmp 2) (.tmp 19) rfl gZ #[.int .i64 c1, .int .i64 c2, .int .i64 c3, .int .i64 c4] rfl rfl 90 #[.int .i64 0, .int .i64 0, .int .i64 0, .int .i64 0] hZ infoCtl4 rfl (one4 _ _ _ _) ?_
      refine hK.out _ _ ((setRow_other _ _ _ _ hgg).trans hS) (fun hS => ?_)
      clear hK K
      try simp only [Act.put]
      try simp only [List.setIfInBounds_toArray]
      try simp only [List.set_cons_succ]
      try simp only [List.set_cons_zero]
      refine wpAnyH_take_at (i := 19) (v := ?v19x32) (some 3) rfl rfl (by kernel_rfl) (by kernel_rfl) (by kernel_rfl) (fun _ _ _ h => h) (Or.inl ⟨by kernel_rfl, ?h19x32⟩) (by assumption) ?r19x32
      case h19x32 => (intro w hSw; obtain ⟨b0, b1, b2, b3, b4, b5, b6, b7, b8, b9, b10, b11, b12, b13, b17, b18, b19, b26, bf12, bf17, bf18, bf19, bz⟩ := tak_box hSw; go_simp; first | done | (with_reducible rfl))
      try simp only [Act.put]
      try simp only [List.setIfInBounds_toArray]
      try simp only [List.set_cons_succ]
      try simp only [List.set_cons_zero]
      refine wpAnyH_done (by kernel_rfl) ?_ _
      go_wp2_with fail
      go_meet
      exact ⟨gZ, rfl, rfl, hgZ, setRow_heap _ _ _ _ _ _ hZ, below_setRow hB0 hgZ _⟩
    · skip
      go_simp
      refine k_alloc (fun yZ hZ hb => ?_)
      have hgZ : w.heap.size ≤ y0.heap.size := hB0.size
      replace hA0 := hA0.below hb
      replace hB0 := below_only hB0 hb
      obtain ⟨gZ, HgZ⟩ : ∃ x, x = y0.heap.size := ⟨_, rfl⟩
      have hSb := row_below hS hb
      rw [← HgZ] at hZ hgZ ⊢
      clear HgZ hb
      have hgg : g ≠ gZ := by omega
      refine hK.out _ _ (hSb) (fun hS => ?_)
      clear hK K
      try simp only [Act.put]
      try simp only [List.setIfInBounds_toArray]
      try simp only [List.set_cons_succ]
      try simp only [List.set_cons_zero]
      clear hSb
      refine wpAnyH_ready (rs := [13]) (by kernel_rfl) (by simp) ?_
      refine AllReadyH.cons rfl (fun K hK => ?_) AllReadyH.nil
      go_simp
      refine (HC _ hA0).out.mono ?_
      rintro e' yE ⟨rfl, hb⟩
      go_simp
      replace hA0 := hA0.below hb
      replace hB0 := below_only hB0 hb
      replace hZ := row_below hZ hb
      refine hK.out _ _ (row_below hS hb) (fun hS => ?_)
      clear hK K
      try simp only [Act.put]
      try simp only [List.setIfInBounds_toArray]
      try simp only [List.set_cons_succ]
      try simp only [List.set_cons_zero]
      refine wpAnyH_take_at (i := 14) (v := ?v14x33) (some 4) rfl rfl (by kernel_rfl) (by kernel_rfl) (by kernel_rfl) (fun _ _ _ h => h) (Or.inl ⟨by kernel_rfl, ?h14x33⟩) (by assumption) ?r14x33
      case h14x33 => (intro w hSw; obtain ⟨b0, b1, b2, b3, b4, b5, b6, b7, b8, b9, b10, b11, b12, b13, b17, b18, b19, b26, bf12, bf17, bf18, bf19, bz⟩ := tak_box hSw; go_simp; first | done | (with_reducible rfl))
      try simp only [Act.put]
      try simp only [List.setIfInBounds_toArray]
      try simp only [List.set_cons_succ]
      try simp only [List.set_cons_zero]
      refine wpAnyH_take_at (i := 15) (v := ?v15x34) (some 19) rfl rfl (by kernel_rfl) (by kernel_rfl) (by kernel_rfl) (fun _ _ _ h => h) (Or.inl ⟨by kernel_rfl, ?h15x34⟩) (by assumption) ?r15x34
      case h15x34 => (intro w hSw; obtain ⟨b0, b1, b2, b3, b4, b5, b6, b7, b8, b9, b10, b11, b12, b13, b17, b18, b19, b26, bf12, bf17, bf18, bf19, bz⟩ := tak_box hSw; go_simp; first | done | (with_reducible rfl))
      try simp only [Act.put]
      try simp only [List.setIfInBounds_toArray]
      try simp only [List.set_cons_succ]
      try simp only [List.set_cons_zero]
      refine wpAnyH_take_at (i := 16) (v := ?v16x35) (some 20) rfl rfl (by kernel_rfl) (by kernel_rfl) (by kernel_rfl) (fun _ _ _ h => h) (Or.inl ⟨by kernel_rfl, ?h16x35⟩) (by assumption) ?r16x35
      case h16x35 => (intro w hSw; obtain ⟨b0, b1, b2, b3, b4, b5, b6, b7, b8, b9, b10, b11, b12, b13, b17, b18, b19, b26, bf12, bf17, bf18, bf19, bz⟩ := tak_box hSw; go_simp; first | done | (with_reducible rfl))
      try simp only [Act.put]
      try simp only [List.setIfInBounds_toArray]
      try simp only [List.set_cons_succ]
      try simp only [List.set_cons_zero]
      refine wpAnyH_ready (rs := [18]) (by kernel_rfl) (by simp) ?_
      refine AllReadyH.cons rfl (fun K hK => ?_) AllReadyH.nil
      refine step_store_row none rfl rfl 90 (.tmp 2) (.tmp 19) rfl gZ #[.int .i64 c1, .int .i64 c2, .int .i64 c3, .int .i64 c4] rfl rfl 90 #[.int .i64 0, .int .i64 0, .int .i64 0, .int .i64 0] hZ infoCtl4 rfl (one4 _ _ _ _) ?_
      refine hK.out _ _ ((setRow_other _ _ _ _ hgg).trans hS) (fun hS => ?_)
      clear hK K
      try simp only [Act.put]
      try simp only [List.setIfInBounds_toArray]
      try simp only [List.set_cons_succ]
      try simp only [List.set_cons_zero]
      refine wpAnyH_take_at (i := 19) (v := ?v19x36) (some 3) rfl rfl (by kernel_rfl) (by kernel_rfl) (by kernel_rfl) (fun _ _ _ h => h) (Or.inl ⟨by kernel_rfl, ?h19x36⟩) (by assumption) ?r19x36
      case h19x36 => (intro w hSw; obtain ⟨b0, b1, b2, b3, b4, b5, b6, b7, b8, b9, b10, b11, b12, b13, b17, b18, b19, b26, bf12, bf17, bf18, bf19, bz⟩ := tak_box hSw; go_simp; first | done | (with_reducible rfl))
      try simp only [Act.put]
      try simp only [List.setIfInBounds_toArray]
      try simp only [List.set_cons_succ]
      try simp only [List.set_cons_zero]
      refine wpAnyH_done (by kernel_rfl) ?_ _
      go_wp2_with fail
      go_meet
      exact ⟨gZ, rfl, rfl, hgZ, setRow_heap _ _ _ _ _ _ hZ, below_setRow hB0 hgZ _⟩
  case rest =>
    obtain ⟨gZ, rfl, rfl, hgZ, hR, hb⟩ := hcut
    obtain ⟨w5, hwx⟩ : ∃ x, x = wc := ⟨_, rfl⟩
    subst hwx
    have HT5 : Hid (Tak w5 g p s t i h r) := Lib.hid (row_below HT.out hb)
    have HB5 := Lib.hid hb
    obtain ⟨x0, x1, x2, x3, _⟩ := box4 hR
    clear v0 v1 v2 v3 v4 v5 v6 v7 v8 v9 v10 v11 v12 v13 v17 v18 v19 v26 vf12 vf17 vf18 vf19 vz hb hR hgZ
    obtain ⟨v0, v1, v2, v3, v4, v5, v6, v7, v8, v9, v10, v11, v12, v13, v17, v18, v19, v26, vf12, vf17, vf18, vf19, vz⟩ := tak_box HT5.out
    go_wp2_with fail
    go_end0
    have hC8 := row_set (i := 12) (row_set (i := 18) HT5.out (.int .u64 c4)) (.int .i64 2)
    rw [pre_set _ _ 18 13 _ rfl, pre_set _ _ 12 7 _ rfl] at hC8
    exact ⟨rfl, hC8, ((keep_below HB5.out [g]).setCell (p := ⟨g, 18, none⟩) (.inl (by simp)) _).setCell (p := ⟨g, 12, none⟩) (.inl (by simp)) _⟩
set_option maxRecDepth 100000 in
set_option maxHeartbeats 2000000 in
theorem takBase_any (g p b : Nat) (s t i h : Int) (ws : List Int) (k : Nat) (x : Int) (r : Rn) (w : World) (H : PlanOk s t i h) (hT : Tak w g p s t i h r) (hA : Arn w p b ws) (hk : ws[k]? = some x) (ha : (k : Int) = 8 * r.area + 1) (hs : 0 ≤ r.area ∧ r.area ≤ s - 1) (hx : 0 ≤ x ∧ x ≤ 65536) :
    Calls Try.prog 33 #[.pointer (some ⟨g, 0, none⟩)] w fun e w' => e = .returned (.tuple #[]) ∧ Tak w' g p s t i h { r with at_ := x, pc := 3 } ∧ Keep [g] w w' := by
  have HL := fun w' (hT' : Tak w' g p s t i h r) (hA' : Arn w' p b ws) => Lib.hid (takLoad_any g p b s t i h 1 ws k x r w' H hT' hA' hk ha (by decide) hs)
  have HT := Lib.hid hT
  have HA := Lib.hid hA
  obtain ⟨x0, x1⟩ := hx
  clear H hT hA hk ha hs
  go_enter Try.func33, Try.ntmps33
  go_wp2_with fail
  refine (HL _ HT.out HA.out).out.mono ?_
  rintro e' w1 ⟨rfl, hb⟩
  have HT1 : Hid (Tak w1 g p s t i h r) := Lib.hid (row_below HT.out hb)
  have HB1 := Lib.hid hb
  clear hb
  obtain ⟨v0, v1, v2, v3, v4, v5, v6, v7, v8, v9, v10, v11, v12, v13, v17, v18, v19, v26, vf12, vf17, vf18, vf19, vz⟩ := tak_box HT1.out
  go_wp2_with fail
  go_end0
  have hC8 := row_set (i := 12) (row_set (i := 19) HT1.out (.int .i64 x)) (.int .i64 3)
  rw [pre_set _ _ 19 14 _ rfl, pre_set _ _ 12 7 _ rfl] at hC8
  exact ⟨rfl, hC8, ((keep_below HB1.out [g]).setCell (p := ⟨g, 19, none⟩) (.inl (by simp)) _).setCell (p := ⟨g, 12, none⟩) (.inl (by simp)) _⟩
set_option maxRecDepth 100000 in
set_option maxHeartbeats 2000000 in
theorem takBudget_any (g p b : Nat) (s t i h : Int) (ws : List Int) (k : Nat) (x : Int) (r : Rn) (w : World) (H : PlanOk s t i h) (hT : Tak w g p s t i h r) (hA : Arn w p b ws) (hk : ws[k]? = some x) (ha : (k : Int) = 8 * r.area + 2) (hs : 0 ≤ r.area ∧ r.area ≤ s - 1) (hx : 0 ≤ x ∧ x ≤ 65536) :
    Calls Try.prog 34 #[.pointer (some ⟨g, 0, none⟩)] w fun e w' => e = .returned (.tuple #[]) ∧ Tak w' g p s t i h { r with word := x, pc := 4 } ∧ Keep [g] w w' := by
  have HL := fun w' (hT' : Tak w' g p s t i h r) (hA' : Arn w' p b ws) => Lib.hid (takLoad_any g p b s t i h 2 ws k x r w' H hT' hA' hk ha (by decide) hs)
  have HT := Lib.hid hT
  have HA := Lib.hid hA
  obtain ⟨x0, x1⟩ := hx
  clear H hT hA hk ha hs
  go_enter Try.func34, Try.ntmps34
  go_wp2_with fail
  refine (HL _ HT.out HA.out).out.mono ?_
  rintro e' w1 ⟨rfl, hb⟩
  have HT1 : Hid (Tak w1 g p s t i h r) := Lib.hid (row_below HT.out hb)
  have HB1 := Lib.hid hb
  clear hb
  obtain ⟨v0, v1, v2, v3, v4, v5, v6, v7, v8, v9, v10, v11, v12, v13, v17, v18, v19, v26, vf12, vf17, vf18, vf19, vz⟩ := tak_box HT1.out
  go_wp2_with fail
  go_end0
  have hC8 := row_set (i := 12) (row_set (i := 17) HT1.out (.int .u64 x)) (.int .i64 4)
  rw [pre_set _ _ 17 12 _ rfl, pre_set _ _ 12 7 _ rfl] at hC8
  exact ⟨rfl, hC8, ((keep_below HB1.out [g]).setCell (p := ⟨g, 17, none⟩) (.inl (by simp)) _).setCell (p := ⟨g, 12, none⟩) (.inl (by simp)) _⟩

end Go.Proofs.Ytoadddfiibeenaa
