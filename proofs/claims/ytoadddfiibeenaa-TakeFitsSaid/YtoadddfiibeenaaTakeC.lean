/- Layer 15: the walk of taker's claim. (Printed by gen_takeb.py.) -/
import Derived.Test.YtoadddfiibeenaaTakeB
namespace Go.Proofs.Ytoadddfiibeenaa
open Go.RowKit
set_option linter.unusedVariables false
set_option linter.unusedSimpArgs false

set_option maxRecDepth 100000 in
set_option maxHeartbeats 4000000 in
theorem takClaim_no (g p b : Nat) (s t i h : Int) (ws : List Int) (k : Nat) (top : Int) (r : Rn) (w : World) (H : PlanOk s t i h) (hT : Tak w g p s t i h r) (hA : Arn w p b ws) (hk : ws[k]? = some top) (ha : (k : Int) = 8 * r.area + 3) (hs : 0 ≤ r.area ∧ r.area ≤ s - 1) (s8 : s ≤ 8) (ht : 0 ≤ top ∧ top ≤ r.word) (hw : r.word ≤ 65536) (hat : 0 ≤ r.at_ ∧ r.at_ ≤ 65536) (hca : 0 ≤ r.c.a ∧ r.c.a ≤ 6) (hcb : 0 ≤ r.c.b ∧ r.c.b ≤ 512) (hcc : 0 ≤ r.c.c ∧ r.c.c ≤ 7) (hn : 0 ≤ r.next ∧ r.next ≤ 16777215) (hsd : r.said = noS) (hgn : g ≠ p ∧ g ≠ b) (hf : r.word < top + 8 * wordsN r.c.a r.c.b) :
    Calls Try.prog 35 #[.pointer (some ⟨g, 0, none⟩)] w fun e w' => e = .returned (.tuple #[]) ∧ Tak w' g p s t i h (toldR r 17 0 noS) ∧ Keep [g] w w' := by
  have HP := fun w => Lib.hid (planAt_any s t i h 3 r.area w H (by decide) hs)
  have He := Lib.hid (show 64 * r.area + 8 * 3 = ((k * 8 : Nat) : Int) by omega)
  have HT := Lib.hid hT
  have HA := Lib.hid hA
  have HSd := Lib.hid hsd
  have Hgn := Lib.hid hgn
  have HWd := fun w' => Lib.hid (headWords_any r.c.a r.c.b w' hca.1 hca.2 hcb.1 hcb.2)
  have hwn : 2 + r.c.a ≤ wordsN r.c.a r.c.b ∧ wordsN r.c.a r.c.b ≤ 72 := by unfold wordsN; omega
  have hHo : HeadOk (wordsN r.c.a r.c.b) r.c.a r.c.c r.area r.next := ⟨hca, hwn, hcc, by omega, hn⟩
  have HPk := fun w' => Lib.hid (headPack_any (wordsN r.c.a r.c.b) r.c.a r.c.c r.area r.next w' hHo)
  have hh1 : 0 ≤ head1 (wordsN r.c.a r.c.b) r.c.a r.c.c ∧ head1 (wordsN r.c.a r.c.b) r.c.a r.c.c < 18446744073709551616 := by unfold head1; omega
  have hh2 : 0 ≤ head2 r.area r.next ∧ head2 r.area r.next < 18446744073709551616 := by unfold head2; omega
  have HCl := fun w' (h' : Arn w' p b ws) => Lib.hid (arnClaim_no p b ws k top (8 * wordsN r.c.a r.c.b) r.word r.at_ (head1 (wordsN r.c.a r.c.b) r.c.a r.c.c) (head2 r.area r.next) w' h' hk ht hw (by omega))
  obtain ⟨n, Hn⟩ : ∃ n, n = wordsN r.c.a r.c.b := ⟨_, rfl⟩
  obtain ⟨one, H1⟩ : ∃ n, n = head1 (wordsN r.c.a r.c.b) r.c.a r.c.c := ⟨_, rfl⟩
  obtain ⟨two, H2⟩ : ∃ n, n = head2 r.area r.next := ⟨_, rfl⟩
  obtain ⟨m, Hm⟩ : ∃ m, m = ((k * 8 : Nat) : Int) := ⟨_, rfl⟩
  simp only [← H1, ← H2, ← Hm, ← Hn] at He HWd HPk HCl ⊢
  have n0 : 0 ≤ n := by rw [Hn]; unfold wordsN; omega
  have n1 : n ≤ 72 := by rw [Hn]; unfold wordsN; omega
  obtain ⟨t0, t1⟩ := ht
  obtain ⟨a0, a1⟩ := hat
  obtain ⟨x0, x1⟩ := hn
  have hm8 : IntKind.i64.wrap (n * 8) = 8 * n := by rw [Int.mul_comm]; exact IntWalk.i64_in _ (by omega)
  have hm9 : IntKind.u64.wrap (8 * n) = 8 * n := by rw [IntKind.wrap_u64]; omega
  have hnx : IntKind.i64.wrap r.next = r.next := IntWalk.i64_in _ (by omega)
  have htp : IntKind.i64.wrap top = top := IntWalk.i64_in _ (by omega)
  clear H hT hA hk ha hs s8 hw hca hcb hcc hsd hgn hf hHo hwn hh1 hh2 Hn H1 H2 Hm
  obtain ⟨v0, v1, v2, v3, v4, v5, v6, v7, v8, v9, v10, v11, v12, v13, v17, v18, v19, v26, vf12, vf17, vf18, vf19, vz⟩ := tak_box HT.out
  go_enter Try.func35, Try.ntmps35
  go_wp2_with fail
  refine wp_region_held_drew (S := fun W => Tak W g p s t i h r) (by kernel_rfl) (show Tak w.drew g p s t i h r from HT.out) ?_
  intro hS
  have hB0 : Below w.heap.size w w.drew := by go_grown
  generalize w.drew = y0 at hS hB0 ⊢
  clear v0 v1 v2 v3 v4 v5 v6 v7 v8 v9 v10 v11 v12 v13 v17 v18 v19 v26 vf12 vf17 vf18 vf19 vz
  refine wpAnyH_take_at (i := 0) (v := ?v0x37) (some 16) rfl rfl (by kernel_rfl) (by kernel_rfl) (by kernel_rfl) (fun _ _ _ h => h) (Or.inl ⟨by kernel_rfl, ?h0x37⟩) (by assumption) ?r0x37
  case h0x37 => (intro w hSw; obtain ⟨b0, b1, b2, b3, b4, b5, b6, b7, b8, b9, b10, b11, b12, b13, b17, b18, b19, b26, bf12, bf17, bf18, bf19, bz⟩ := tak_box hSw; go_simp; first | done | (with_reducible rfl))
  try simp only [Act.put]
  try simp only [List.setIfInBounds_toArray]
  try simp only [List.set_cons_succ]
  try simp only [List.set_cons_zero]
  refine wpAnyH_take_at (i := 1) (v := ?v1x38) (some 17) rfl rfl (by kernel_rfl) (by kernel_rfl) (by kernel_rfl) (fun _ _ _ h => h) (Or.inl ⟨by kernel_rfl, ?h1x38⟩) (by assumption) ?r1x38
  case h1x38 => (intro w hSw; obtain ⟨b0, b1, b2, b3, b4, b5, b6, b7, b8, b9, b10, b11, b12, b13, b17, b18, b19, b26, bf12, bf17, bf18, bf19, bz⟩ := tak_box hSw; go_simp; first | done | (with_reducible rfl))
  try simp only [Act.put]
  try simp only [List.setIfInBounds_toArray]
  try simp only [List.set_cons_succ]
  try simp only [List.set_cons_zero]
  refine wpAnyH_take_at (i := 2) (v := ?v2x39) (some 18) rfl rfl (by kernel_rfl) (by kernel_rfl) (by kernel_rfl) (fun _ _ _ h => h) (Or.inl ⟨by kernel_rfl, ?h2x39⟩) (by assumption) ?r2x39
  case h2x39 => (intro w hSw; obtain ⟨b0, b1, b2, b3, b4, b5, b6, b7, b8, b9, b10, b11, b12, b13, b17, b18, b19, b26, bf12, bf17, bf18, bf19, bz⟩ := tak_box hSw; go_simp; first | done | (with_reducible rfl))
  try simp only [Act.put]
  try simp only [List.setIfInBounds_toArray]
  try simp only [List.set_cons_succ]
  try simp only [List.set_cons_zero]
  refine wpAnyH_take_at (i := 3) (v := ?v3x40) (some 19) rfl rfl (by kernel_rfl) (by kernel_rfl) (by kernel_rfl) (fun _ _ _ h => h) (Or.inl ⟨by kernel_rfl, ?h3x40⟩) (by assumption) ?r3x40
  case h3x40 => (intro w hSw; obtain ⟨b0, b1, b2, b3, b4, b5, b6, b7, b8, b9, b10, b11, b12, b13, b17, b18, b19, b26, bf12, bf17, bf18, bf19, bz⟩ := tak_box hSw; go_simp; first | done | (with_reducible rfl))
  try simp only [Act.put]
  try simp only [List.setIfInBounds_toArray]
  try simp only [List.set_cons_succ]
  try simp only [List.set_cons_zero]
  refine wpAnyH_take_at (i := 4) (v := ?v4x41) (some 20) rfl rfl (by kernel_rfl) (by kernel_rfl) (by kernel_rfl) (fun _ _ _ h => h) (Or.inl ⟨by kernel_rfl, ?h4x41⟩) (by assumption) ?r4x41
  case h4x41 => (intro w hSw; obtain ⟨b0, b1, b2, b3, b4, b5, b6, b7, b8, b9, b10, b11, b12, b13, b17, b18, b19, b26, bf12, bf17, bf18, bf19, bz⟩ := tak_box hSw; go_simp; first | done | (with_reducible rfl))
  try simp only [Act.put]
  try simp only [List.setIfInBounds_toArray]
  try simp only [List.set_cons_succ]
  try simp only [List.set_cons_zero]
  refine wpAnyH_take_at (i := 5) (v := ?v5x42) (some 21) rfl rfl (by kernel_rfl) (by kernel_rfl) (by kernel_rfl) (fun _ _ _ h => h) (Or.inl ⟨by kernel_rfl, ?h5x42⟩) (by assumption) ?r5x42
  case h5x42 => (intro w hSw; obtain ⟨b0, b1, b2, b3, b4, b5, b6, b7, b8, b9, b10, b11, b12, b13, b17, b18, b19, b26, bf12, bf17, bf18, bf19, bz⟩ := tak_box hSw; go_simp; first | done | (with_reducible rfl))
  try simp only [Act.put]
  try simp only [List.setIfInBounds_toArray]
  try simp only [List.set_cons_succ]
  try simp only [List.set_cons_zero]
  refine wpAnyH_take_at (i := 6) (v := ?v6x43) (some 22) rfl rfl (by kernel_rfl) (by kernel_rfl) (by kernel_rfl) (fun _ _ _ h => h) (Or.inl ⟨by kernel_rfl, ?h6x43⟩) (by assumption) ?r6x43
  case h6x43 => (intro w hSw; obtain ⟨b0, b1, b2, b3, b4, b5, b6, b7, b8, b9, b10, b11, b12, b13, b17, b18, b19, b26, bf12, bf17, bf18, bf19, bz⟩ := tak_box hSw; go_simp; first | done | (with_reducible rfl))
  try simp only [Act.put]
  try simp only [List.setIfInBounds_toArray]
  try simp only [List.set_cons_succ]
  try simp only [List.set_cons_zero]
  refine wpAnyH_take_at (i := 7) (v := ?v7x44) (some 23) rfl rfl (by kernel_rfl) (by kernel_rfl) (by kernel_rfl) (fun _ _ _ h => h) (Or.inl ⟨by kernel_rfl, ?h7x44⟩) (by assumption) ?r7x44
  case h7x44 => (intro w hSw; obtain ⟨b0, b1, b2, b3, b4, b5, b6, b7, b8, b9, b10, b11, b12, b13, b17, b18, b19, b26, bf12, bf17, bf18, bf19, bz⟩ := tak_box hSw; go_simp; first | done | (with_reducible rfl))
  try simp only [Act.put]
  try simp only [List.setIfInBounds_toArray]
  try simp only [List.set_cons_succ]
  try simp only [List.set_cons_zero]
  refine wpAnyH_take_at (i := 8) (v := ?v8x45) (some 24) rfl rfl (by kernel_rfl) (by kernel_rfl) (by kernel_rfl) (fun _ _ _ h => h) (Or.inl ⟨by kernel_rfl, ?h8x45⟩) (by assumption) ?r8x45
  case h8x45 => (intro w hSw; obtain ⟨b0, b1, b2, b3, b4, b5, b6, b7, b8, b9, b10, b11, b12, b13, b17, b18, b19, b26, bf12, bf17, bf18, bf19, bz⟩ := tak_box hSw; go_simp; first | done | (with_reducible rfl))
  try simp only [Act.put]
  try simp only [List.setIfInBounds_toArray]
  try simp only [List.set_cons_succ]
  try simp only [List.set_cons_zero]
  refine wpAnyH_take_at (i := 9) (v := ?v9x46) (some 25) rfl rfl (by kernel_rfl) (by kernel_rfl) (by kernel_rfl) (fun _ _ _ h => h) (Or.inl ⟨by kernel_rfl, ?h9x46⟩) (by assumption) ?r9x46
  case h9x46 => (intro w hSw; obtain ⟨b0, b1, b2, b3, b4, b5, b6, b7, b8, b9, b10, b11, b12, b13, b17, b18, b19, b26, bf12, bf17, bf18, bf19, bz⟩ := tak_box hSw; go_simp; first | done | (with_reducible rfl))
  try simp only [Act.put]
  try simp only [List.setIfInBounds_toArray]
  try simp only [List.set_cons_succ]
  try simp only [List.set_cons_zero]
  refine wpAnyH_take_at (i := 10) (v := ?v10x47) (some 26) rfl rfl (by kernel_rfl) (by kernel_rfl) (by kernel_rfl) (fun _ _ _ h => h) (Or.inl ⟨by kernel_rfl, ?h10x47⟩) (by assumption) ?r10x47
  case h10x47 => (intro w hSw; obtain ⟨b0, b1, b2, b3, b4, b5, b6, b7, b8, b9, b10, b11, b12, b13, b17, b18, b19, b26, bf12, bf17, bf18, bf19, bz⟩ := tak_box hSw; go_simp; first | done | (with_reducible rfl))
  try simp only [Act.put]
  try simp only [List.setIfInBounds_toArray]
  try simp only [List.set_cons_succ]
  try simp only [List.set_cons_zero]
  refine wpAnyH_ready (rs := [11]) (by kernel_rfl) (by simp) ?_
  refine AllReadyH.cons rfl (fun K hK => ?_) AllReadyH.nil
  go_simp
  refine k_alloc (fun yZ hZ hb => ?_)
  have hgZ : w.heap.size ≤ y0.heap.size := hB0.size
  replace hB0 := below_only hB0 hb
  obtain ⟨gC, HgZ⟩ : ∃ x, x = y0.heap.size := ⟨_, rfl⟩
  have hlg := lt_of_heap hS
  have hSb := row_below hS hb
  rw [← HgZ] at hZ hgZ hlg ⊢
  clear HgZ hb
  have hgg : g ≠ gC := by omega
  refine hK.out _ _ (hSb) (fun hS => ?_)
  clear hK K
  try simp only [Act.put]
  try simp only [List.setIfInBounds_toArray]
  try simp only [List.set_cons_succ]
  try simp only [List.set_cons_zero]
  clear hSb hlg
  refine wpAnyH_ready (rs := [12]) (by kernel_rfl) (by simp) ?_
  refine AllReadyH.cons rfl (fun K hK => ?_) AllReadyH.nil
  refine step_store_row none rfl rfl 35 (.tmp 2) (.tmp 20) rfl gC #[.int .u8 r.c.op, .int .u8 r.c.r, .int .u8 r.c.h, .int .u8 r.c.v, .int .i64 r.c.a, .int .i64 r.c.b, .int .i64 r.c.c] rfl rfl 35 #[.int .u8 0, .int .u8 0, .int .u8 0, .int .u8 0, .int .i64 0, .int .i64 0, .int .i64 0] hZ infoCal7 rfl (one7 _ _ _ _ _ _ _) ?_
  refine hK.out _ _ ((setRow_other _ _ _ _ hgg).trans hS) (fun hS => ?_)
  clear hK K
  try simp only [Act.put]
  try simp only [List.setIfInBounds_toArray]
  try simp only [List.set_cons_succ]
  try simp only [List.set_cons_zero]
  refine wpAnyH_take_at (i := 13) (v := ?v13x48) (some 3) rfl rfl (by kernel_rfl) (by kernel_rfl) (by kernel_rfl) (fun _ _ _ h => h) (Or.inl ⟨by kernel_rfl, ?h13x48⟩) (by assumption) ?r13x48
  case h13x48 => (intro w hSw; obtain ⟨b0, b1, b2, b3, b4, b5, b6, b7, b8, b9, b10, b11, b12, b13, b17, b18, b19, b26, bf12, bf17, bf18, bf19, bz⟩ := tak_box hSw; go_simp; first | done | (with_reducible rfl))
  try simp only [Act.put]
  try simp only [List.setIfInBounds_toArray]
  try simp only [List.set_cons_succ]
  try simp only [List.set_cons_zero]
  refine wpAnyH_done (by kernel_rfl) ?_ _
  have hq := below_setRow hB0 hgZ #[.int .u8 r.c.op, .int .u8 r.c.r, .int .u8 r.c.h, .int .u8 r.c.v, .int .i64 r.c.a, .int .i64 r.c.b, .int .i64 r.c.c]
  have hZ2 := setRow_heap yZ gC _ #[.int .u8 r.c.op, .int .u8 r.c.r, .int .u8 r.c.h, .int .u8 r.c.v, .int .i64 r.c.a, .int .i64 r.c.b, .int .i64 r.c.c] _ (0, 0) hZ
  generalize yZ.setRow gC #[.int .u8 r.c.op, .int .u8 r.c.r, .int .u8 r.c.h, .int .u8 r.c.v, .int .i64 r.c.a, .int .i64 r.c.b, .int .i64 r.c.c] = y2 at hS hq hZ2 ⊢
  have HT := Lib.hid hS
  have HZ := Lib.hid hZ2
  have HB := Lib.hid hq
  have HgC := Lib.hid hgZ
  obtain ⟨k0, k1, k2, k3, k4, k5, k6⟩ := box7 HZ.out
  clear hS hq hZ2 hZ hB0 hgZ
  go_wp2_with fail
  refine (HWd _).out.mono ?_
  rintro e' w2 ⟨rfl, e2⟩
  rw [e2]
  clear e2 w2
  go_wp2_with fail
  refine wp_region_held_drew (S := fun W => Tak W g p s t i h r ∧ W.heap[gC]? = some (.cells #[.int .u8 r.c.op, .int .u8 r.c.r, .int .u8 r.c.h, .int .u8 r.c.v, .int .i64 r.c.a, .int .i64 r.c.b, .int .i64 r.c.c] 35 (0, 0))) (by kernel_rfl) (show Tak y2.drew g p s t i h r ∧ y2.drew.heap[gC]? = some (.cells #[.int .u8 r.c.op, .int .u8 r.c.r, .int .u8 r.c.h, .int .u8 r.c.v, .int .i64 r.c.a, .int .i64 r.c.b, .int .i64 r.c.c] 35 (0, 0)) from ⟨HT.out, HZ.out⟩) ?_
  intro hS
  have hB0 : Below w.heap.size w y2.drew := below_drewN HB.out 1
  generalize y2.drew = y3 at hS hB0 ⊢
  clear HT HZ HB k0 k1 k2 k3 k4 k5 k6
  refine wpAnyH_take_at (i := 0) (v := ?v0x49) (some 36) rfl rfl (by kernel_rfl) (by kernel_rfl) (by kernel_rfl) (fun _ _ _ h => h) (Or.inl ⟨by kernel_rfl, ?h0x49⟩) (by assumption) ?r0x49
  case h0x49 => (intro w hSw; obtain ⟨hSw, hZw⟩ := hSw; obtain ⟨k0, k1, k2, k3, k4, k5, k6⟩ := box7 hZw; obtain ⟨b0, b1, b2, b3, b4, b5, b6, b7, b8, b9, b10, b11, b12, b13, b17, b18, b19, b26, bf12, bf17, bf18, bf19, bz⟩ := tak_box hSw; go_simp; first | done | (with_reducible rfl))
  try simp only [Act.put]
  try simp only [List.setIfInBounds_toArray]
  try simp only [List.set_cons_succ]
  try simp only [List.set_cons_zero]
  refine wpAnyH_take_at (i := 1) (v := ?v1x50) (some 37) rfl rfl (by kernel_rfl) (by kernel_rfl) (by kernel_rfl) (fun _ _ _ h => h) (Or.inl ⟨by kernel_rfl, ?h1x50⟩) (by assumption) ?r1x50
  case h1x50 => (intro w hSw; obtain ⟨hSw, hZw⟩ := hSw; obtain ⟨k0, k1, k2, k3, k4, k5, k6⟩ := box7 hZw; obtain ⟨b0, b1, b2, b3, b4, b5, b6, b7, b8, b9, b10, b11, b12, b13, b17, b18, b19, b26, bf12, bf17, bf18, bf19, bz⟩ := tak_box hSw; go_simp; first | done | (with_reducible rfl))
  try simp only [Act.put]
  try simp only [List.setIfInBounds_toArray]
  try simp only [List.set_cons_succ]
  try simp only [List.set_cons_zero]
  refine wpAnyH_take_at (i := 2) (v := ?v2x51) (some 38) rfl rfl (by kernel_rfl) (by kernel_rfl) (by kernel_rfl) (fun _ _ _ h => h) (Or.inl ⟨by kernel_rfl, ?h2x51⟩) (by assumption) ?r2x51
  case h2x51 => (intro w hSw; obtain ⟨hSw, hZw⟩ := hSw; obtain ⟨k0, k1, k2, k3, k4, k5, k6⟩ := box7 hZw; obtain ⟨b0, b1, b2, b3, b4, b5, b6, b7, b8, b9, b10, b11, b12, b13, b17, b18, b19, b26, bf12, bf17, bf18, bf19, bz⟩ := tak_box hSw; go_simp; first | done | (with_reducible rfl))
  try simp only [Act.put]
  try simp only [List.setIfInBounds_toArray]
  try simp only [List.set_cons_succ]
  try simp only [List.set_cons_zero]
  refine wpAnyH_take_at (i := 3) (v := ?v3x52) (some 39) rfl rfl (by kernel_rfl) (by kernel_rfl) (by kernel_rfl) (fun _ _ _ h => h) (Or.inl ⟨by kernel_rfl, ?h3x52⟩) (by assumption) ?r3x52
  case h3x52 => (intro w hSw; obtain ⟨hSw, hZw⟩ := hSw; obtain ⟨k0, k1, k2, k3, k4, k5, k6⟩ := box7 hZw; obtain ⟨b0, b1, b2, b3, b4, b5, b6, b7, b8, b9, b10, b11, b12, b13, b17, b18, b19, b26, bf12, bf17, bf18, bf19, bz⟩ := tak_box hSw; go_simp; first | done | (with_reducible rfl))
  try simp only [Act.put]
  try simp only [List.setIfInBounds_toArray]
  try simp only [List.set_cons_succ]
  try simp only [List.set_cons_zero]
  refine wpAnyH_take_at (i := 4) (v := ?v4x53) (some 40) rfl rfl (by kernel_rfl) (by kernel_rfl) (by kernel_rfl) (fun _ _ _ h => h) (Or.inl ⟨by kernel_rfl, ?h4x53⟩) (by assumption) ?r4x53
  case h4x53 => (intro w hSw; obtain ⟨hSw, hZw⟩ := hSw; obtain ⟨k0, k1, k2, k3, k4, k5, k6⟩ := box7 hZw; obtain ⟨b0, b1, b2, b3, b4, b5, b6, b7, b8, b9, b10, b11, b12, b13, b17, b18, b19, b26, bf12, bf17, bf18, bf19, bz⟩ := tak_box hSw; go_simp; first | done | (with_reducible rfl))
  try simp only [Act.put]
  try simp only [List.setIfInBounds_toArray]
  try simp only [List.set_cons_succ]
  try simp only [List.set_cons_zero]
  refine wpAnyH_take_at (i := 5) (v := ?v5x54) (some 41) rfl rfl (by kernel_rfl) (by kernel_rfl) (by kernel_rfl) (fun _ _ _ h => h) (Or.inl ⟨by kernel_rfl, ?h5x54⟩) (by assumption) ?r5x54
  case h5x54 => (intro w hSw; obtain ⟨hSw, hZw⟩ := hSw; obtain ⟨k0, k1, k2, k3, k4, k5, k6⟩ := box7 hZw; obtain ⟨b0, b1, b2, b3, b4, b5, b6, b7, b8, b9, b10, b11, b12, b13, b17, b18, b19, b26, bf12, bf17, bf18, bf19, bz⟩ := tak_box hSw; go_simp; first | done | (with_reducible rfl))
  try simp only [Act.put]
  try simp only [List.setIfInBounds_toArray]
  try simp only [List.set_cons_succ]
  try simp only [List.set_cons_zero]
  refine wpAnyH_take_at (i := 6) (v := ?v6x55) (some 42) rfl rfl (by kernel_rfl) (by kernel_rfl) (by kernel_rfl) (fun _ _ _ h => h) (Or.inl ⟨by kernel_rfl, ?h6x55⟩) (by assumption) ?r6x55
  case h6x55 => (intro w hSw; obtain ⟨hSw, hZw⟩ := hSw; obtain ⟨k0, k1, k2, k3, k4, k5, k6⟩ := box7 hZw; obtain ⟨b0, b1, b2, b3, b4, b5, b6, b7, b8, b9, b10, b11, b12, b13, b17, b18, b19, b26, bf12, bf17, bf18, bf19, bz⟩ := tak_box hSw; go_simp; first | done | (with_reducible rfl))
  try simp only [Act.put]
  try simp only [List.setIfInBounds_toArray]
  try simp only [List.set_cons_succ]
  try simp only [List.set_cons_zero]
  refine wpAnyH_take_at (i := 7) (v := ?v7x56) (some 43) rfl rfl (by kernel_rfl) (by kernel_rfl) (by kernel_rfl) (fun _ _ _ h => h) (Or.inl ⟨by kernel_rfl, ?h7x56⟩) (by assumption) ?r7x56
  case h7x56 => (intro w hSw; obtain ⟨hSw, hZw⟩ := hSw; obtain ⟨k0, k1, k2, k3, k4, k5, k6⟩ := box7 hZw; obtain ⟨b0, b1, b2, b3, b4, b5, b6, b7, b8, b9, b10, b11, b12, b13, b17, b18, b19, b26, bf12, bf17, bf18, bf19, bz⟩ := tak_box hSw; go_simp; first | done | (with_reducible rfl))
  try simp only [Act.put]
  try simp only [List.setIfInBounds_toArray]
  try simp only [List.set_cons_succ]
  try simp only [List.set_cons_zero]
  refine wpAnyH_take_at (i := 8) (v := ?v8x57) (some 44) rfl rfl (by kernel_rfl) (by kernel_rfl) (by kernel_rfl) (fun _ _ _ h => h) (Or.inl ⟨by kernel_rfl, ?h8x57⟩) (by assumption) ?r8x57
  case h8x57 => (intro w hSw; obtain ⟨hSw, hZw⟩ := hSw; obtain ⟨k0, k1, k2, k3, k4, k5, k6⟩ := box7 hZw; obtain ⟨b0, b1, b2, b3, b4, b5, b6, b7, b8, b9, b10, b11, b12, b13, b17, b18, b19, b26, bf12, bf17, bf18, bf19, bz⟩ := tak_box hSw; go_simp; first | done | (with_reducible rfl))
  try simp only [Act.put]
  try simp only [List.setIfInBounds_toArray]
  try simp only [List.set_cons_succ]
  try simp only [List.set_cons_zero]
  refine wpAnyH_take_at (i := 9) (v := ?v9x58) (some 45) rfl rfl (by kernel_rfl) (by kernel_rfl) (by kernel_rfl) (fun _ _ _ h => h) (Or.inl ⟨by kernel_rfl, ?h9x58⟩) (by assumption) ?r9x58
  case h9x58 => (intro w hSw; obtain ⟨hSw, hZw⟩ := hSw; obtain ⟨k0, k1, k2, k3, k4, k5, k6⟩ := box7 hZw; obtain ⟨b0, b1, b2, b3, b4, b5, b6, b7, b8, b9, b10, b11, b12, b13, b17, b18, b19, b26, bf12, bf17, bf18, bf19, bz⟩ := tak_box hSw; go_simp; first | done | (with_reducible rfl))
  try simp only [Act.put]
  try simp only [List.setIfInBounds_toArray]
  try simp only [List.set_cons_succ]
  try simp only [List.set_cons_zero]
  refine wpAnyH_take_at (i := 10) (v := ?v10x59) (some 46) rfl rfl (by kernel_rfl) (by kernel_rfl) (by kernel_rfl) (fun _ _ _ h => h) (Or.inl ⟨by kernel_rfl, ?h10x59⟩) (by assumption) ?r10x59
  case h10x59 => (intro w hSw; obtain ⟨hSw, hZw⟩ := hSw; obtain ⟨k0, k1, k2, k3, k4, k5, k6⟩ := box7 hZw; obtain ⟨b0, b1, b2, b3, b4, b5, b6, b7, b8, b9, b10, b11, b12, b13, b17, b18, b19, b26, bf12, bf17, bf18, bf19, bz⟩ := tak_box hSw; go_simp; first | done | (with_reducible rfl))
  try simp only [Act.put]
  try simp only [List.setIfInBounds_toArray]
  try simp only [List.set_cons_succ]
  try simp only [List.set_cons_zero]
  refine wpAnyH_take_at (i := 11) (v := ?v11x60) (some 47) rfl rfl (by kernel_rfl) (by kernel_rfl) (by kernel_rfl) (fun _ _ _ h => h) (Or.inl ⟨by kernel_rfl, ?h11x60⟩) (by assumption) ?r11x60
  case h11x60 => (intro w hSw; obtain ⟨hSw, hZw⟩ := hSw; obtain ⟨k0, k1, k2, k3, k4, k5, k6⟩ := box7 hZw; obtain ⟨b0, b1, b2, b3, b4, b5, b6, b7, b8, b9, b10, b11, b12, b13, b17, b18, b19, b26, bf12, bf17, bf18, bf19, bz⟩ := tak_box hSw; go_simp; first | done | (with_reducible rfl))
  try simp only [Act.put]
  try simp only [List.setIfInBounds_toArray]
  try simp only [List.set_cons_succ]
  try simp only [List.set_cons_zero]
  refine wpAnyH_ready (rs := [12]) (by kernel_rfl) (by simp) ?_
  refine AllReadyH.cons rfl (fun K hK => ?_) AllReadyH.nil
  go_simp
  refine (HPk _).out.mono ?_
  rintro e' y4 ⟨rfl, hb⟩
  go_simp
  have hB1 := below_only hB0 hb
  refine hK.out _ _ (⟨row_below hS.1 hb, row_below hS.2 hb⟩) (fun hS => ?_)
  clear hK K
  try simp only [Act.put]
  try simp only [List.setIfInBounds_toArray]
  try simp only [List.set_cons_succ]
  try simp only [List.set_cons_zero]
  refine wpAnyH_take_at (i := 13) (v := ?v13x61) (some 35) rfl rfl (by kernel_rfl) (by kernel_rfl) (by kernel_rfl) (fun _ _ _ h => h) (Or.inl ⟨by kernel_rfl, ?h13x61⟩) (by assumption) ?r13x61
  case h13x61 => (intro w hSw; obtain ⟨hSw, hZw⟩ := hSw; obtain ⟨k0, k1, k2, k3, k4, k5, k6⟩ := box7 hZw; obtain ⟨b0, b1, b2, b3, b4, b5, b6, b7, b8, b9, b10, b11, b12, b13, b17, b18, b19, b26, bf12, bf17, bf18, bf19, bz⟩ := tak_box hSw; go_simp; first | done | (with_reducible rfl))
  try simp only [Act.put]
  try simp only [List.setIfInBounds_toArray]
  try simp only [List.set_cons_succ]
  try simp only [List.set_cons_zero]
  refine wpAnyH_take_at (i := 14) (v := ?v14x62) (some 49) rfl rfl (by kernel_rfl) (by kernel_rfl) (by kernel_rfl) (fun _ _ _ h => h) (Or.inl ⟨by kernel_rfl, ?h14x62⟩) (by assumption) ?r14x62
  case h14x62 => (intro w hSw; obtain ⟨hSw, hZw⟩ := hSw; obtain ⟨k0, k1, k2, k3, k4, k5, k6⟩ := box7 hZw; obtain ⟨b0, b1, b2, b3, b4, b5, b6, b7, b8, b9, b10, b11, b12, b13, b17, b18, b19, b26, bf12, bf17, bf18, bf19, bz⟩ := tak_box hSw; go_simp; first | done | (with_reducible rfl))
  try simp only [Act.put]
  try simp only [List.setIfInBounds_toArray]
  try simp only [List.set_cons_succ]
  try simp only [List.set_cons_zero]
  refine wpAnyH_take_at (i := 15) (v := ?v15x63) (some 50) rfl rfl (by kernel_rfl) (by kernel_rfl) (by kernel_rfl) (fun _ _ _ h => h) (Or.inl ⟨by kernel_rfl, ?h15x63⟩) (by assumption) ?r15x63
  case h15x63 => (intro w hSw; obtain ⟨hSw, hZw⟩ := hSw; obtain ⟨k0, k1, k2, k3, k4, k5, k6⟩ := box7 hZw; obtain ⟨b0, b1, b2, b3, b4, b5, b6, b7, b8, b9, b10, b11, b12, b13, b17, b18, b19, b26, bf12, bf17, bf18, bf19, bz⟩ := tak_box hSw; go_simp; first | done | (with_reducible rfl))
  try simp only [Act.put]
  try simp only [List.setIfInBounds_toArray]
  try simp only [List.set_cons_succ]
  try simp only [List.set_cons_zero]
  refine wpAnyH_take_at (i := 16) (v := ?v16x64) (some 51) rfl rfl (by kernel_rfl) (by kernel_rfl) (by kernel_rfl) (fun _ _ _ h => h) (Or.inl ⟨by kernel_rfl, ?h16x64⟩) (by assumption) ?r16x64
  case h16x64 => (intro w hSw; obtain ⟨hSw, hZw⟩ := hSw; obtain ⟨k0, k1, k2, k3, k4, k5, k6⟩ := box7 hZw; obtain ⟨b0, b1, b2, b3, b4, b5, b6, b7, b8, b9, b10, b11, b12, b13, b17, b18, b19, b26, bf12, bf17, bf18, bf19, bz⟩ := tak_box hSw; go_simp; first | done | (with_reducible rfl))
  try simp only [Act.put]
  try simp only [List.setIfInBounds_toArray]
  try simp only [List.set_cons_succ]
  try simp only [List.set_cons_zero]
  refine wpAnyH_take_at (i := 17) (v := ?v17x65) (some 6) rfl rfl (by kernel_rfl) (by kernel_rfl) (by kernel_rfl) (fun _ _ _ h => h) (Or.inl ⟨by kernel_rfl, ?h17x65⟩) (by assumption) ?r17x65
  case h17x65 => (intro w hSw; obtain ⟨hSw, hZw⟩ := hSw; obtain ⟨k0, k1, k2, k3, k4, k5, k6⟩ := box7 hZw; obtain ⟨b0, b1, b2, b3, b4, b5, b6, b7, b8, b9, b10, b11, b12, b13, b17, b18, b19, b26, bf12, bf17, bf18, bf19, bz⟩ := tak_box hSw; go_simp; first | done | (with_reducible rfl))
  try simp only [Act.put]
  try simp only [List.setIfInBounds_toArray]
  try simp only [List.set_cons_succ]
  try simp only [List.set_cons_zero]
  refine wpAnyH_take_at (i := 18) (v := ?v18x66) (some 7) rfl rfl (by kernel_rfl) (by kernel_rfl) (by kernel_rfl) (fun _ _ _ h => h) (Or.inl ⟨by kernel_rfl, ?h18x66⟩) (by assumption) ?r18x66
  case h18x66 => (intro w hSw; obtain ⟨hSw, hZw⟩ := hSw; obtain ⟨k0, k1, k2, k3, k4, k5, k6⟩ := box7 hZw; obtain ⟨b0, b1, b2, b3, b4, b5, b6, b7, b8, b9, b10, b11, b12, b13, b17, b18, b19, b26, bf12, bf17, bf18, bf19, bz⟩ := tak_box hSw; go_simp; first | done | (with_reducible rfl))
  try simp only [Act.put]
  try simp only [List.setIfInBounds_toArray]
  try simp only [List.set_cons_succ]
  try simp only [List.set_cons_zero]
  refine wpAnyH_take_at (i := 19) (v := ?v19x67) (some 8) rfl rfl (by kernel_rfl) (by kernel_rfl) (by kernel_rfl) (fun _ _ _ h => h) (Or.inl ⟨by kernel_rfl, ?h19x67⟩) (by assumption) ?r19x67
  case h19x67 => (intro w hSw; obtain ⟨hSw, hZw⟩ := hSw; obtain ⟨k0, k1, k2, k3, k4, k5, k6⟩ := box7 hZw; obtain ⟨b0, b1, b2, b3, b4, b5, b6, b7, b8, b9, b10, b11, b12, b13, b17, b18, b19, b26, bf12, bf17, bf18, bf19, bz⟩ := tak_box hSw; go_simp; first | done | (with_reducible rfl))
  try simp only [Act.put]
  try simp only [List.setIfInBounds_toArray]
  try simp only [List.set_cons_succ]
  try simp only [List.set_cons_zero]
  refine wpAnyH_done (by kernel_rfl) ?_ _
  have HT := Lib.hid hS.1
  have HB := Lib.hid hB1
  clear hS hB1 hB0 hb
  go_wp2_with fail
  refine wp_region_held_drew (S := fun W => Tak W g p s t i h r) (by kernel_rfl) (show Tak y4.drew g p s t i h r from HT.out) ?_
  intro hS
  have hB0 : Below w.heap.size w y4.drew := below_drewN HB.out 1
  generalize y4.drew = y5 at hS hB0 ⊢
  clear HT HB
  refine wpAnyH_take_at (i := 0) (v := ?v0x68) (some 53) rfl rfl (by kernel_rfl) (by kernel_rfl) (by kernel_rfl) (fun _ _ _ h => h) (Or.inl ⟨by kernel_rfl, ?h0x68⟩) (by assumption) ?r0x68
  case h0x68 => (intro w hSw; obtain ⟨b0, b1, b2, b3, b4, b5, b6, b7, b8, b9, b10, b11, b12, b13, b17, b18, b19, b26, bf12, bf17, bf18, bf19, bz⟩ := tak_box hSw; go_simp; first | done | (with_reducible rfl))
  try simp only [Act.put]
  try simp only [List.setIfInBounds_toArray]
  try simp only [List.set_cons_succ]
  try simp only [List.set_cons_zero]
  refine wpAnyH_take_at (i := 1) (v := ?v1x69) (some 54) rfl rfl (by kernel_rfl) (by kernel_rfl) (by kernel_rfl) (fun _ _ _ h => h) (Or.inl ⟨by kernel_rfl, ?h1x69⟩) (by assumption) ?r1x69
  case h1x69 => (intro w hSw; obtain ⟨b0, b1, b2, b3, b4, b5, b6, b7, b8, b9, b10, b11, b12, b13, b17, b18, b19, b26, bf12, bf17, bf18, bf19, bz⟩ := tak_box hSw; go_simp; first | done | (with_reducible rfl))
  try simp only [Act.put]
  try simp only [List.setIfInBounds_toArray]
  try simp only [List.set_cons_succ]
  try simp only [List.set_cons_zero]
  refine wpAnyH_take_at (i := 2) (v := ?v2x70) (some 55) rfl rfl (by kernel_rfl) (by kernel_rfl) (by kernel_rfl) (fun _ _ _ h => h) (Or.inl ⟨by kernel_rfl, ?h2x70⟩) (by assumption) ?r2x70
  case h2x70 => (intro w hSw; obtain ⟨b0, b1, b2, b3, b4, b5, b6, b7, b8, b9, b10, b11, b12, b13, b17, b18, b19, b26, bf12, bf17, bf18, bf19, bz⟩ := tak_box hSw; go_simp; first | done | (with_reducible rfl))
  try simp only [Act.put]
  try simp only [List.setIfInBounds_toArray]
  try simp only [List.set_cons_succ]
  try simp only [List.set_cons_zero]
  refine wpAnyH_take_at (i := 3) (v := ?v3x71) (some 56) rfl rfl (by kernel_rfl) (by kernel_rfl) (by kernel_rfl) (fun _ _ _ h => h) (Or.inl ⟨by kernel_rfl, ?h3x71⟩) (by assumption) ?r3x71
  case h3x71 => (intro w hSw; obtain ⟨b0, b1, b2, b3, b4, b5, b6, b7, b8, b9, b10, b11, b12, b13, b17, b18, b19, b26, bf12, bf17, bf18, bf19, bz⟩ := tak_box hSw; go_simp; first | done | (with_reducible rfl))
  try simp only [Act.put]
  try simp only [List.setIfInBounds_toArray]
  try simp only [List.set_cons_succ]
  try simp only [List.set_cons_zero]
  refine wpAnyH_take_at (i := 4) (v := ?v4x72) (some 57) rfl rfl (by kernel_rfl) (by kernel_rfl) (by kernel_rfl) (fun _ _ _ h => h) (Or.inl ⟨by kernel_rfl, ?h4x72⟩) (by assumption) ?r4x72
  case h4x72 => (intro w hSw; obtain ⟨b0, b1, b2, b3, b4, b5, b6, b7, b8, b9, b10, b11, b12, b13, b17, b18, b19, b26, bf12, bf17, bf18, bf19, bz⟩ := tak_box hSw; go_simp; first | done | (with_reducible rfl))
  try simp only [Act.put]
  try simp only [List.setIfInBounds_toArray]
  try simp only [List.set_cons_succ]
  try simp only [List.set_cons_zero]
  refine wpAnyH_take_at (i := 5) (v := ?v5x73) (some 58) rfl rfl (by kernel_rfl) (by kernel_rfl) (by kernel_rfl) (fun _ _ _ h => h) (Or.inl ⟨by kernel_rfl, ?h5x73⟩) (by assumption) ?r5x73
  case h5x73 => (intro w hSw; obtain ⟨b0, b1, b2, b3, b4, b5, b6, b7, b8, b9, b10, b11, b12, b13, b17, b18, b19, b26, bf12, bf17, bf18, bf19, bz⟩ := tak_box hSw; go_simp; first | done | (with_reducible rfl))
  try simp only [Act.put]
  try simp only [List.setIfInBounds_toArray]
  try simp only [List.set_cons_succ]
  try simp only [List.set_cons_zero]
  refine wpAnyH_take_at (i := 6) (v := ?v6x74) (some 59) rfl rfl (by kernel_rfl) (by kernel_rfl) (by kernel_rfl) (fun _ _ _ h => h) (Or.inl ⟨by kernel_rfl, ?h6x74⟩) (by assumption) ?r6x74
  case h6x74 => (intro w hSw; obtain ⟨b0, b1, b2, b3, b4, b5, b6, b7, b8, b9, b10, b11, b12, b13, b17, b18, b19, b26, bf12, bf17, bf18, bf19, bz⟩ := tak_box hSw; go_simp; first | done | (with_reducible rfl))
  try simp only [Act.put]
  try simp only [List.setIfInBounds_toArray]
  try simp only [List.set_cons_succ]
  try simp only [List.set_cons_zero]
  refine wpAnyH_take_at (i := 7) (v := ?v7x75) (some 60) rfl rfl (by kernel_rfl) (by kernel_rfl) (by kernel_rfl) (fun _ _ _ h => h) (Or.inl ⟨by kernel_rfl, ?h7x75⟩) (by assumption) ?r7x75
  case h7x75 => (intro w hSw; obtain ⟨b0, b1, b2, b3, b4, b5, b6, b7, b8, b9, b10, b11, b12, b13, b17, b18, b19, b26, bf12, bf17, bf18, bf19, bz⟩ := tak_box hSw; go_simp; first | done | (with_reducible rfl))
  try simp only [Act.put]
  try simp only [List.setIfInBounds_toArray]
  try simp only [List.set_cons_succ]
  try simp only [List.set_cons_zero]
  refine wpAnyH_take_at (i := 8) (v := ?v8x76) (some 61) rfl rfl (by kernel_rfl) (by kernel_rfl) (by kernel_rfl) (fun _ _ _ h => h) (Or.inl ⟨by kernel_rfl, ?h8x76⟩) (by assumption) ?r8x76
  case h8x76 => (intro w hSw; obtain ⟨b0, b1, b2, b3, b4, b5, b6, b7, b8, b9, b10, b11, b12, b13, b17, b18, b19, b26, bf12, bf17, bf18, bf19, bz⟩ := tak_box hSw; go_simp; first | done | (with_reducible rfl))
  try simp only [Act.put]
  try simp only [List.setIfInBounds_toArray]
  try simp only [List.set_cons_succ]
  try simp only [List.set_cons_zero]
  refine wpAnyH_ready (rs := [9]) (by kernel_rfl) (by simp) ?_
  refine AllReadyH.cons rfl (fun K hK => ?_) AllReadyH.nil
  go_simp
  refine (HP _).out.mono ?_
  rintro e' y6 ⟨rfl, hb⟩
  rw [He.out]
  go_simp
  have hB1 := below_only hB0 hb
  refine hK.out _ _ (row_below hS hb) (fun hS => ?_)
  clear hK K
  try simp only [Act.put]
  try simp only [List.setIfInBounds_toArray]
  try simp only [List.set_cons_succ]
  try simp only [List.set_cons_zero]
  refine wpAnyH_take_at (i := 10) (v := ?v10x77) (some 52) rfl rfl (by kernel_rfl) (by kernel_rfl) (by kernel_rfl) (fun _ _ _ h => h) (Or.inl ⟨by kernel_rfl, ?h10x77⟩) (by assumption) ?r10x77
  case h10x77 => (intro w hSw; obtain ⟨b0, b1, b2, b3, b4, b5, b6, b7, b8, b9, b10, b11, b12, b13, b17, b18, b19, b26, bf12, bf17, bf18, bf19, bz⟩ := tak_box hSw; go_simp; first | done | (with_reducible rfl))
  try simp only [Act.put]
  try simp only [List.setIfInBounds_toArray]
  try simp only [List.set_cons_succ]
  try simp only [List.set_cons_zero]
  refine wpAnyH_take_at (i := 11) (v := ?v11x78) (some 63) rfl rfl (by kernel_rfl) (by kernel_rfl) (by kernel_rfl) (fun _ _ _ h => h) (Or.inl ⟨by kernel_rfl, ?h11x78⟩) (by assumption) ?r11x78
  case h11x78 => (intro w hSw; obtain ⟨b0, b1, b2, b3, b4, b5, b6, b7, b8, b9, b10, b11, b12, b13, b17, b18, b19, b26, bf12, bf17, bf18, bf19, bz⟩ := tak_box hSw; go_simp; first | done | (with_reducible rfl))
  try simp only [Act.put]
  try simp only [List.setIfInBounds_toArray]
  try simp only [List.set_cons_succ]
  try simp only [List.set_cons_zero]
  refine wpAnyH_take_at (i := 12) (v := ?v12x79) (some 64) rfl rfl (by kernel_rfl) (by kernel_rfl) (by kernel_rfl) (fun _ _ _ h => h) (Or.inl ⟨by kernel_rfl, ?h12x79⟩) (by assumption) ?r12x79
  case h12x79 => (intro w hSw; obtain ⟨b0, b1, b2, b3, b4, b5, b6, b7, b8, b9, b10, b11, b12, b13, b17, b18, b19, b26, bf12, bf17, bf18, bf19, bz⟩ := tak_box hSw; go_simp; first | done | (with_reducible rfl))
  try simp only [Act.put]
  try simp only [List.setIfInBounds_toArray]
  try simp only [List.set_cons_succ]
  try simp only [List.set_cons_zero]
  refine wpAnyH_take_at (i := 13) (v := ?v13x80) (some 9) rfl rfl (by kernel_rfl) (by kernel_rfl) (by kernel_rfl) (fun _ _ _ h => h) (Or.inl ⟨by kernel_rfl, ?h13x80⟩) (by assumption) ?r13x80
  case h13x80 => (intro w hSw; obtain ⟨b0, b1, b2, b3, b4, b5, b6, b7, b8, b9, b10, b11, b12, b13, b17, b18, b19, b26, bf12, bf17, bf18, bf19, bz⟩ := tak_box hSw; go_simp; first | done | (with_reducible rfl))
  try simp only [Act.put]
  try simp only [List.setIfInBounds_toArray]
  try simp only [List.set_cons_succ]
  try simp only [List.set_cons_zero]
  refine wpAnyH_take_at (i := 14) (v := ?v14x81) (some 10) rfl rfl (by kernel_rfl) (by kernel_rfl) (by kernel_rfl) (fun _ _ _ h => h) (Or.inl ⟨by kernel_rfl, ?h14x81⟩) (by assumption) ?r14x81
  case h14x81 => (intro w hSw; obtain ⟨b0, b1, b2, b3, b4, b5, b6, b7, b8, b9, b10, b11, b12, b13, b17, b18, b19, b26, bf12, bf17, bf18, bf19, bz⟩ := tak_box hSw; go_simp; first | done | (with_reducible rfl))
  try simp only [Act.put]
  try simp only [List.setIfInBounds_toArray]
  try simp only [List.set_cons_succ]
  try simp only [List.set_cons_zero]
  refine wpAnyH_done (by kernel_rfl) ?_ _
  have HT := Lib.hid hS
  have HB := Lib.hid hB1
  clear hS hB1 hB0 hb
  go_wp2_with fail
  refine wp_region_held_drew (S := fun W => Tak W g p s t i h r) (by kernel_rfl) (show Tak y6.drew g p s t i h r from HT.out) ?_
  intro hS
  have hB0 : Below w.heap.size w y6.drew := below_drewN HB.out 1
  have hA0 := HA.out.below hB0
  generalize y6.drew = y7 at hS hB0 hA0 ⊢
  clear HT HB
  refine wpAnyH_take_at (i := 0) (v := ?v0x82) (some 66) rfl rfl (by kernel_rfl) (by kernel_rfl) (by kernel_rfl) (fun _ _ _ h => h) (Or.inl ⟨by kernel_rfl, ?h0x82⟩) (by assumption) ?r0x82
  case h0x82 => (intro w hSw; obtain ⟨b0, b1, b2, b3, b4, b5, b6, b7, b8, b9, b10, b11, b12, b13, b17, b18, b19, b26, bf12, bf17, bf18, bf19, bz⟩ := tak_box hSw; go_simp; first | done | (with_reducible rfl))
  try simp only [Act.put]
  try simp only [List.setIfInBounds_toArray]
  try simp only [List.set_cons_succ]
  try simp only [List.set_cons_zero]
  refine wpAnyH_take_at (i := 1) (v := ?v1x83) (some 67) rfl rfl (by kernel_rfl) (by kernel_rfl) (by kernel_rfl) (fun _ _ _ h => h) (Or.inl ⟨by kernel_rfl, ?h1x83⟩) (by assumption) ?r1x83
  case h1x83 => (intro w hSw; obtain ⟨b0, b1, b2, b3, b4, b5, b6, b7, b8, b9, b10, b11, b12, b13, b17, b18, b19, b26, bf12, bf17, bf18, bf19, bz⟩ := tak_box hSw; go_simp; first | done | (with_reducible rfl))
  try simp only [Act.put]
  try simp only [List.setIfInBounds_toArray]
  try simp only [List.set_cons_succ]
  try simp only [List.set_cons_zero]
  refine wpAnyH_take_at (i := 2) (v := ?v2x84) (some 68) rfl rfl (by kernel_rfl) (by kernel_rfl) (by kernel_rfl) (fun _ _ _ h => h) (Or.inl ⟨by kernel_rfl, ?h2x84⟩) (by assumption) ?r2x84
  case h2x84 => (intro w hSw; obtain ⟨b0, b1, b2, b3, b4, b5, b6, b7, b8, b9, b10, b11, b12, b13, b17, b18, b19, b26, bf12, bf17, bf18, bf19, bz⟩ := tak_box hSw; go_simp; first | done | (with_reducible rfl))
  try simp only [Act.put]
  try simp only [List.setIfInBounds_toArray]
  try simp only [List.set_cons_succ]
  try simp only [List.set_cons_zero]
  refine wpAnyH_take_at (i := 3) (v := ?v3x85) (some 69) rfl rfl (by kernel_rfl) (by kernel_rfl) (by kernel_rfl) (fun _ _ _ h => h) (Or.inl ⟨by kernel_rfl, ?h3x85⟩) (by assumption) ?r3x85
  case h3x85 => (intro w hSw; obtain ⟨b0, b1, b2, b3, b4, b5, b6, b7, b8, b9, b10, b11, b12, b13, b17, b18, b19, b26, bf12, bf17, bf18, bf19, bz⟩ := tak_box hSw; go_simp; first | done | (with_reducible rfl))
  try simp only [Act.put]
  try simp only [List.setIfInBounds_toArray]
  try simp only [List.set_cons_succ]
  try simp only [List.set_cons_zero]
  refine wpAnyH_take_at (i := 4) (v := ?v4x86) (some 70) rfl rfl (by kernel_rfl) (by kernel_rfl) (by kernel_rfl) (fun _ _ _ h => h) (Or.inl ⟨by kernel_rfl, ?h4x86⟩) (by assumption) ?r4x86
  case h4x86 => (intro w hSw; obtain ⟨b0, b1, b2, b3, b4, b5, b6, b7, b8, b9, b10, b11, b12, b13, b17, b18, b19, b26, bf12, bf17, bf18, bf19, bz⟩ := tak_box hSw; go_simp; first | done | (with_reducible rfl))
  try simp only [Act.put]
  try simp only [List.setIfInBounds_toArray]
  try simp only [List.set_cons_succ]
  try simp only [List.set_cons_zero]
  refine wpAnyH_take_at (i := 5) (v := ?v5x87) (some 71) rfl rfl (by kernel_rfl) (by kernel_rfl) (by kernel_rfl) (fun _ _ _ h => h) (Or.inl ⟨by kernel_rfl, ?h5x87⟩) (by assumption) ?r5x87
  case h5x87 => (intro w hSw; obtain ⟨b0, b1, b2, b3, b4, b5, b6, b7, b8, b9, b10, b11, b12, b13, b17, b18, b19, b26, bf12, bf17, bf18, bf19, bz⟩ := tak_box hSw; go_simp; first | done | (with_reducible rfl))
  try simp only [Act.put]
  try simp only [List.setIfInBounds_toArray]
  try simp only [List.set_cons_succ]
  try simp only [List.set_cons_zero]
  refine wpAnyH_take_at (i := 6) (v := ?v6x88) (some 72) rfl rfl (by kernel_rfl) (by kernel_rfl) (by kernel_rfl) (fun _ _ _ h => h) (Or.inl ⟨by kernel_rfl, ?h6x88⟩) (by assumption) ?r6x88
  case h6x88 => (intro w hSw; obtain ⟨b0, b1, b2, b3, b4, b5, b6, b7, b8, b9, b10, b11, b12, b13, b17, b18, b19, b26, bf12, bf17, bf18, bf19, bz⟩ := tak_box hSw; go_simp; first | done | (with_reducible rfl))
  try simp only [Act.put]
  try simp only [List.setIfInBounds_toArray]
  try simp only [List.set_cons_succ]
  try simp only [List.set_cons_zero]
  refine wpAnyH_take_at (i := 7) (v := ?v7x89) (some 73) rfl rfl (by kernel_rfl) (by kernel_rfl) (by kernel_rfl) (fun _ _ _ h => h) (Or.inl ⟨by kernel_rfl, ?h7x89⟩) (by assumption) ?r7x89
  case h7x89 => (intro w hSw; obtain ⟨b0, b1, b2, b3, b4, b5, b6, b7, b8, b9, b10, b11, b12, b13, b17, b18, b19, b26, bf12, bf17, bf18, bf19, bz⟩ := tak_box hSw; go_simp; first | done | (with_reducible rfl))
  try simp only [Act.put]
  try simp only [List.setIfInBounds_toArray]
  try simp only [List.set_cons_succ]
  try simp only [List.set_cons_zero]
  refine wpAnyH_take_at (i := 8) (v := ?v8x90) (some 74) rfl rfl (by kernel_rfl) (by kernel_rfl) (by kernel_rfl) (fun _ _ _ h => h) (Or.inl ⟨by kernel_rfl, ?h8x90⟩) (by assumption) ?r8x90
  case h8x90 => (intro w hSw; obtain ⟨b0, b1, b2, b3, b4, b5, b6, b7, b8, b9, b10, b11, b12, b13, b17, b18, b19, b26, bf12, bf17, bf18, bf19, bz⟩ := tak_box hSw; go_simp; first | done | (with_reducible rfl))
  try simp only [Act.put]
  try simp only [List.setIfInBounds_toArray]
  try simp only [List.set_cons_succ]
  try simp only [List.set_cons_zero]
  refine wpAnyH_take_at (i := 9) (v := ?v9x91) (some 75) rfl rfl (by kernel_rfl) (by kernel_rfl) (by kernel_rfl) (fun _ _ _ h => h) (Or.inl ⟨by kernel_rfl, ?h9x91⟩) (by assumption) ?r9x91
  case h9x91 => (intro w hSw; obtain ⟨b0, b1, b2, b3, b4, b5, b6, b7, b8, b9, b10, b11, b12, b13, b17, b18, b19, b26, bf12, bf17, bf18, bf19, bz⟩ := tak_box hSw; go_simp; first | done | (with_reducible rfl))
  try simp only [Act.put]
  try simp only [List.setIfInBounds_toArray]
  try simp only [List.set_cons_succ]
  try simp only [List.set_cons_zero]
  refine wpAnyH_take_at (i := 10) (v := ?v10x92) (some 76) rfl rfl (by kernel_rfl) (by kernel_rfl) (by kernel_rfl) (fun _ _ _ h => h) (Or.inl ⟨by kernel_rfl, ?h10x92⟩) (by assumption) ?r10x92
  case h10x92 => (intro w hSw; obtain ⟨b0, b1, b2, b3, b4, b5, b6, b7, b8, b9, b10, b11, b12, b13, b17, b18, b19, b26, bf12, bf17, bf18, bf19, bz⟩ := tak_box hSw; go_simp; first | done | (with_reducible rfl))
  try simp only [Act.put]
  try simp only [List.setIfInBounds_toArray]
  try simp only [List.set_cons_succ]
  try simp only [List.set_cons_zero]
  refine wpAnyH_take_at (i := 11) (v := ?v11x93) (some 77) rfl rfl (by kernel_rfl) (by kernel_rfl) (by kernel_rfl) (fun _ _ _ h => h) (Or.inl ⟨by kernel_rfl, ?h11x93⟩) (by assumption) ?r11x93
  case h11x93 => (intro w hSw; obtain ⟨b0, b1, b2, b3, b4, b5, b6, b7, b8, b9, b10, b11, b12, b13, b17, b18, b19, b26, bf12, bf17, bf18, bf19, bz⟩ := tak_box hSw; go_simp; first | done | (with_reducible rfl))
  try simp only [Act.put]
  try simp only [List.setIfInBounds_toArray]
  try simp only [List.set_cons_succ]
  try simp only [List.set_cons_zero]
  refine wpAnyH_take_at (i := 12) (v := ?v12x94) (some 78) rfl rfl (by kernel_rfl) (by kernel_rfl) (by kernel_rfl) (fun _ _ _ h => h) (Or.inl ⟨by kernel_rfl, ?h12x94⟩) (by assumption) ?r12x94
  case h12x94 => (intro w hSw; obtain ⟨b0, b1, b2, b3, b4, b5, b6, b7, b8, b9, b10, b11, b12, b13, b17, b18, b19, b26, bf12, bf17, bf18, bf19, bz⟩ := tak_box hSw; go_simp; first | done | (with_reducible rfl))
  try simp only [Act.put]
  try simp only [List.setIfInBounds_toArray]
  try simp only [List.set_cons_succ]
  try simp only [List.set_cons_zero]
  refine wpAnyH_take_at (i := 13) (v := ?v13x95) (some 79) rfl rfl (by kernel_rfl) (by kernel_rfl) (by kernel_rfl) (fun _ _ _ h => h) (Or.inl ⟨by kernel_rfl, ?h13x95⟩) (by assumption) ?r13x95
  case h13x95 => (intro w hSw; obtain ⟨b0, b1, b2, b3, b4, b5, b6, b7, b8, b9, b10, b11, b12, b13, b17, b18, b19, b26, bf12, bf17, bf18, bf19, bz⟩ := tak_box hSw; go_simp; first | done | (with_reducible rfl))
  try simp only [Act.put]
  try simp only [List.setIfInBounds_toArray]
  try simp only [List.set_cons_succ]
  try simp only [List.set_cons_zero]
  refine wpAnyH_take_at (i := 14) (v := ?v14x96) (some 80) rfl rfl (by kernel_rfl) (by kernel_rfl) (by kernel_rfl) (fun _ _ _ h => h) (Or.inl ⟨by kernel_rfl, ?h14x96⟩) (by assumption) ?r14x96
  case h14x96 => (intro w hSw; obtain ⟨b0, b1, b2, b3, b4, b5, b6, b7, b8, b9, b10, b11, b12, b13, b17, b18, b19, b26, bf12, bf17, bf18, bf19, bz⟩ := tak_box hSw; go_simp; first | done | (with_reducible rfl))
  try simp only [Act.put]
  try simp only [List.setIfInBounds_toArray]
  try simp only [List.set_cons_succ]
  try simp only [List.set_cons_zero]
  refine wpAnyH_take_at (i := 15) (v := ?v15x97) (some 81) rfl rfl (by kernel_rfl) (by kernel_rfl) (by kernel_rfl) (fun _ _ _ h => h) (Or.inl ⟨by kernel_rfl, ?h15x97⟩) (by assumption) ?r15x97
  case h15x97 => (intro w hSw; obtain ⟨b0, b1, b2, b3, b4, b5, b6, b7, b8, b9, b10, b11, b12, b13, b17, b18, b19, b26, bf12, bf17, bf18, bf19, bz⟩ := tak_box hSw; go_simp; first | done | (with_reducible rfl))
  try simp only [Act.put]
  try simp only [List.setIfInBounds_toArray]
  try simp only [List.set_cons_succ]
  try simp only [List.set_cons_zero]
  refine wpAnyH_take_at (i := 16) (v := ?v16x98) (some 82) rfl rfl (by kernel_rfl) (by kernel_rfl) (by kernel_rfl) (fun _ _ _ h => h) (Or.inl ⟨by kernel_rfl, ?h16x98⟩) (by assumption) ?r16x98
  case h16x98 => (intro w hSw; obtain ⟨b0, b1, b2, b3, b4, b5, b6, b7, b8, b9, b10, b11, b12, b13, b17, b18, b19, b26, bf12, bf17, bf18, bf19, bz⟩ := tak_box hSw; go_simp; first | done | (with_reducible rfl))
  try simp only [Act.put]
  try simp only [List.setIfInBounds_toArray]
  try simp only [List.set_cons_succ]
  try simp only [List.set_cons_zero]
  refine wpAnyH_take_at (i := 17) (v := ?v17x99) (some 83) rfl rfl (by kernel_rfl) (by kernel_rfl) (by kernel_rfl) (fun _ _ _ h => h) (Or.inl ⟨by kernel_rfl, ?h17x99⟩) (by assumption) ?r17x99
  case h17x99 => (intro w hSw; obtain ⟨b0, b1, b2, b3, b4, b5, b6, b7, b8, b9, b10, b11, b12, b13, b17, b18, b19, b26, bf12, bf17, bf18, bf19, bz⟩ := tak_box hSw; go_simp; first | done | (with_reducible rfl))
  try simp only [Act.put]
  try simp only [List.setIfInBounds_toArray]
  try simp only [List.set_cons_succ]
  try simp only [List.set_cons_zero]
  refine wpAnyH_take_at (i := 18) (v := ?v18x100) (some 84) rfl rfl (by kernel_rfl) (by kernel_rfl) (by kernel_rfl) (fun _ _ _ h => h) (Or.inl ⟨by kernel_rfl, ?h18x100⟩) (by assumption) ?r18x100
  case h18x100 => (intro w hSw; obtain ⟨b0, b1, b2, b3, b4, b5, b6, b7, b8, b9, b10, b11, b12, b13, b17, b18, b19, b26, bf12, bf17, bf18, bf19, bz⟩ := tak_box hSw; go_simp; first | done | (with_reducible rfl))
  try simp only [Act.put]
  try simp only [List.setIfInBounds_toArray]
  try simp only [List.set_cons_succ]
  try simp only [List.set_cons_zero]
  refine wpAnyH_take_at (i := 19) (v := ?v19x101) (some 85) rfl rfl (by kernel_rfl) (by kernel_rfl) (by kernel_rfl) (fun _ _ _ h => h) (Or.inl ⟨by kernel_rfl, ?h19x101⟩) (by assumption) ?r19x101
  case h19x101 => (intro w hSw; obtain ⟨b0, b1, b2, b3, b4, b5, b6, b7, b8, b9, b10, b11, b12, b13, b17, b18, b19, b26, bf12, bf17, bf18, bf19, bz⟩ := tak_box hSw; go_simp; first | done | (with_reducible rfl))
  try simp only [Act.put]
  try simp only [List.setIfInBounds_toArray]
  try simp only [List.set_cons_succ]
  try simp only [List.set_cons_zero]
  refine wpAnyH_ready (rs := [20]) (by kernel_rfl) (by simp) ?_
  refine AllReadyH.cons rfl (fun K hK => ?_) AllReadyH.nil
  go_simp
  refine (HCl _ hA0).out.mono ?_
  rintro e' y8 ⟨rfl, e8⟩
  rw [e8]
  clear e8 y8
  go_simp
  refine hK.out _ _ (hS) (fun hS => ?_)
  clear hK K
  try simp only [Act.put]
  try simp only [List.setIfInBounds_toArray]
  try simp only [List.set_cons_succ]
  try simp only [List.set_cons_zero]
  refine wpAnyH_take_at (i := 21) (v := ?v21x102) (some 65) rfl rfl (by kernel_rfl) (by kernel_rfl) (by kernel_rfl) (fun _ _ _ h => h) (Or.inl ⟨by kernel_rfl, ?h21x102⟩) (by assumption) ?r21x102
  case h21x102 => (intro w hSw; obtain ⟨b0, b1, b2, b3, b4, b5, b6, b7, b8, b9, b10, b11, b12, b13, b17, b18, b19, b26, bf12, bf17, bf18, bf19, bz⟩ := tak_box hSw; go_simp; first | done | (with_reducible rfl))
  try simp only [Act.put]
  try simp only [List.setIfInBounds_toArray]
  try simp only [List.set_cons_succ]
  try simp only [List.set_cons_zero]
  refine wpAnyH_take_at (i := 22) (v := ?v22x103) (some 87) rfl rfl (by kernel_rfl) (by kernel_rfl) (by kernel_rfl) (fun _ _ _ h => h) (Or.inl ⟨by kernel_rfl, ?h22x103⟩) (by assumption) ?r22x103
  case h22x103 => (intro w hSw; obtain ⟨b0, b1, b2, b3, b4, b5, b6, b7, b8, b9, b10, b11, b12, b13, b17, b18, b19, b26, bf12, bf17, bf18, bf19, bz⟩ := tak_box hSw; go_simp; first | done | (with_reducible rfl))
  try simp only [Act.put]
  try simp only [List.setIfInBounds_toArray]
  try simp only [List.set_cons_succ]
  try simp only [List.set_cons_zero]
  refine wpAnyH_take_at (i := 23) (v := ?v23x104) (some 88) rfl rfl (by kernel_rfl) (by kernel_rfl) (by kernel_rfl) (fun _ _ _ h => h) (Or.inl ⟨by kernel_rfl, ?h23x104⟩) (by assumption) ?r23x104
  case h23x104 => (intro w hSw; obtain ⟨b0, b1, b2, b3, b4, b5, b6, b7, b8, b9, b10, b11, b12, b13, b17, b18, b19, b26, bf12, bf17, bf18, bf19, bz⟩ := tak_box hSw; go_simp; first | done | (with_reducible rfl))
  try simp only [Act.put]
  try simp only [List.setIfInBounds_toArray]
  try simp only [List.set_cons_succ]
  try simp only [List.set_cons_zero]
  refine wpAnyH_take_at (i := 24) (v := ?v24x105) (some 89) rfl rfl (by kernel_rfl) (by kernel_rfl) (by kernel_rfl) (fun _ _ _ h => h) (Or.inl ⟨by kernel_rfl, ?h24x105⟩) (by assumption) ?r24x105
  case h24x105 => (intro w hSw; obtain ⟨b0, b1, b2, b3, b4, b5, b6, b7, b8, b9, b10, b11, b12, b13, b17, b18, b19, b26, bf12, bf17, bf18, bf19, bz⟩ := tak_box hSw; go_simp; first | done | (with_reducible rfl))
  try simp only [Act.put]
  try simp only [List.setIfInBounds_toArray]
  try simp only [List.set_cons_succ]
  try simp only [List.set_cons_zero]
  refine wpAnyH_take_at (i := 25) (v := ?v25x106) (some 11) rfl rfl (by kernel_rfl) (by kernel_rfl) (by kernel_rfl) (fun _ _ _ h => h) (Or.inl ⟨by kernel_rfl, ?h25x106⟩) (by assumption) ?r25x106
  case h25x106 => (intro w hSw; obtain ⟨b0, b1, b2, b3, b4, b5, b6, b7, b8, b9, b10, b11, b12, b13, b17, b18, b19, b26, bf12, bf17, bf18, bf19, bz⟩ := tak_box hSw; go_simp; first | done | (with_reducible rfl))
  try simp only [Act.put]
  try simp only [List.setIfInBounds_toArray]
  try simp only [List.set_cons_succ]
  try simp only [List.set_cons_zero]
  refine wpAnyH_take_at (i := 26) (v := ?v26x107) (some 12) rfl rfl (by kernel_rfl) (by kernel_rfl) (by kernel_rfl) (fun _ _ _ h => h) (Or.inl ⟨by kernel_rfl, ?h26x107⟩) (by assumption) ?r26x107
  case h26x107 => (intro w hSw; obtain ⟨b0, b1, b2, b3, b4, b5, b6, b7, b8, b9, b10, b11, b12, b13, b17, b18, b19, b26, bf12, bf17, bf18, bf19, bz⟩ := tak_box hSw; go_simp; first | done | (with_reducible rfl))
  try simp only [Act.put]
  try simp only [List.setIfInBounds_toArray]
  try simp only [List.set_cons_succ]
  try simp only [List.set_cons_zero]
  refine wpAnyH_take_at (i := 27) (v := ?v27x108) (some 13) rfl rfl (by kernel_rfl) (by kernel_rfl) (by kernel_rfl) (fun _ _ _ h => h) (Or.inl ⟨by kernel_rfl, ?h27x108⟩) (by assumption) ?r27x108
  case h27x108 => (intro w hSw; obtain ⟨b0, b1, b2, b3, b4, b5, b6, b7, b8, b9, b10, b11, b12, b13, b17, b18, b19, b26, bf12, bf17, bf18, bf19, bz⟩ := tak_box hSw; go_simp; first | done | (with_reducible rfl))
  try simp only [Act.put]
  try simp only [List.setIfInBounds_toArray]
  try simp only [List.set_cons_succ]
  try simp only [List.set_cons_zero]
  refine wpAnyH_done (by kernel_rfl) ?_ _
  have HT := Lib.hid hS
  have HB := Lib.hid hB0
  clear hS hA0 hB0
  obtain ⟨v0, v1, v2, v3, v4, v5, v6, v7, v8, v9, v10, v11, v12, v13, v17, v18, v19, v26, vf12, vf17, vf18, vf19, vz⟩ := tak_box HT.out
  go_wp2_with (refine wpList_load_sub rfl 42 (.tmp 95) rfl g 5 rfl 102 (preArr (takPre p s t i h) r.arr) r.arr (0, 0) _ HT.out (fun j v h => by rw [pre_get _ _ (5 + j) j rfl]; exact h) undRun rfl infoRun ?_)
  refine (tell_any r 17 0 _ HSd.out).mono ?_
  rintro e' z1 ⟨rfl, hb⟩
  replace HT := Lib.hid (row_below HT.out hb)
  replace HB := Lib.hid (below_only HB.out hb)
  clear hb v0 v1 v2 v3 v4 v5 v6 v7 v8 v9 v10 v11 v12 v13 v17 v18 v19 v26 vf12 vf17 vf18 vf19 vz
  go_wp2_with (refine wpList_store_sub rfl 42 (.tmp 99) (.tmp 97) rfl g 5 (toldR r 17 0 noS).arr rfl rfl 102 _ HT.out infoRun (by rw [pre_size]; exact Nat.le_refl _) (Rn.one _) ?_)
  first | go_end0 | refine bodyPost_ret (results_none rfl _ _ _) rfl ?_
  have hC8 : (z1.setRow g (subSet (preArr (takPre p s t i h) r.arr) 5 (toldR r 17 0 noS).arr)).heap[g]? = some (.cells (preArr (takPre p s t i h) (toldR r 17 0 noS).arr) 102 (0, 0)) := (setRow_heap z1 g _ (subSet (preArr (takPre p s t i h) r.arr) 5 (toldR r 17 0 noS).arr) _ (0, 0) HT.out).trans (by rw [pre_sub _ r.arr (toldR r 17 0 noS).arr 5 rfl rfl])
  exact ⟨rfl, hC8, (keep_below HB.out [g]).setRow (.inl (by simp)) _⟩

set_option maxRecDepth 100000 in
set_option maxHeartbeats 4000000 in
theorem takClaim_yes (g p b : Nat) (s t i h : Int) (ws : List Int) (k : Nat) (K : Nat) (z0 z1 : Int) (top : Int) (r : Rn) (w : World) (H : PlanOk s t i h) (hT : Tak w g p s t i h r) (hA : Arn w p b ws) (hk : ws[k]? = some top) (ha : (k : Int) = 8 * r.area + 3) (hs : 0 ≤ r.area ∧ r.area ≤ s - 1) (s8 : s ≤ 8) (ht : 0 ≤ top ∧ top ≤ r.word) (hw : r.word ≤ 65536) (hat : 0 ≤ r.at_ ∧ r.at_ ≤ 65536) (hca : 0 ≤ r.c.a ∧ r.c.a ≤ 6) (hcb : 0 ≤ r.c.b ∧ r.c.b ≤ 512) (hcc : 0 ≤ r.c.c ∧ r.c.c ≤ 7) (hn : 0 ≤ r.next ∧ r.next ≤ 16777215) (hsd : r.said = noS) (hgn : g ≠ p ∧ g ≠ b) (hf : top + 8 * wordsN r.c.a r.c.b ≤ r.word) (hK : ws[K]? = some z0) (hK1 : ws[K + 1]? = some z1) (ne : k < K) (hKe : r.at_ + top = ((K * 8 : Nat) : Int)) (hKb : 1 ≤ K) :
    Calls Try.prog 35 #[.pointer (some ⟨g, 0, none⟩)] w fun e w' => e = .returned (.tuple #[]) ∧ Tak w' g p s t i h (toldR r 0 (hdl r.area r.next (K : Int)) noS) ∧ Arn w' p b (((ws.set k (top + 8 * wordsN r.c.a r.c.b)).set K (head1 (wordsN r.c.a r.c.b) r.c.a r.c.c)).set (K + 1) (head2 r.area r.next)) ∧ Keep [g, b] w w' := by
  have HP := fun w => Lib.hid (planAt_any s t i h 3 r.area w H (by decide) hs)
  have He := Lib.hid (show 64 * r.area + 8 * 3 = ((k * 8 : Nat) : Int) by omega)
  have HT := Lib.hid hT
  have HA := Lib.hid hA
  have HSd := Lib.hid hsd
  have Hgn := Lib.hid hgn
  have HWd := fun w' => Lib.hid (headWords_any r.c.a r.c.b w' hca.1 hca.2 hcb.1 hcb.2)
  have hwn : 2 + r.c.a ≤ wordsN r.c.a r.c.b ∧ wordsN r.c.a r.c.b ≤ 72 := by unfold wordsN; omega
  have hHo : HeadOk (wordsN r.c.a r.c.b) r.c.a r.c.c r.area r.next := ⟨hca, hwn, hcc, by omega, hn⟩
  have HPk := fun w' => Lib.hid (headPack_any (wordsN r.c.a r.c.b) r.c.a r.c.c r.area r.next w' hHo)
  have hh1 : 0 ≤ head1 (wordsN r.c.a r.c.b) r.c.a r.c.c ∧ head1 (wordsN r.c.a r.c.b) r.c.a r.c.c < 18446744073709551616 := by unfold head1; omega
  have hh2 : 0 ≤ head2 r.area r.next ∧ head2 r.area r.next < 18446744073709551616 := by unfold head2; omega
  have HCl := fun w' (h' : Arn w' p b ws) => Lib.hid (arnClaim_yes p b ws k K top (8 * wordsN r.c.a r.c.b) r.word r.at_ (head1 (wordsN r.c.a r.c.b) r.c.a r.c.c) (head2 r.area r.next) z0 z1 w' h' hk hK hK1 ne ht hw (by omega) hat hKe hh1 hh2)
  have hKl : K + 1 < ws.length := (List.getElem?_eq_some_iff.1 hK1).1
  have hsm := hA.small
  have hRb : refB r.area r.next (K : Int) = true := by unfold refB; simp only [Bool.and_eq_true]; exact ⟨⟨inB_t (by omega), inB_t hn⟩, inB_t (by omega)⟩
  have HRp : ∀ w', Hid (Calls Try.prog 81 #[.agg #[.int .i64 r.area, .int .i64 r.next, .int .i64 (r.at_ + top)]] w' fun e w'' => e = .returned (.tuple #[.int .u64 (hdl r.area r.next (K : Int)), .int .i64 0]) ∧ Below w'.heap.size w' w'') := fun w' => Lib.hid (by
    have h9 := refpack_any r.area r.next (K : Int) (r.at_ + top) w' (by omega) (by omega) hn.1 (by omega) (by omega) (by omega) (by omega)
    rw [hRb] at h9
    exact h9)
  have hdb : 0 ≤ hdl r.area r.next (K : Int) ∧ hdl r.area r.next (K : Int) ≤ 9223372036854775807 := by unfold hdl; omega
  have hat8 : IntKind.i64.wrap (r.at_ + top) = r.at_ + top := IntWalk.i64_in _ (by omega)
  obtain ⟨n, Hn⟩ : ∃ n, n = wordsN r.c.a r.c.b := ⟨_, rfl⟩
  obtain ⟨one, H1⟩ : ∃ n, n = head1 (wordsN r.c.a r.c.b) r.c.a r.c.c := ⟨_, rfl⟩
  obtain ⟨two, H2⟩ : ∃ n, n = head2 r.area r.next := ⟨_, rfl⟩
  obtain ⟨m, Hm⟩ : ∃ m, m = ((k * 8 : Nat) : Int) := ⟨_, rfl⟩
  obtain ⟨hd, Hh⟩ : ∃ n, n = hdl r.area r.next (K : Int) := ⟨_, rfl⟩
  simp only [← H1, ← H2, ← Hm, ← Hn, ← Hh] at He HWd HPk HCl HRp hdb ⊢
  obtain ⟨d0, d1⟩ := hdb
  have n0 : 0 ≤ n := by rw [Hn]; unfold wordsN; omega
  have n1 : n ≤ 72 := by rw [Hn]; unfold wordsN; omega
  obtain ⟨t0, t1⟩ := ht
  obtain ⟨a0, a1⟩ := hat
  obtain ⟨x0, x1⟩ := hn
  have hm8 : IntKind.i64.wrap (n * 8) = 8 * n := by rw [Int.mul_comm]; exact IntWalk.i64_in _ (by omega)
  have hm9 : IntKind.u64.wrap (8 * n) = 8 * n := by rw [IntKind.wrap_u64]; omega
  have hnx : IntKind.i64.wrap r.next = r.next := IntWalk.i64_in _ (by omega)
  have htp : IntKind.i64.wrap top = top := IntWalk.i64_in _ (by omega)
  clear H hT hA hk ha hs s8 hw hca hcb hcc hsd hgn hf hHo hwn hh1 hh2 Hn H1 H2 Hm hK hK1 ne hKe hKb hKl hsm hRb Hh
  obtain ⟨v0, v1, v2, v3, v4, v5, v6, v7, v8, v9, v10, v11, v12, v13, v17, v18, v19, v26, vf12, vf17, vf18, vf19, vz⟩ := tak_box HT.out
  go_enter Try.func35, Try.ntmps35
  go_wp2_with fail
  refine wp_region_held_drew (S := fun W => Tak W g p s t i h r) (by kernel_rfl) (show Tak w.drew g p s t i h r from HT.out) ?_
  intro hS
  have hB0 : Below w.heap.size w w.drew := by go_grown
  generalize w.drew = y0 at hS hB0 ⊢
  clear v0 v1 v2 v3 v4 v5 v6 v7 v8 v9 v10 v11 v12 v13 v17 v18 v19 v26 vf12 vf17 vf18 vf19 vz
  refine wpAnyH_take_at (i := 0) (v := ?v0x109) (some 16) rfl rfl (by kernel_rfl) (by kernel_rfl) (by kernel_rfl) (fun _ _ _ h => h) (Or.inl ⟨by kernel_rfl, ?h0x109⟩) (by assumption) ?r0x109
  case h0x109 => (intro w hSw; obtain ⟨b0, b1, b2, b3, b4, b5, b6, b7, b8, b9, b10, b11, b12, b13, b17, b18, b19, b26, bf12, bf17, bf18, bf19, bz⟩ := tak_box hSw; go_simp; first | done | (with_reducible rfl))
  try simp only [Act.put]
  try simp only [List.setIfInBounds_toArray]
  try simp only [List.set_cons_succ]
  try simp only [List.set_cons_zero]
  refine wpAnyH_take_at (i := 1) (v := ?v1x110) (some 17) rfl rfl (by kernel_rfl) (by kernel_rfl) (by kernel_rfl) (fun _ _ _ h => h) (Or.inl ⟨by kernel_rfl, ?h1x110⟩) (by assumption) ?r1x110
  case h1x110 => (intro w hSw; obtain ⟨b0, b1, b2, b3, b4, b5, b6, b7, b8, b9, b10, b11, b12, b13, b17, b18, b19, b26, bf12, bf17, bf18, bf19, bz⟩ := tak_box hSw; go_simp; first | done | (with_reducible rfl))
  try simp only [Act.put]
  try simp only [List.setIfInBounds_toArray]
  try simp only [List.set_cons_succ]
  try simp only [List.set_cons_zero]
  refine wpAnyH_take_at (i := 2) (v := ?v2x111) (some 18) rfl rfl (by kernel_rfl) (by kernel_rfl) (by kernel_rfl) (fun _ _ _ h => h) (Or.inl ⟨by kernel_rfl, ?h2x111⟩) (by assumption) ?r2x111
  case h2x111 => (intro w hSw; obtain ⟨b0, b1, b2, b3, b4, b5, b6, b7, b8, b9, b10, b11, b12, b13, b17, b18, b19, b26, bf12, bf17, bf18, bf19, bz⟩ := tak_box hSw; go_simp; first | done | (with_reducible rfl))
  try simp only [Act.put]
  try simp only [List.setIfInBounds_toArray]
  try simp only [List.set_cons_succ]
  try simp only [List.set_cons_zero]
  refine wpAnyH_take_at (i := 3) (v := ?v3x112) (some 19) rfl rfl (by kernel_rfl) (by kernel_rfl) (by kernel_rfl) (fun _ _ _ h => h) (Or.inl ⟨by kernel_rfl, ?h3x112⟩) (by assumption) ?r3x112
  case h3x112 => (intro w hSw; obtain ⟨b0, b1, b2, b3, b4, b5, b6, b7, b8, b9, b10, b11, b12, b13, b17, b18, b19, b26, bf12, bf17, bf18, bf19, bz⟩ := tak_box hSw; go_simp; first | done | (with_reducible rfl))
  try simp only [Act.put]
  try simp only [List.setIfInBounds_toArray]
  try simp only [List.set_cons_succ]
  try simp only [List.set_cons_zero]
  refine wpAnyH_take_at (i := 4) (v := ?v4x113) (some 20) rfl rfl (by kernel_rfl) (by kernel_rfl) (by kernel_rfl) (fun _ _ _ h => h) (Or.inl ⟨by kernel_rfl, ?h4x113⟩) (by assumption) ?r4x113
  case h4x113 => (intro w hSw; obtain ⟨b0, b1, b2, b3, b4, b5, b6, b7, b8, b9, b10, b11, b12, b13, b17, b18, b19, b26, bf12, bf17, bf18, bf19, bz⟩ := tak_box hSw; go_simp; first | done | (with_reducible rfl))
  try simp only [Act.put]
  try simp only [List.setIfInBounds_toArray]
  try simp only [List.set_cons_succ]
  try simp only [List.set_cons_zero]
  refine wpAnyH_take_at (i := 5) (v := ?v5x114) (some 21) rfl rfl (by kernel_rfl) (by kernel_rfl) (by kernel_rfl) (fun _ _ _ h => h) (Or.inl ⟨by kernel_rfl, ?h5x114⟩) (by assumption) ?r5x114
  case h5x114 => (intro w hSw; obtain ⟨b0, b1, b2, b3, b4, b5, b6, b7, b8, b9, b10, b11, b12, b13, b17, b18, b19, b26, bf12, bf17, bf18, bf19, bz⟩ := tak_box hSw; go_simp; first | done | (with_reducible rfl))
  try simp only [Act.put]
  try simp only [List.setIfInBounds_toArray]
  try simp only [List.set_cons_succ]
  try simp only [List.set_cons_zero]
  refine wpAnyH_take_at (i := 6) (v := ?v6x115) (some 22) rfl rfl (by kernel_rfl) (by kernel_rfl) (by kernel_rfl) (fun _ _ _ h => h) (Or.inl ⟨by kernel_rfl, ?h6x115⟩) (by assumption) ?r6x115
  case h6x115 => (intro w hSw; obtain ⟨b0, b1, b2, b3, b4, b5, b6, b7, b8, b9, b10, b11, b12, b13, b17, b18, b19, b26, bf12, bf17, bf18, bf19, bz⟩ := tak_box hSw; go_simp; first | done | (with_reducible rfl))
  try simp only [Act.put]
  try simp only [List.setIfInBounds_toArray]
  try simp only [List.set_cons_succ]
  try simp only [List.set_cons_zero]
  refine wpAnyH_take_at (i := 7) (v := ?v7x116) (some 23) rfl rfl (by kernel_rfl) (by kernel_rfl) (by kernel_rfl) (fun _ _ _ h => h) (Or.inl ⟨by kernel_rfl, ?h7x116⟩) (by assumption) ?r7x116
  case h7x116 => (intro w hSw; obtain ⟨b0, b1, b2, b3, b4, b5, b6, b7, b8, b9, b10, b11, b12, b13, b17, b18, b19, b26, bf12, bf17, bf18, bf19, bz⟩ := tak_box hSw; go_simp; first | done | (with_reducible rfl))
  try simp only [Act.put]
  try simp only [List.setIfInBounds_toArray]
  try simp only [List.set_cons_succ]
  try simp only [List.set_cons_zero]
  refine wpAnyH_take_at (i := 8) (v := ?v8x117) (some 24) rfl rfl (by kernel_rfl) (by kernel_rfl) (by kernel_rfl) (fun _ _ _ h => h) (Or.inl ⟨by kernel_rfl, ?h8x117⟩) (by assumption) ?r8x117
  case h8x117 => (intro w hSw; obtain ⟨b0, b1, b2, b3, b4, b5, b6, b7, b8, b9, b10, b11, b12, b13, b17, b18, b19, b26, bf12, bf17, bf18, bf19, bz⟩ := tak_box hSw; go_simp; first | done | (with_reducible rfl))
  try simp only [Act.put]
  try simp only [List.setIfInBounds_toArray]
  try simp only [List.set_cons_succ]
  try simp only [List.set_cons_zero]
  refine wpAnyH_take_at (i := 9) (v := ?v9x118) (some 25) rfl rfl (by kernel_rfl) (by kernel_rfl) (by kernel_rfl) (fun _ _ _ h => h) (Or.inl ⟨by kernel_rfl, ?h9x118⟩) (by assumption) ?r9x118
  case h9x118 => (intro w hSw; obtain ⟨b0, b1, b2, b3, b4, b5, b6, b7, b8, b9, b10, b11, b12, b13, b17, b18, b19, b26, bf12, bf17, bf18, bf19, bz⟩ := tak_box hSw; go_simp; first | done | (with_reducible rfl))
  try simp only [Act.put]
  try simp only [List.setIfInBounds_toArray]
  try simp only [List.set_cons_succ]
  try simp only [List.set_cons_zero]
  refine wpAnyH_take_at (i := 10) (v := ?v10x119) (some 26) rfl rfl (by kernel_rfl) (by kernel_rfl) (by kernel_rfl) (fun _ _ _ h => h) (Or.inl ⟨by kernel_rfl, ?h10x119⟩) (by assumption) ?r10x119
  case h10x119 => (intro w hSw; obtain ⟨b0, b1, b2, b3, b4, b5, b6, b7, b8, b9, b10, b11, b12, b13, b17, b18, b19, b26, bf12, bf17, bf18, bf19, bz⟩ := tak_box hSw; go_simp; first | done | (with_reducible rfl))
  try simp only [Act.put]
  try simp only [List.setIfInBounds_toArray]
  try simp only [List.set_cons_succ]
  try simp only [List.set_cons_zero]
  refine wpAnyH_ready (rs := [11]) (by kernel_rfl) (by simp) ?_
  refine AllReadyH.cons rfl (fun K hK => ?_) AllReadyH.nil
  go_simp
  refine k_alloc (fun yZ hZ hb => ?_)
  have hgZ : w.heap.size ≤ y0.heap.size := hB0.size
  replace hB0 := below_only hB0 hb
  obtain ⟨gC, HgZ⟩ : ∃ x, x = y0.heap.size := ⟨_, rfl⟩
  have hlg := lt_of_heap hS
  have hSb := row_below hS hb
  rw [← HgZ] at hZ hgZ hlg ⊢
  clear HgZ hb
  have hgg : g ≠ gC := by omega
  refine hK.out _ _ (hSb) (fun hS => ?_)
  clear hK K
  try simp only [Act.put]
  try simp only [List.setIfInBounds_toArray]
  try simp only [List.set_cons_succ]
  try simp only [List.set_cons_zero]
  clear hSb hlg
  refine wpAnyH_ready (rs := [12]) (by kernel_rfl) (by simp) ?_
  refine AllReadyH.cons rfl (fun K hK => ?_) AllReadyH.nil
  refine step_store_row none rfl rfl 35 (.tmp 2) (.tmp 20) rfl gC #[.int .u8 r.c.op, .int .u8 r.c.r, .int .u8 r.c.h, .int .u8 r.c.v, .int .i64 r.c.a, .int .i64 r.c.b, .int .i64 r.c.c] rfl rfl 35 #[.int .u8 0, .int .u8 0, .int .u8 0, .int .u8 0, .int .i64 0, .int .i64 0, .int .i64 0] hZ infoCal7 rfl (one7 _ _ _ _ _ _ _) ?_
  refine hK.out _ _ ((setRow_other _ _ _ _ hgg).trans hS) (fun hS => ?_)
  clear hK K
  try simp only [Act.put]
  try simp only [List.setIfInBounds_toArray]
  try simp only [List.set_cons_succ]
  try simp only [List.set_cons_zero]
  refine wpAnyH_take_at (i := 13) (v := ?v13x120) (some 3) rfl rfl (by kernel_rfl) (by kernel_rfl) (by kernel_rfl) (fun _ _ _ h => h) (Or.inl ⟨by kernel_rfl, ?h13x120⟩) (by assumption) ?r13x120
  case h13x120 => (intro w hSw; obtain ⟨b0, b1, b2, b3, b4, b5, b6, b7, b8, b9, b10, b11, b12, b13, b17, b18, b19, b26, bf12, bf17, bf18, bf19, bz⟩ := tak_box hSw; go_simp; first | done | (with_reducible rfl))
  try simp only [Act.put]
  try simp only [List.setIfInBounds_toArray]
  try simp only [List.set_cons_succ]
  try simp only [List.set_cons_zero]
  refine wpAnyH_done (by kernel_rfl) ?_ _
  have hq := below_setRow hB0 hgZ #[.int .u8 r.c.op, .int .u8 r.c.r, .int .u8 r.c.h, .int .u8 r.c.v, .int .i64 r.c.a, .int .i64 r.c.b, .int .i64 r.c.c]
  have hZ2 := setRow_heap yZ gC _ #[.int .u8 r.c.op, .int .u8 r.c.r, .int .u8 r.c.h, .int .u8 r.c.v, .int .i64 r.c.a, .int .i64 r.c.b, .int .i64 r.c.c] _ (0, 0) hZ
  generalize yZ.setRow gC #[.int .u8 r.c.op, .int .u8 r.c.r, .int .u8 r.c.h, .int .u8 r.c.v, .int .i64 r.c.a, .int .i64 r.c.b, .int .i64 r.c.c] = y2 at hS hq hZ2 ⊢
  have HT := Lib.hid hS
  have HZ := Lib.hid hZ2
  have HB := Lib.hid hq
  have HgC := Lib.hid hgZ
  obtain ⟨k0, k1, k2, k3, k4, k5, k6⟩ := box7 HZ.out
  clear hS hq hZ2 hZ hB0 hgZ
  go_wp2_with fail
  refine (HWd _).out.mono ?_
  rintro e' w2 ⟨rfl, e2⟩
  rw [e2]
  clear e2 w2
  go_wp2_with fail
  refine wp_region_held_drew (S := fun W => Tak W g p s t i h r ∧ W.heap[gC]? = some (.cells #[.int .u8 r.c.op, .int .u8 r.c.r, .int .u8 r.c.h, .int .u8 r.c.v, .int .i64 r.c.a, .int .i64 r.c.b, .int .i64 r.c.c] 35 (0, 0))) (by kernel_rfl) (show Tak y2.drew g p s t i h r ∧ y2.drew.heap[gC]? = some (.cells #[.int .u8 r.c.op, .int .u8 r.c.r, .int .u8 r.c.h, .int .u8 r.c.v, .int .i64 r.c.a, .int .i64 r.c.b, .int .i64 r.c.c] 35 (0, 0)) from ⟨HT.out, HZ.out⟩) ?_
  intro hS
  have hB0 : Below w.heap.size w y2.drew := below_drewN HB.out 1
  generalize y2.drew = y3 at hS hB0 ⊢
  clear HT HZ HB k0 k1 k2 k3 k4 k5 k6
  refine wpAnyH_take_at (i := 0) (v := ?v0x121) (some 36) rfl rfl (by kernel_rfl) (by kernel_rfl) (by kernel_rfl) (fun _ _ _ h => h) (Or.inl ⟨by kernel_rfl, ?h0x121⟩) (by assumption) ?r0x121
  case h0x121 => (intro w hSw; obtain ⟨hSw, hZw⟩ := hSw; obtain ⟨k0, k1, k2, k3, k4, k5, k6⟩ := box7 hZw; obtain ⟨b0, b1, b2, b3, b4, b5, b6, b7, b8, b9, b10, b11, b12, b13, b17, b18, b19, b26, bf12, bf17, bf18, bf19, bz⟩ := tak_box hSw; go_simp; first | done | (with_reducible rfl))
  try simp only [Act.put]
  try simp only [List.setIfInBounds_toArray]
  try simp only [List.set_cons_succ]
  try simp only [List.set_cons_zero]
  refine wpAnyH_take_at (i := 1) (v := ?v1x122) (some 37) rfl rfl (by kernel_rfl) (by kernel_rfl) (by kernel_rfl) (fun _ _ _ h => h) (Or.inl ⟨by kernel_rfl, ?h1x122⟩) (by assumption) ?r1x122
  case h1x122 => (intro w hSw; obtain ⟨hSw, hZw⟩ := hSw; obtain ⟨k0, k1, k2, k3, k4, k5, k6⟩ := box7 hZw; obtain ⟨b0, b1, b2, b3, b4, b5, b6, b7, b8, b9, b10, b11, b12, b13, b17, b18, b19, b26, bf12, bf17, bf18, bf19, bz⟩ := tak_box hSw; go_simp; first | done | (with_reducible rfl))
  try simp only [Act.put]
  try simp only [List.setIfInBounds_toArray]
  try simp only [List.set_cons_succ]
  try simp only [List.set_cons_zero]
  refine wpAnyH_take_at (i := 2) (v := ?v2x123) (some 38) rfl rfl (by kernel_rfl) (by kernel_rfl) (by kernel_rfl) (fun _ _ _ h => h) (Or.inl ⟨by kernel_rfl, ?h2x123⟩) (by assumption) ?r2x123
  case h2x123 => (intro w hSw; obtain ⟨hSw, hZw⟩ := hSw; obtain ⟨k0, k1, k2, k3, k4, k5, k6⟩ := box7 hZw; obtain ⟨b0, b1, b2, b3, b4, b5, b6, b7, b8, b9, b10, b11, b12, b13, b17, b18, b19, b26, bf12, bf17, bf18, bf19, bz⟩ := tak_box hSw; go_simp; first | done | (with_reducible rfl))
  try simp only [Act.put]
  try simp only [List.setIfInBounds_toArray]
  try simp only [List.set_cons_succ]
  try simp only [List.set_cons_zero]
  refine wpAnyH_take_at (i := 3) (v := ?v3x124) (some 39) rfl rfl (by kernel_rfl) (by kernel_rfl) (by kernel_rfl) (fun _ _ _ h => h) (Or.inl ⟨by kernel_rfl, ?h3x124⟩) (by assumption) ?r3x124
  case h3x124 => (intro w hSw; obtain ⟨hSw, hZw⟩ := hSw; obtain ⟨k0, k1, k2, k3, k4, k5, k6⟩ := box7 hZw; obtain ⟨b0, b1, b2, b3, b4, b5, b6, b7, b8, b9, b10, b11, b12, b13, b17, b18, b19, b26, bf12, bf17, bf18, bf19, bz⟩ := tak_box hSw; go_simp; first | done | (with_reducible rfl))
  try simp only [Act.put]
  try simp only [List.setIfInBounds_toArray]
  try simp only [List.set_cons_succ]
  try simp only [List.set_cons_zero]
  refine wpAnyH_take_at (i := 4) (v := ?v4x125) (some 40) rfl rfl (by kernel_rfl) (by kernel_rfl) (by kernel_rfl) (fun _ _ _ h => h) (Or.inl ⟨by kernel_rfl, ?h4x125⟩) (by assumption) ?r4x125
  case h4x125 => (intro w hSw; obtain ⟨hSw, hZw⟩ := hSw; obtain ⟨k0, k1, k2, k3, k4, k5, k6⟩ := box7 hZw; obtain ⟨b0, b1, b2, b3, b4, b5, b6, b7, b8, b9, b10, b11, b12, b13, b17, b18, b19, b26, bf12, bf17, bf18, bf19, bz⟩ := tak_box hSw; go_simp; first | done | (with_reducible rfl))
  try simp only [Act.put]
  try simp only [List.setIfInBounds_toArray]
  try simp only [List.set_cons_succ]
  try simp only [List.set_cons_zero]
  refine wpAnyH_take_at (i := 5) (v := ?v5x126) (some 41) rfl rfl (by kernel_rfl) (by kernel_rfl) (by kernel_rfl) (fun _ _ _ h => h) (Or.inl ⟨by kernel_rfl, ?h5x126⟩) (by assumption) ?r5x126
  case h5x126 => (intro w hSw; obtain ⟨hSw, hZw⟩ := hSw; obtain ⟨k0, k1, k2, k3, k4, k5, k6⟩ := box7 hZw; obtain ⟨b0, b1, b2, b3, b4, b5, b6, b7, b8, b9, b10, b11, b12, b13, b17, b18, b19, b26, bf12, bf17, bf18, bf19, bz⟩ := tak_box hSw; go_simp; first | done | (with_reducible rfl))
  try simp only [Act.put]
  try simp only [List.setIfInBounds_toArray]
  try simp only [List.set_cons_succ]
  try simp only [List.set_cons_zero]
  refine wpAnyH_take_at (i := 6) (v := ?v6x127) (some 42) rfl rfl (by kernel_rfl) (by kernel_rfl) (by kernel_rfl) (fun _ _ _ h => h) (Or.inl ⟨by kernel_rfl, ?h6x127⟩) (by assumption) ?r6x127
  case h6x127 => (intro w hSw; obtain ⟨hSw, hZw⟩ := hSw; obtain ⟨k0, k1, k2, k3, k4, k5, k6⟩ := box7 hZw; obtain ⟨b0, b1, b2, b3, b4, b5, b6, b7, b8, b9, b10, b11, b12, b13, b17, b18, b19, b26, bf12, bf17, bf18, bf19, bz⟩ := tak_box hSw; go_simp; first | done | (with_reducible rfl))
  try simp only [Act.put]
  try simp only [List.setIfInBounds_toArray]
  try simp only [List.set_cons_succ]
  try simp only [List.set_cons_zero]
  refine wpAnyH_take_at (i := 7) (v := ?v7x128) (some 43) rfl rfl (by kernel_rfl) (by kernel_rfl) (by kernel_rfl) (fun _ _ _ h => h) (Or.inl ⟨by kernel_rfl, ?h7x128⟩) (by assumption) ?r7x128
  case h7x128 => (intro w hSw; obtain ⟨hSw, hZw⟩ := hSw; obtain ⟨k0, k1, k2, k3, k4, k5, k6⟩ := box7 hZw; obtain ⟨b0, b1, b2, b3, b4, b5, b6, b7, b8, b9, b10, b11, b12, b13, b17, b18, b19, b26, bf12, bf17, bf18, bf19, bz⟩ := tak_box hSw; go_simp; first | done | (with_reducible rfl))
  try simp only [Act.put]
  try simp only [List.setIfInBounds_toArray]
  try simp only [List.set_cons_succ]
  try simp only [List.set_cons_zero]
  refine wpAnyH_take_at (i := 8) (v := ?v8x129) (some 44) rfl rfl (by kernel_rfl) (by kernel_rfl) (by kernel_rfl) (fun _ _ _ h => h) (Or.inl ⟨by kernel_rfl, ?h8x129⟩) (by assumption) ?r8x129
  case h8x129 => (intro w hSw; obtain ⟨hSw, hZw⟩ := hSw; obtain ⟨k0, k1, k2, k3, k4, k5, k6⟩ := box7 hZw; obtain ⟨b0, b1, b2, b3, b4, b5, b6, b7, b8, b9, b10, b11, b12, b13, b17, b18, b19, b26, bf12, bf17, bf18, bf19, bz⟩ := tak_box hSw; go_simp; first | done | (with_reducible rfl))
  try simp only [Act.put]
  try simp only [List.setIfInBounds_toArray]
  try simp only [List.set_cons_succ]
  try simp only [List.set_cons_zero]
  refine wpAnyH_take_at (i := 9) (v := ?v9x130) (some 45) rfl rfl (by kernel_rfl) (by kernel_rfl) (by kernel_rfl) (fun _ _ _ h => h) (Or.inl ⟨by kernel_rfl, ?h9x130⟩) (by assumption) ?r9x130
  case h9x130 => (intro w hSw; obtain ⟨hSw, hZw⟩ := hSw; obtain ⟨k0, k1, k2, k3, k4, k5, k6⟩ := box7 hZw; obtain ⟨b0, b1, b2, b3, b4, b5, b6, b7, b8, b9, b10, b11, b12, b13, b17, b18, b19, b26, bf12, bf17, bf18, bf19, bz⟩ := tak_box hSw; go_simp; first | done | (with_reducible rfl))
  try simp only [Act.put]
  try simp only [List.setIfInBounds_toArray]
  try simp only [List.set_cons_succ]
  try simp only [List.set_cons_zero]
  refine wpAnyH_take_at (i := 10) (v := ?v10x131) (some 46) rfl rfl (by kernel_rfl) (by kernel_rfl) (by kernel_rfl) (fun _ _ _ h => h) (Or.inl ⟨by kernel_rfl, ?h10x131⟩) (by assumption) ?r10x131
  case h10x131 => (intro w hSw; obtain ⟨hSw, hZw⟩ := hSw; obtain ⟨k0, k1, k2, k3, k4, k5, k6⟩ := box7 hZw; obtain ⟨b0, b1, b2, b3, b4, b5, b6, b7, b8, b9, b10, b11, b12, b13, b17, b18, b19, b26, bf12, bf17, bf18, bf19, bz⟩ := tak_box hSw; go_simp; first | done | (with_reducible rfl))
  try simp only [Act.put]
  try simp only [List.setIfInBounds_toArray]
  try simp only [List.set_cons_succ]
  try simp only [List.set_cons_zero]
  refine wpAnyH_take_at (i := 11) (v := ?v11x132) (some 47) rfl rfl (by kernel_rfl) (by kernel_rfl) (by kernel_rfl) (fun _ _ _ h => h) (Or.inl ⟨by kernel_rfl, ?h11x132⟩) (by assumption) ?r11x132
  case h11x132 => (intro w hSw; obtain ⟨hSw, hZw⟩ := hSw; obtain ⟨k0, k1, k2, k3, k4, k5, k6⟩ := box7 hZw; obtain ⟨b0, b1, b2, b3, b4, b5, b6, b7, b8, b9, b10, b11, b12, b13, b17, b18, b19, b26, bf12, bf17, bf18, bf19, bz⟩ := tak_box hSw; go_simp; first | done | (with_reducible rfl))
  try simp only [Act.put]
  try simp only [List.setIfInBounds_toArray]
  try simp only [List.set_cons_succ]
  try simp only [List.set_cons_zero]
  refine wpAnyH_ready (rs := [12]) (by kernel_rfl) (by simp) ?_
  refine AllReadyH.cons rfl (fun K hK => ?_) AllReadyH.nil
  go_simp
  refine (HPk _).out.mono ?_
  rintro e' y4 ⟨rfl, hb⟩
  go_simp
  have hB1 := below_only hB0 hb
  refine hK.out _ _ (⟨row_below hS.1 hb, row_below hS.2 hb⟩) (fun hS => ?_)
  clear hK K
  try simp only [Act.put]
  try simp only [List.setIfInBounds_toArray]
  try simp only [List.set_cons_succ]
  try simp only [List.set_cons_zero]
  refine wpAnyH_take_at (i := 13) (v := ?v13x133) (some 35) rfl rfl (by kernel_rfl) (by kernel_rfl) (by kernel_rfl) (fun _ _ _ h => h) (Or.inl ⟨by kernel_rfl, ?h13x133⟩) (by assumption) ?r13x133
  case h13x133 => (intro w hSw; obtain ⟨hSw, hZw⟩ := hSw; obtain ⟨k0, k1, k2, k3, k4, k5, k6⟩ := box7 hZw; obtain ⟨b0, b1, b2, b3, b4, b5, b6, b7, b8, b9, b10, b11, b12, b13, b17, b18, b19, b26, bf12, bf17, bf18, bf19, bz⟩ := tak_box hSw; go_simp; first | done | (with_reducible rfl))
  try simp only [Act.put]
  try simp only [List.setIfInBounds_toArray]
  try simp only [List.set_cons_succ]
  try simp only [List.set_cons_zero]
  refine wpAnyH_take_at (i := 14) (v := ?v14x134) (some 49) rfl rfl (by kernel_rfl) (by kernel_rfl) (by kernel_rfl) (fun _ _ _ h => h) (Or.inl ⟨by kernel_rfl, ?h14x134⟩) (by assumption) ?r14x134
  case h14x134 => (intro w hSw; obtain ⟨hSw, hZw⟩ := hSw; obtain ⟨k0, k1, k2, k3, k4, k5, k6⟩ := box7 hZw; obtain ⟨b0, b1, b2, b3, b4, b5, b6, b7, b8, b9, b10, b11, b12, b13, b17, b18, b19, b26, bf12, bf17, bf18, bf19, bz⟩ := tak_box hSw; go_simp; first | done | (with_reducible rfl))
  try simp only [Act.put]
  try simp only [List.setIfInBounds_toArray]
  try simp only [List.set_cons_succ]
  try simp only [List.set_cons_zero]
  refine wpAnyH_take_at (i := 15) (v := ?v15x135) (some 50) rfl rfl (by kernel_rfl) (by kernel_rfl) (by kernel_rfl) (fun _ _ _ h => h) (Or.inl ⟨by kernel_rfl, ?h15x135⟩) (by assumption) ?r15x135
  case h15x135 => (intro w hSw; obtain ⟨hSw, hZw⟩ := hSw; obtain ⟨k0, k1, k2, k3, k4, k5, k6⟩ := box7 hZw; obtain ⟨b0, b1, b2, b3, b4, b5, b6, b7, b8, b9, b10, b11, b12, b13, b17, b18, b19, b26, bf12, bf17, bf18, bf19, bz⟩ := tak_box hSw; go_simp; first | done | (with_reducible rfl))
  try simp only [Act.put]
  try simp only [List.setIfInBounds_toArray]
  try simp only [List.set_cons_succ]
  try simp only [List.set_cons_zero]
  refine wpAnyH_take_at (i := 16) (v := ?v16x136) (some 51) rfl rfl (by kernel_rfl) (by kernel_rfl) (by kernel_rfl) (fun _ _ _ h => h) (Or.inl ⟨by kernel_rfl, ?h16x136⟩) (by assumption) ?r16x136
  case h16x136 => (intro w hSw; obtain ⟨hSw, hZw⟩ := hSw; obtain ⟨k0, k1, k2, k3, k4, k5, k6⟩ := box7 hZw; obtain ⟨b0, b1, b2, b3, b4, b5, b6, b7, b8, b9, b10, b11, b12, b13, b17, b18, b19, b26, bf12, bf17, bf18, bf19, bz⟩ := tak_box hSw; go_simp; first | done | (with_reducible rfl))
  try simp only [Act.put]
  try simp only [List.setIfInBounds_toArray]
  try simp only [List.set_cons_succ]
  try simp only [List.set_cons_zero]
  refine wpAnyH_take_at (i := 17) (v := ?v17x137) (some 6) rfl rfl (by kernel_rfl) (by kernel_rfl) (by kernel_rfl) (fun _ _ _ h => h) (Or.inl ⟨by kernel_rfl, ?h17x137⟩) (by assumption) ?r17x137
  case h17x137 => (intro w hSw; obtain ⟨hSw, hZw⟩ := hSw; obtain ⟨k0, k1, k2, k3, k4, k5, k6⟩ := box7 hZw; obtain ⟨b0, b1, b2, b3, b4, b5, b6, b7, b8, b9, b10, b11, b12, b13, b17, b18, b19, b26, bf12, bf17, bf18, bf19, bz⟩ := tak_box hSw; go_simp; first | done | (with_reducible rfl))
  try simp only [Act.put]
  try simp only [List.setIfInBounds_toArray]
  try simp only [List.set_cons_succ]
  try simp only [List.set_cons_zero]
  refine wpAnyH_take_at (i := 18) (v := ?v18x138) (some 7) rfl rfl (by kernel_rfl) (by kernel_rfl) (by kernel_rfl) (fun _ _ _ h => h) (Or.inl ⟨by kernel_rfl, ?h18x138⟩) (by assumption) ?r18x138
  case h18x138 => (intro w hSw; obtain ⟨hSw, hZw⟩ := hSw; obtain ⟨k0, k1, k2, k3, k4, k5, k6⟩ := box7 hZw; obtain ⟨b0, b1, b2, b3, b4, b5, b6, b7, b8, b9, b10, b11, b12, b13, b17, b18, b19, b26, bf12, bf17, bf18, bf19, bz⟩ := tak_box hSw; go_simp; first | done | (with_reducible rfl))
  try simp only [Act.put]
  try simp only [List.setIfInBounds_toArray]
  try simp only [List.set_cons_succ]
  try simp only [List.set_cons_zero]
  refine wpAnyH_take_at (i := 19) (v := ?v19x139) (some 8) rfl rfl (by kernel_rfl) (by kernel_rfl) (by kernel_rfl) (fun _ _ _ h => h) (Or.inl ⟨by kernel_rfl, ?h19x139⟩) (by assumption) ?r19x139
  case h19x139 => (intro w hSw; obtain ⟨hSw, hZw⟩ := hSw; obtain ⟨k0, k1, k2, k3, k4, k5, k6⟩ := box7 hZw; obtain ⟨b0, b1, b2, b3, b4, b5, b6, b7, b8, b9, b10, b11, b12, b13, b17, b18, b19, b26, bf12, bf17, bf18, bf19, bz⟩ := tak_box hSw; go_simp; first | done | (with_reducible rfl))
  try simp only [Act.put]
  try simp only [List.setIfInBounds_toArray]
  try simp only [List.set_cons_succ]
  try simp only [List.set_cons_zero]
  refine wpAnyH_done (by kernel_rfl) ?_ _
  have HT := Lib.hid hS.1
  have HB := Lib.hid hB1
  clear hS hB1 hB0 hb
  go_wp2_with fail
  refine wp_region_held_drew (S := fun W => Tak W g p s t i h r) (by kernel_rfl) (show Tak y4.drew g p s t i h r from HT.out) ?_
  intro hS
  have hB0 : Below w.heap.size w y4.drew := below_drewN HB.out 1
  generalize y4.drew = y5 at hS hB0 ⊢
  clear HT HB
  refine wpAnyH_take_at (i := 0) (v := ?v0x140) (some 53) rfl rfl (by kernel_rfl) (by kernel_rfl) (by kernel_rfl) (fun _ _ _ h => h) (Or.inl ⟨by kernel_rfl, ?h0x140⟩) (by assumption) ?r0x140
  case h0x140 => (intro w hSw; obtain ⟨b0, b1, b2, b3, b4, b5, b6, b7, b8, b9, b10, b11, b12, b13, b17, b18, b19, b26, bf12, bf17, bf18, bf19, bz⟩ := tak_box hSw; go_simp; first | done | (with_reducible rfl))
  try simp only [Act.put]
  try simp only [List.setIfInBounds_toArray]
  try simp only [List.set_cons_succ]
  try simp only [List.set_cons_zero]
  refine wpAnyH_take_at (i := 1) (v := ?v1x141) (some 54) rfl rfl (by kernel_rfl) (by kernel_rfl) (by kernel_rfl) (fun _ _ _ h => h) (Or.inl ⟨by kernel_rfl, ?h1x141⟩) (by assumption) ?r1x141
  case h1x141 => (intro w hSw; obtain ⟨b0, b1, b2, b3, b4, b5, b6, b7, b8, b9, b10, b11, b12, b13, b17, b18, b19, b26, bf12, bf17, bf18, bf19, bz⟩ := tak_box hSw; go_simp; first | done | (with_reducible rfl))
  try simp only [Act.put]
  try simp only [List.setIfInBounds_toArray]
  try simp only [List.set_cons_succ]
  try simp only [List.set_cons_zero]
  refine wpAnyH_take_at (i := 2) (v := ?v2x142) (some 55) rfl rfl (by kernel_rfl) (by kernel_rfl) (by kernel_rfl) (fun _ _ _ h => h) (Or.inl ⟨by kernel_rfl, ?h2x142⟩) (by assumption) ?r2x142
  case h2x142 => (intro w hSw; obtain ⟨b0, b1, b2, b3, b4, b5, b6, b7, b8, b9, b10, b11, b12, b13, b17, b18, b19, b26, bf12, bf17, bf18, bf19, bz⟩ := tak_box hSw; go_simp; first | done | (with_reducible rfl))
  try simp only [Act.put]
  try simp only [List.setIfInBounds_toArray]
  try simp only [List.set_cons_succ]
  try simp only [List.set_cons_zero]
  refine wpAnyH_take_at (i := 3) (v := ?v3x143) (some 56) rfl rfl (by kernel_rfl) (by kernel_rfl) (by kernel_rfl) (fun _ _ _ h => h) (Or.inl ⟨by kernel_rfl, ?h3x143⟩) (by assumption) ?r3x143
  case h3x143 => (intro w hSw; obtain ⟨b0, b1, b2, b3, b4, b5, b6, b7, b8, b9, b10, b11, b12, b13, b17, b18, b19, b26, bf12, bf17, bf18, bf19, bz⟩ := tak_box hSw; go_simp; first | done | (with_reducible rfl))
  try simp only [Act.put]
  try simp only [List.setIfInBounds_toArray]
  try simp only [List.set_cons_succ]
  try simp only [List.set_cons_zero]
  refine wpAnyH_take_at (i := 4) (v := ?v4x144) (some 57) rfl rfl (by kernel_rfl) (by kernel_rfl) (by kernel_rfl) (fun _ _ _ h => h) (Or.inl ⟨by kernel_rfl, ?h4x144⟩) (by assumption) ?r4x144
  case h4x144 => (intro w hSw; obtain ⟨b0, b1, b2, b3, b4, b5, b6, b7, b8, b9, b10, b11, b12, b13, b17, b18, b19, b26, bf12, bf17, bf18, bf19, bz⟩ := tak_box hSw; go_simp; first | done | (with_reducible rfl))
  try simp only [Act.put]
  try simp only [List.setIfInBounds_toArray]
  try simp only [List.set_cons_succ]
  try simp only [List.set_cons_zero]
  refine wpAnyH_take_at (i := 5) (v := ?v5x145) (some 58) rfl rfl (by kernel_rfl) (by kernel_rfl) (by kernel_rfl) (fun _ _ _ h => h) (Or.inl ⟨by kernel_rfl, ?h5x145⟩) (by assumption) ?r5x145
  case h5x145 => (intro w hSw; obtain ⟨b0, b1, b2, b3, b4, b5, b6, b7, b8, b9, b10, b11, b12, b13, b17, b18, b19, b26, bf12, bf17, bf18, bf19, bz⟩ := tak_box hSw; go_simp; first | done | (with_reducible rfl))
  try simp only [Act.put]
  try simp only [List.setIfInBounds_toArray]
  try simp only [List.set_cons_succ]
  try simp only [List.set_cons_zero]
  refine wpAnyH_take_at (i := 6) (v := ?v6x146) (some 59) rfl rfl (by kernel_rfl) (by kernel_rfl) (by kernel_rfl) (fun _ _ _ h => h) (Or.inl ⟨by kernel_rfl, ?h6x146⟩) (by assumption) ?r6x146
  case h6x146 => (intro w hSw; obtain ⟨b0, b1, b2, b3, b4, b5, b6, b7, b8, b9, b10, b11, b12, b13, b17, b18, b19, b26, bf12, bf17, bf18, bf19, bz⟩ := tak_box hSw; go_simp; first | done | (with_reducible rfl))
  try simp only [Act.put]
  try simp only [List.setIfInBounds_toArray]
  try simp only [List.set_cons_succ]
  try simp only [List.set_cons_zero]
  refine wpAnyH_take_at (i := 7) (v := ?v7x147) (some 60) rfl rfl (by kernel_rfl) (by kernel_rfl) (by kernel_rfl) (fun _ _ _ h => h) (Or.inl ⟨by kernel_rfl, ?h7x147⟩) (by assumption) ?r7x147
  case h7x147 => (intro w hSw; obtain ⟨b0, b1, b2, b3, b4, b5, b6, b7, b8, b9, b10, b11, b12, b13, b17, b18, b19, b26, bf12, bf17, bf18, bf19, bz⟩ := tak_box hSw; go_simp; first | done | (with_reducible rfl))
  try simp only [Act.put]
  try simp only [List.setIfInBounds_toArray]
  try simp only [List.set_cons_succ]
  try simp only [List.set_cons_zero]
  refine wpAnyH_take_at (i := 8) (v := ?v8x148) (some 61) rfl rfl (by kernel_rfl) (by kernel_rfl) (by kernel_rfl) (fun _ _ _ h => h) (Or.inl ⟨by kernel_rfl, ?h8x148⟩) (by assumption) ?r8x148
  case h8x148 => (intro w hSw; obtain ⟨b0, b1, b2, b3, b4, b5, b6, b7, b8, b9, b10, b11, b12, b13, b17, b18, b19, b26, bf12, bf17, bf18, bf19, bz⟩ := tak_box hSw; go_simp; first | done | (with_reducible rfl))
  try simp only [Act.put]
  try simp only [List.setIfInBounds_toArray]
  try simp only [List.set_cons_succ]
  try simp only [List.set_cons_zero]
  refine wpAnyH_ready (rs := [9]) (by kernel_rfl) (by simp) ?_
  refine AllReadyH.cons rfl (fun K hK => ?_) AllReadyH.nil
  go_simp
  refine (HP _).out.mono ?_
  rintro e' y6 ⟨rfl, hb⟩
  rw [He.out]
  go_simp
  have hB1 := below_only hB0 hb
  refine hK.out _ _ (row_below hS hb) (fun hS => ?_)
  clear hK K
  try simp only [Act.put]
  try simp only [List.setIfInBounds_toArray]
  try simp only [List.set_cons_succ]
  try simp only [List.set_cons_zero]
  refine wpAnyH_take_at (i := 10) (v := ?v10x149) (some 52) rfl rfl (by kernel_rfl) (by kernel_rfl) (by kernel_rfl) (fun _ _ _ h => h) (Or.inl ⟨by kernel_rfl, ?h10x149⟩) (by assumption) ?r10x149
  case h10x149 => (intro w hSw; obtain ⟨b0, b1, b2, b3, b4, b5, b6, b7, b8, b9, b10, b11, b12, b13, b17, b18, b19, b26, bf12, bf17, bf18, bf19, bz⟩ := tak_box hSw; go_simp; first | done | (with_reducible rfl))
  try simp only [Act.put]
  try simp only [List.setIfInBounds_toArray]
  try simp only [List.set_cons_succ]
  try simp only [List.set_cons_zero]
  refine wpAnyH_take_at (i := 11) (v := ?v11x150) (some 63) rfl rfl (by kernel_rfl) (by kernel_rfl) (by kernel_rfl) (fun _ _ _ h => h) (Or.inl ⟨by kernel_rfl, ?h11x150⟩) (by assumption) ?r11x150
  case h11x150 => (intro w hSw; obtain ⟨b0, b1, b2, b3, b4, b5, b6, b7, b8, b9, b10, b11, b12, b13, b17, b18, b19, b26, bf12, bf17, bf18, bf19, bz⟩ := tak_box hSw; go_simp; first | done | (with_reducible rfl))
  try simp only [Act.put]
  try simp only [List.setIfInBounds_toArray]
  try simp only [List.set_cons_succ]
  try simp only [List.set_cons_zero]
  refine wpAnyH_take_at (i := 12) (v := ?v12x151) (some 64) rfl rfl (by kernel_rfl) (by kernel_rfl) (by kernel_rfl) (fun _ _ _ h => h) (Or.inl ⟨by kernel_rfl, ?h12x151⟩) (by assumption) ?r12x151
  case h12x151 => (intro w hSw; obtain ⟨b0, b1, b2, b3, b4, b5, b6, b7, b8, b9, b10, b11, b12, b13, b17, b18, b19, b26, bf12, bf17, bf18, bf19, bz⟩ := tak_box hSw; go_simp; first | done | (with_reducible rfl))
  try simp only [Act.put]
  try simp only [List.setIfInBounds_toArray]
  try simp only [List.set_cons_succ]
  try simp only [List.set_cons_zero]
  refine wpAnyH_take_at (i := 13) (v := ?v13x152) (some 9) rfl rfl (by kernel_rfl) (by kernel_rfl) (by kernel_rfl) (fun _ _ _ h => h) (Or.inl ⟨by kernel_rfl, ?h13x152⟩) (by assumption) ?r13x152
  case h13x152 => (intro w hSw; obtain ⟨b0, b1, b2, b3, b4, b5, b6, b7, b8, b9, b10, b11, b12, b13, b17, b18, b19, b26, bf12, bf17, bf18, bf19, bz⟩ := tak_box hSw; go_simp; first | done | (with_reducible rfl))
  try simp only [Act.put]
  try simp only [List.setIfInBounds_toArray]
  try simp only [List.set_cons_succ]
  try simp only [List.set_cons_zero]
  refine wpAnyH_take_at (i := 14) (v := ?v14x153) (some 10) rfl rfl (by kernel_rfl) (by kernel_rfl) (by kernel_rfl) (fun _ _ _ h => h) (Or.inl ⟨by kernel_rfl, ?h14x153⟩) (by assumption) ?r14x153
  case h14x153 => (intro w hSw; obtain ⟨b0, b1, b2, b3, b4, b5, b6, b7, b8, b9, b10, b11, b12, b13, b17, b18, b19, b26, bf12, bf17, bf18, bf19, bz⟩ := tak_box hSw; go_simp; first | done | (with_reducible rfl))
  try simp only [Act.put]
  try simp only [List.setIfInBounds_toArray]
  try simp only [List.set_cons_succ]
  try simp only [List.set_cons_zero]
  refine wpAnyH_done (by kernel_rfl) ?_ _
  have HT := Lib.hid hS
  have HB := Lib.hid hB1
  clear hS hB1 hB0 hb
  go_wp2_with fail
  refine wp_region_held_drew (S := fun W => Tak W g p s t i h r) (by kernel_rfl) (show Tak y6.drew g p s t i h r from HT.out) ?_
  intro hS
  have hB0 : Below w.heap.size w y6.drew := below_drewN HB.out 1
  have hA0 := HA.out.below hB0
  generalize y6.drew = y7 at hS hB0 hA0 ⊢
  clear HT HB
  refine wpAnyH_take_at (i := 0) (v := ?v0x154) (some 66) rfl rfl (by kernel_rfl) (by kernel_rfl) (by kernel_rfl) (fun _ _ _ h => h) (Or.inl ⟨by kernel_rfl, ?h0x154⟩) (by assumption) ?r0x154
  case h0x154 => (intro w hSw; obtain ⟨b0, b1, b2, b3, b4, b5, b6, b7, b8, b9, b10, b11, b12, b13, b17, b18, b19, b26, bf12, bf17, bf18, bf19, bz⟩ := tak_box hSw; go_simp; first | done | (with_reducible rfl))
  try simp only [Act.put]
  try simp only [List.setIfInBounds_toArray]
  try simp only [List.set_cons_succ]
  try simp only [List.set_cons_zero]
  refine wpAnyH_take_at (i := 1) (v := ?v1x155) (some 67) rfl rfl (by kernel_rfl) (by kernel_rfl) (by kernel_rfl) (fun _ _ _ h => h) (Or.inl ⟨by kernel_rfl, ?h1x155⟩) (by assumption) ?r1x155
  case h1x155 => (intro w hSw; obtain ⟨b0, b1, b2, b3, b4, b5, b6, b7, b8, b9, b10, b11, b12, b13, b17, b18, b19, b26, bf12, bf17, bf18, bf19, bz⟩ := tak_box hSw; go_simp; first | done | (with_reducible rfl))
  try simp only [Act.put]
  try simp only [List.setIfInBounds_toArray]
  try simp only [List.set_cons_succ]
  try simp only [List.set_cons_zero]
  refine wpAnyH_take_at (i := 2) (v := ?v2x156) (some 68) rfl rfl (by kernel_rfl) (by kernel_rfl) (by kernel_rfl) (fun _ _ _ h => h) (Or.inl ⟨by kernel_rfl, ?h2x156⟩) (by assumption) ?r2x156
  case h2x156 => (intro w hSw; obtain ⟨b0, b1, b2, b3, b4, b5, b6, b7, b8, b9, b10, b11, b12, b13, b17, b18, b19, b26, bf12, bf17, bf18, bf19, bz⟩ := tak_box hSw; go_simp; first | done | (with_reducible rfl))
  try simp only [Act.put]
  try simp only [List.setIfInBounds_toArray]
  try simp only [List.set_cons_succ]
  try simp only [List.set_cons_zero]
  refine wpAnyH_take_at (i := 3) (v := ?v3x157) (some 69) rfl rfl (by kernel_rfl) (by kernel_rfl) (by kernel_rfl) (fun _ _ _ h => h) (Or.inl ⟨by kernel_rfl, ?h3x157⟩) (by assumption) ?r3x157
  case h3x157 => (intro w hSw; obtain ⟨b0, b1, b2, b3, b4, b5, b6, b7, b8, b9, b10, b11, b12, b13, b17, b18, b19, b26, bf12, bf17, bf18, bf19, bz⟩ := tak_box hSw; go_simp; first | done | (with_reducible rfl))
  try simp only [Act.put]
  try simp only [List.setIfInBounds_toArray]
  try simp only [List.set_cons_succ]
  try simp only [List.set_cons_zero]
  refine wpAnyH_take_at (i := 4) (v := ?v4x158) (some 70) rfl rfl (by kernel_rfl) (by kernel_rfl) (by kernel_rfl) (fun _ _ _ h => h) (Or.inl ⟨by kernel_rfl, ?h4x158⟩) (by assumption) ?r4x158
  case h4x158 => (intro w hSw; obtain ⟨b0, b1, b2, b3, b4, b5, b6, b7, b8, b9, b10, b11, b12, b13, b17, b18, b19, b26, bf12, bf17, bf18, bf19, bz⟩ := tak_box hSw; go_simp; first | done | (with_reducible rfl))
  try simp only [Act.put]
  try simp only [List.setIfInBounds_toArray]
  try simp only [List.set_cons_succ]
  try simp only [List.set_cons_zero]
  refine wpAnyH_take_at (i := 5) (v := ?v5x159) (some 71) rfl rfl (by kernel_rfl) (by kernel_rfl) (by kernel_rfl) (fun _ _ _ h => h) (Or.inl ⟨by kernel_rfl, ?h5x159⟩) (by assumption) ?r5x159
  case h5x159 => (intro w hSw; obtain ⟨b0, b1, b2, b3, b4, b5, b6, b7, b8, b9, b10, b11, b12, b13, b17, b18, b19, b26, bf12, bf17, bf18, bf19, bz⟩ := tak_box hSw; go_simp; first | done | (with_reducible rfl))
  try simp only [Act.put]
  try simp only [List.setIfInBounds_toArray]
  try simp only [List.set_cons_succ]
  try simp only [List.set_cons_zero]
  refine wpAnyH_take_at (i := 6) (v := ?v6x160) (some 72) rfl rfl (by kernel_rfl) (by kernel_rfl) (by kernel_rfl) (fun _ _ _ h => h) (Or.inl ⟨by kernel_rfl, ?h6x160⟩) (by assumption) ?r6x160
  case h6x160 => (intro w hSw; obtain ⟨b0, b1, b2, b3, b4, b5, b6, b7, b8, b9, b10, b11, b12, b13, b17, b18, b19, b26, bf12, bf17, bf18, bf19, bz⟩ := tak_box hSw; go_simp; first | done | (with_reducible rfl))
  try simp only [Act.put]
  try simp only [List.setIfInBounds_toArray]
  try simp only [List.set_cons_succ]
  try simp only [List.set_cons_zero]
  refine wpAnyH_take_at (i := 7) (v := ?v7x161) (some 73) rfl rfl (by kernel_rfl) (by kernel_rfl) (by kernel_rfl) (fun _ _ _ h => h) (Or.inl ⟨by kernel_rfl, ?h7x161⟩) (by assumption) ?r7x161
  case h7x161 => (intro w hSw; obtain ⟨b0, b1, b2, b3, b4, b5, b6, b7, b8, b9, b10, b11, b12, b13, b17, b18, b19, b26, bf12, bf17, bf18, bf19, bz⟩ := tak_box hSw; go_simp; first | done | (with_reducible rfl))
  try simp only [Act.put]
  try simp only [List.setIfInBounds_toArray]
  try simp only [List.set_cons_succ]
  try simp only [List.set_cons_zero]
  refine wpAnyH_take_at (i := 8) (v := ?v8x162) (some 74) rfl rfl (by kernel_rfl) (by kernel_rfl) (by kernel_rfl) (fun _ _ _ h => h) (Or.inl ⟨by kernel_rfl, ?h8x162⟩) (by assumption) ?r8x162
  case h8x162 => (intro w hSw; obtain ⟨b0, b1, b2, b3, b4, b5, b6, b7, b8, b9, b10, b11, b12, b13, b17, b18, b19, b26, bf12, bf17, bf18, bf19, bz⟩ := tak_box hSw; go_simp; first | done | (with_reducible rfl))
  try simp only [Act.put]
  try simp only [List.setIfInBounds_toArray]
  try simp only [List.set_cons_succ]
  try simp only [List.set_cons_zero]
  refine wpAnyH_take_at (i := 9) (v := ?v9x163) (some 75) rfl rfl (by kernel_rfl) (by kernel_rfl) (by kernel_rfl) (fun _ _ _ h => h) (Or.inl ⟨by kernel_rfl, ?h9x163⟩) (by assumption) ?r9x163
  case h9x163 => (intro w hSw; obtain ⟨b0, b1, b2, b3, b4, b5, b6, b7, b8, b9, b10, b11, b12, b13, b17, b18, b19, b26, bf12, bf17, bf18, bf19, bz⟩ := tak_box hSw; go_simp; first | done | (with_reducible rfl))
  try simp only [Act.put]
  try simp only [List.setIfInBounds_toArray]
  try simp only [List.set_cons_succ]
  try simp only [List.set_cons_zero]
  refine wpAnyH_take_at (i := 10) (v := ?v10x164) (some 76) rfl rfl (by kernel_rfl) (by kernel_rfl) (by kernel_rfl) (fun _ _ _ h => h) (Or.inl ⟨by kernel_rfl, ?h10x164⟩) (by assumption) ?r10x164
  case h10x164 => (intro w hSw; obtain ⟨b0, b1, b2, b3, b4, b5, b6, b7, b8, b9, b10, b11, b12, b13, b17, b18, b19, b26, bf12, bf17, bf18, bf19, bz⟩ := tak_box hSw; go_simp; first | done | (with_reducible rfl))
  try simp only [Act.put]
  try simp only [List.setIfInBounds_toArray]
  try simp only [List.set_cons_succ]
  try simp only [List.set_cons_zero]
  refine wpAnyH_take_at (i := 11) (v := ?v11x165) (some 77) rfl rfl (by kernel_rfl) (by kernel_rfl) (by kernel_rfl) (fun _ _ _ h => h) (Or.inl ⟨by kernel_rfl, ?h11x165⟩) (by assumption) ?r11x165
  case h11x165 => (intro w hSw; obtain ⟨b0, b1, b2, b3, b4, b5, b6, b7, b8, b9, b10, b11, b12, b13, b17, b18, b19, b26, bf12, bf17, bf18, bf19, bz⟩ := tak_box hSw; go_simp; first | done | (with_reducible rfl))
  try simp only [Act.put]
  try simp only [List.setIfInBounds_toArray]
  try simp only [List.set_cons_succ]
  try simp only [List.set_cons_zero]
  refine wpAnyH_take_at (i := 12) (v := ?v12x166) (some 78) rfl rfl (by kernel_rfl) (by kernel_rfl) (by kernel_rfl) (fun _ _ _ h => h) (Or.inl ⟨by kernel_rfl, ?h12x166⟩) (by assumption) ?r12x166
  case h12x166 => (intro w hSw; obtain ⟨b0, b1, b2, b3, b4, b5, b6, b7, b8, b9, b10, b11, b12, b13, b17, b18, b19, b26, bf12, bf17, bf18, bf19, bz⟩ := tak_box hSw; go_simp; first | done | (with_reducible rfl))
  try simp only [Act.put]
  try simp only [List.setIfInBounds_toArray]
  try simp only [List.set_cons_succ]
  try simp only [List.set_cons_zero]
  refine wpAnyH_take_at (i := 13) (v := ?v13x167) (some 79) rfl rfl (by kernel_rfl) (by kernel_rfl) (by kernel_rfl) (fun _ _ _ h => h) (Or.inl ⟨by kernel_rfl, ?h13x167⟩) (by assumption) ?r13x167
  case h13x167 => (intro w hSw; obtain ⟨b0, b1, b2, b3, b4, b5, b6, b7, b8, b9, b10, b11, b12, b13, b17, b18, b19, b26, bf12, bf17, bf18, bf19, bz⟩ := tak_box hSw; go_simp; first | done | (with_reducible rfl))
  try simp only [Act.put]
  try simp only [List.setIfInBounds_toArray]
  try simp only [List.set_cons_succ]
  try simp only [List.set_cons_zero]
  refine wpAnyH_take_at (i := 14) (v := ?v14x168) (some 80) rfl rfl (by kernel_rfl) (by kernel_rfl) (by kernel_rfl) (fun _ _ _ h => h) (Or.inl ⟨by kernel_rfl, ?h14x168⟩) (by assumption) ?r14x168
  case h14x168 => (intro w hSw; obtain ⟨b0, b1, b2, b3, b4, b5, b6, b7, b8, b9, b10, b11, b12, b13, b17, b18, b19, b26, bf12, bf17, bf18, bf19, bz⟩ := tak_box hSw; go_simp; first | done | (with_reducible rfl))
  try simp only [Act.put]
  try simp only [List.setIfInBounds_toArray]
  try simp only [List.set_cons_succ]
  try simp only [List.set_cons_zero]
  refine wpAnyH_take_at (i := 15) (v := ?v15x169) (some 81) rfl rfl (by kernel_rfl) (by kernel_rfl) (by kernel_rfl) (fun _ _ _ h => h) (Or.inl ⟨by kernel_rfl, ?h15x169⟩) (by assumption) ?r15x169
  case h15x169 => (intro w hSw; obtain ⟨b0, b1, b2, b3, b4, b5, b6, b7, b8, b9, b10, b11, b12, b13, b17, b18, b19, b26, bf12, bf17, bf18, bf19, bz⟩ := tak_box hSw; go_simp; first | done | (with_reducible rfl))
  try simp only [Act.put]
  try simp only [List.setIfInBounds_toArray]
  try simp only [List.set_cons_succ]
  try simp only [List.set_cons_zero]
  refine wpAnyH_take_at (i := 16) (v := ?v16x170) (some 82) rfl rfl (by kernel_rfl) (by kernel_rfl) (by kernel_rfl) (fun _ _ _ h => h) (Or.inl ⟨by kernel_rfl, ?h16x170⟩) (by assumption) ?r16x170
  case h16x170 => (intro w hSw; obtain ⟨b0, b1, b2, b3, b4, b5, b6, b7, b8, b9, b10, b11, b12, b13, b17, b18, b19, b26, bf12, bf17, bf18, bf19, bz⟩ := tak_box hSw; go_simp; first | done | (with_reducible rfl))
  try simp only [Act.put]
  try simp only [List.setIfInBounds_toArray]
  try simp only [List.set_cons_succ]
  try simp only [List.set_cons_zero]
  refine wpAnyH_take_at (i := 17) (v := ?v17x171) (some 83) rfl rfl (by kernel_rfl) (by kernel_rfl) (by kernel_rfl) (fun _ _ _ h => h) (Or.inl ⟨by kernel_rfl, ?h17x171⟩) (by assumption) ?r17x171
  case h17x171 => (intro w hSw; obtain ⟨b0, b1, b2, b3, b4, b5, b6, b7, b8, b9, b10, b11, b12, b13, b17, b18, b19, b26, bf12, bf17, bf18, bf19, bz⟩ := tak_box hSw; go_simp; first | done | (with_reducible rfl))
  try simp only [Act.put]
  try simp only [List.setIfInBounds_toArray]
  try simp only [List.set_cons_succ]
  try simp only [List.set_cons_zero]
  refine wpAnyH_take_at (i := 18) (v := ?v18x172) (some 84) rfl rfl (by kernel_rfl) (by kernel_rfl) (by kernel_rfl) (fun _ _ _ h => h) (Or.inl ⟨by kernel_rfl, ?h18x172⟩) (by assumption) ?r18x172
  case h18x172 => (intro w hSw; obtain ⟨b0, b1, b2, b3, b4, b5, b6, b7, b8, b9, b10, b11, b12, b13, b17, b18, b19, b26, bf12, bf17, bf18, bf19, bz⟩ := tak_box hSw; go_simp; first | done | (with_reducible rfl))
  try simp only [Act.put]
  try simp only [List.setIfInBounds_toArray]
  try simp only [List.set_cons_succ]
  try simp only [List.set_cons_zero]
  refine wpAnyH_take_at (i := 19) (v := ?v19x173) (some 85) rfl rfl (by kernel_rfl) (by kernel_rfl) (by kernel_rfl) (fun _ _ _ h => h) (Or.inl ⟨by kernel_rfl, ?h19x173⟩) (by assumption) ?r19x173
  case h19x173 => (intro w hSw; obtain ⟨b0, b1, b2, b3, b4, b5, b6, b7, b8, b9, b10, b11, b12, b13, b17, b18, b19, b26, bf12, bf17, bf18, bf19, bz⟩ := tak_box hSw; go_simp; first | done | (with_reducible rfl))
  try simp only [Act.put]
  try simp only [List.setIfInBounds_toArray]
  try simp only [List.set_cons_succ]
  try simp only [List.set_cons_zero]
  refine wpAnyH_ready (rs := [20]) (by kernel_rfl) (by simp) ?_
  refine AllReadyH.cons rfl (fun K hK => ?_) AllReadyH.nil
  go_simp
  refine (HCl _ hA0).out.mono ?_
  rintro e' y8 ⟨rfl, hA1, hK1⟩
  go_simp
  have hS1 : Tak y8 g p s t i h r := hK1.row hS (by simpa using Hgn.out.2)
  have hKK := (keep_below hB0 [b]).trans hK1
  refine hK.out _ _ (hS1) (fun hS => ?_)
  clear hK K
  try simp only [Act.put]
  try simp only [List.setIfInBounds_toArray]
  try simp only [List.set_cons_succ]
  try simp only [List.set_cons_zero]
  refine wpAnyH_take_at (i := 21) (v := ?v21x174) (some 65) rfl rfl (by kernel_rfl) (by kernel_rfl) (by kernel_rfl) (fun _ _ _ h => h) (Or.inl ⟨by kernel_rfl, ?h21x174⟩) (by assumption) ?r21x174
  case h21x174 => (intro w hSw; obtain ⟨b0, b1, b2, b3, b4, b5, b6, b7, b8, b9, b10, b11, b12, b13, b17, b18, b19, b26, bf12, bf17, bf18, bf19, bz⟩ := tak_box hSw; go_simp; first | done | (with_reducible rfl))
  try simp only [Act.put]
  try simp only [List.setIfInBounds_toArray]
  try simp only [List.set_cons_succ]
  try simp only [List.set_cons_zero]
  refine wpAnyH_take_at (i := 22) (v := ?v22x175) (some 87) rfl rfl (by kernel_rfl) (by kernel_rfl) (by kernel_rfl) (fun _ _ _ h => h) (Or.inl ⟨by kernel_rfl, ?h22x175⟩) (by assumption) ?r22x175
  case h22x175 => (intro w hSw; obtain ⟨b0, b1, b2, b3, b4, b5, b6, b7, b8, b9, b10, b11, b12, b13, b17, b18, b19, b26, bf12, bf17, bf18, bf19, bz⟩ := tak_box hSw; go_simp; first | done | (with_reducible rfl))
  try simp only [Act.put]
  try simp only [List.setIfInBounds_toArray]
  try simp only [List.set_cons_succ]
  try simp only [List.set_cons_zero]
  refine wpAnyH_take_at (i := 23) (v := ?v23x176) (some 88) rfl rfl (by kernel_rfl) (by kernel_rfl) (by kernel_rfl) (fun _ _ _ h => h) (Or.inl ⟨by kernel_rfl, ?h23x176⟩) (by assumption) ?r23x176
  case h23x176 => (intro w hSw; obtain ⟨b0, b1, b2, b3, b4, b5, b6, b7, b8, b9, b10, b11, b12, b13, b17, b18, b19, b26, bf12, bf17, bf18, bf19, bz⟩ := tak_box hSw; go_simp; first | done | (with_reducible rfl))
  try simp only [Act.put]
  try simp only [List.setIfInBounds_toArray]
  try simp only [List.set_cons_succ]
  try simp only [List.set_cons_zero]
  refine wpAnyH_take_at (i := 24) (v := ?v24x177) (some 89) rfl rfl (by kernel_rfl) (by kernel_rfl) (by kernel_rfl) (fun _ _ _ h => h) (Or.inl ⟨by kernel_rfl, ?h24x177⟩) (by assumption) ?r24x177
  case h24x177 => (intro w hSw; obtain ⟨b0, b1, b2, b3, b4, b5, b6, b7, b8, b9, b10, b11, b12, b13, b17, b18, b19, b26, bf12, bf17, bf18, bf19, bz⟩ := tak_box hSw; go_simp; first | done | (with_reducible rfl))
  try simp only [Act.put]
  try simp only [List.setIfInBounds_toArray]
  try simp only [List.set_cons_succ]
  try simp only [List.set_cons_zero]
  refine wpAnyH_take_at (i := 25) (v := ?v25x178) (some 11) rfl rfl (by kernel_rfl) (by kernel_rfl) (by kernel_rfl) (fun _ _ _ h => h) (Or.inl ⟨by kernel_rfl, ?h25x178⟩) (by assumption) ?r25x178
  case h25x178 => (intro w hSw; obtain ⟨b0, b1, b2, b3, b4, b5, b6, b7, b8, b9, b10, b11, b12, b13, b17, b18, b19, b26, bf12, bf17, bf18, bf19, bz⟩ := tak_box hSw; go_simp; first | done | (with_reducible rfl))
  try simp only [Act.put]
  try simp only [List.setIfInBounds_toArray]
  try simp only [List.set_cons_succ]
  try simp only [List.set_cons_zero]
  refine wpAnyH_take_at (i := 26) (v := ?v26x179) (some 12) rfl rfl (by kernel_rfl) (by kernel_rfl) (by kernel_rfl) (fun _ _ _ h => h) (Or.inl ⟨by kernel_rfl, ?h26x179⟩) (by assumption) ?r26x179
  case h26x179 => (intro w hSw; obtain ⟨b0, b1, b2, b3, b4, b5, b6, b7, b8, b9, b10, b11, b12, b13, b17, b18, b19, b26, bf12, bf17, bf18, bf19, bz⟩ := tak_box hSw; go_simp; first | done | (with_reducible rfl))
  try simp only [Act.put]
  try simp only [List.setIfInBounds_toArray]
  try simp only [List.set_cons_succ]
  try simp only [List.set_cons_zero]
  refine wpAnyH_take_at (i := 27) (v := ?v27x180) (some 13) rfl rfl (by kernel_rfl) (by kernel_rfl) (by kernel_rfl) (fun _ _ _ h => h) (Or.inl ⟨by kernel_rfl, ?h27x180⟩) (by assumption) ?r27x180
  case h27x180 => (intro w hSw; obtain ⟨b0, b1, b2, b3, b4, b5, b6, b7, b8, b9, b10, b11, b12, b13, b17, b18, b19, b26, bf12, bf17, bf18, bf19, bz⟩ := tak_box hSw; go_simp; first | done | (with_reducible rfl))
  try simp only [Act.put]
  try simp only [List.setIfInBounds_toArray]
  try simp only [List.set_cons_succ]
  try simp only [List.set_cons_zero]
  refine wpAnyH_done (by kernel_rfl) ?_ _
  have HT := Lib.hid hS
  have HA1 := Lib.hid hA1
  have HK := Lib.hid hKK
  clear hS hS1 hA1 hK1 hKK hA0 hB0
  go_wp2_with fail
  refine wp_region_held_drew (S := fun W => Tak W g p s t i h r) (by kernel_rfl) (show Tak y8.drew g p s t i h r from HT.out) ?_
  intro hS
  have hK0 := HK.out.drew
  have hA0 : Arn y8.drew p b _ := HA1.out.drew
  generalize y8.drew = y9 at hS hK0 hA0 ⊢
  clear HT HK HA1
  refine wpAnyH_take_at (i := 0) (v := ?v0x181) (some 101) rfl rfl (by kernel_rfl) (by kernel_rfl) (by kernel_rfl) (fun _ _ _ h => h) (Or.inl ⟨by kernel_rfl, ?h0x181⟩) (by assumption) ?r0x181
  case h0x181 => (intro w hSw; obtain ⟨b0, b1, b2, b3, b4, b5, b6, b7, b8, b9, b10, b11, b12, b13, b17, b18, b19, b26, bf12, bf17, bf18, bf19, bz⟩ := tak_box hSw; go_simp; first | done | (with_reducible rfl))
  try simp only [Act.put]
  try simp only [List.setIfInBounds_toArray]
  try simp only [List.set_cons_succ]
  try simp only [List.set_cons_zero]
  refine wpAnyH_take_at (i := 1) (v := ?v1x182) (some 102) rfl rfl (by kernel_rfl) (by kernel_rfl) (by kernel_rfl) (fun _ _ _ h => h) (Or.inl ⟨by kernel_rfl, ?h1x182⟩) (by assumption) ?r1x182
  case h1x182 => (intro w hSw; obtain ⟨b0, b1, b2, b3, b4, b5, b6, b7, b8, b9, b10, b11, b12, b13, b17, b18, b19, b26, bf12, bf17, bf18, bf19, bz⟩ := tak_box hSw; go_simp; first | done | (with_reducible rfl))
  try simp only [Act.put]
  try simp only [List.setIfInBounds_toArray]
  try simp only [List.set_cons_succ]
  try simp only [List.set_cons_zero]
  refine wpAnyH_take_at (i := 2) (v := ?v2x183) (some 103) rfl rfl (by kernel_rfl) (by kernel_rfl) (by kernel_rfl) (fun _ _ _ h => h) (Or.inl ⟨by kernel_rfl, ?h2x183⟩) (by assumption) ?r2x183
  case h2x183 => (intro w hSw; obtain ⟨b0, b1, b2, b3, b4, b5, b6, b7, b8, b9, b10, b11, b12, b13, b17, b18, b19, b26, bf12, bf17, bf18, bf19, bz⟩ := tak_box hSw; go_simp; first | done | (with_reducible rfl))
  try simp only [Act.put]
  try simp only [List.setIfInBounds_toArray]
  try simp only [List.set_cons_succ]
  try simp only [List.set_cons_zero]
  refine wpAnyH_take_at (i := 3) (v := ?v3x184) (some 104) rfl rfl (by kernel_rfl) (by kernel_rfl) (by kernel_rfl) (fun _ _ _ h => h) (Or.inl ⟨by kernel_rfl, ?h3x184⟩) (by assumption) ?r3x184
  case h3x184 => (intro w hSw; obtain ⟨b0, b1, b2, b3, b4, b5, b6, b7, b8, b9, b10, b11, b12, b13, b17, b18, b19, b26, bf12, bf17, bf18, bf19, bz⟩ := tak_box hSw; go_simp; first | done | (with_reducible rfl))
  try simp only [Act.put]
  try simp only [List.setIfInBounds_toArray]
  try simp only [List.set_cons_succ]
  try simp only [List.set_cons_zero]
  refine wpAnyH_take_at (i := 4) (v := ?v4x185) (some 105) rfl rfl (by kernel_rfl) (by kernel_rfl) (by kernel_rfl) (fun _ _ _ h => h) (Or.inl ⟨by kernel_rfl, ?h4x185⟩) (by assumption) ?r4x185
  case h4x185 => (intro w hSw; obtain ⟨b0, b1, b2, b3, b4, b5, b6, b7, b8, b9, b10, b11, b12, b13, b17, b18, b19, b26, bf12, bf17, bf18, bf19, bz⟩ := tak_box hSw; go_simp; first | done | (with_reducible rfl))
  try simp only [Act.put]
  try simp only [List.setIfInBounds_toArray]
  try simp only [List.set_cons_succ]
  try simp only [List.set_cons_zero]
  refine wpAnyH_take_at (i := 5) (v := ?v5x186) (some 106) rfl rfl (by kernel_rfl) (by kernel_rfl) (by kernel_rfl) (fun _ _ _ h => h) (Or.inl ⟨by kernel_rfl, ?h5x186⟩) (by assumption) ?r5x186
  case h5x186 => (intro w hSw; obtain ⟨b0, b1, b2, b3, b4, b5, b6, b7, b8, b9, b10, b11, b12, b13, b17, b18, b19, b26, bf12, bf17, bf18, bf19, bz⟩ := tak_box hSw; go_simp; first | done | (with_reducible rfl))
  try simp only [Act.put]
  try simp only [List.setIfInBounds_toArray]
  try simp only [List.set_cons_succ]
  try simp only [List.set_cons_zero]
  refine wpAnyH_take_at (i := 6) (v := ?v6x187) (some 107) rfl rfl (by kernel_rfl) (by kernel_rfl) (by kernel_rfl) (fun _ _ _ h => h) (Or.inl ⟨by kernel_rfl, ?h6x187⟩) (by assumption) ?r6x187
  case h6x187 => (intro w hSw; obtain ⟨b0, b1, b2, b3, b4, b5, b6, b7, b8, b9, b10, b11, b12, b13, b17, b18, b19, b26, bf12, bf17, bf18, bf19, bz⟩ := tak_box hSw; go_simp; first | done | (with_reducible rfl))
  try simp only [Act.put]
  try simp only [List.setIfInBounds_toArray]
  try simp only [List.set_cons_succ]
  try simp only [List.set_cons_zero]
  refine wpAnyH_take_at (i := 7) (v := ?v7x188) (some 108) rfl rfl (by kernel_rfl) (by kernel_rfl) (by kernel_rfl) (fun _ _ _ h => h) (Or.inl ⟨by kernel_rfl, ?h7x188⟩) (by assumption) ?r7x188
  case h7x188 => (intro w hSw; obtain ⟨b0, b1, b2, b3, b4, b5, b6, b7, b8, b9, b10, b11, b12, b13, b17, b18, b19, b26, bf12, bf17, bf18, bf19, bz⟩ := tak_box hSw; go_simp; first | done | (with_reducible rfl))
  try simp only [Act.put]
  try simp only [List.setIfInBounds_toArray]
  try simp only [List.set_cons_succ]
  try simp only [List.set_cons_zero]
  refine wpAnyH_take_at (i := 8) (v := ?v8x189) (some 109) rfl rfl (by kernel_rfl) (by kernel_rfl) (by kernel_rfl) (fun _ _ _ h => h) (Or.inl ⟨by kernel_rfl, ?h8x189⟩) (by assumption) ?r8x189
  case h8x189 => (intro w hSw; obtain ⟨b0, b1, b2, b3, b4, b5, b6, b7, b8, b9, b10, b11, b12, b13, b17, b18, b19, b26, bf12, bf17, bf18, bf19, bz⟩ := tak_box hSw; go_simp; first | done | (with_reducible rfl))
  try simp only [Act.put]
  try simp only [List.setIfInBounds_toArray]
  try simp only [List.set_cons_succ]
  try simp only [List.set_cons_zero]
  refine wpAnyH_take_at (i := 9) (v := ?v9x190) (some 110) rfl rfl (by kernel_rfl) (by kernel_rfl) (by kernel_rfl) (fun _ _ _ h => h) (Or.inl ⟨by kernel_rfl, ?h9x190⟩) (by assumption) ?r9x190
  case h9x190 => (intro w hSw; obtain ⟨b0, b1, b2, b3, b4, b5, b6, b7, b8, b9, b10, b11, b12, b13, b17, b18, b19, b26, bf12, bf17, bf18, bf19, bz⟩ := tak_box hSw; go_simp; first | done | (with_reducible rfl))
  try simp only [Act.put]
  try simp only [List.setIfInBounds_toArray]
  try simp only [List.set_cons_succ]
  try simp only [List.set_cons_zero]
  refine wpAnyH_take_at (i := 10) (v := ?v10x191) (some 111) rfl rfl (by kernel_rfl) (by kernel_rfl) (by kernel_rfl) (fun _ _ _ h => h) (Or.inl ⟨by kernel_rfl, ?h10x191⟩) (by assumption) ?r10x191
  case h10x191 => (intro w hSw; obtain ⟨b0, b1, b2, b3, b4, b5, b6, b7, b8, b9, b10, b11, b12, b13, b17, b18, b19, b26, bf12, bf17, bf18, bf19, bz⟩ := tak_box hSw; go_simp; first | done | (with_reducible rfl))
  try simp only [Act.put]
  try simp only [List.setIfInBounds_toArray]
  try simp only [List.set_cons_succ]
  try simp only [List.set_cons_zero]
  refine wpAnyH_take_at (i := 11) (v := ?v11x192) (some 112) rfl rfl (by kernel_rfl) (by kernel_rfl) (by kernel_rfl) (fun _ _ _ h => h) (Or.inl ⟨by kernel_rfl, ?h11x192⟩) (by assumption) ?r11x192
  case h11x192 => (intro w hSw; obtain ⟨b0, b1, b2, b3, b4, b5, b6, b7, b8, b9, b10, b11, b12, b13, b17, b18, b19, b26, bf12, bf17, bf18, bf19, bz⟩ := tak_box hSw; go_simp; first | done | (with_reducible rfl))
  try simp only [Act.put]
  try simp only [List.setIfInBounds_toArray]
  try simp only [List.set_cons_succ]
  try simp only [List.set_cons_zero]
  refine wpAnyH_take_at (i := 12) (v := ?v12x193) (some 113) rfl rfl (by kernel_rfl) (by kernel_rfl) (by kernel_rfl) (fun _ _ _ h => h) (Or.inl ⟨by kernel_rfl, ?h12x193⟩) (by assumption) ?r12x193
  case h12x193 => (intro w hSw; obtain ⟨b0, b1, b2, b3, b4, b5, b6, b7, b8, b9, b10, b11, b12, b13, b17, b18, b19, b26, bf12, bf17, bf18, bf19, bz⟩ := tak_box hSw; go_simp; first | done | (with_reducible rfl))
  try simp only [Act.put]
  try simp only [List.setIfInBounds_toArray]
  try simp only [List.set_cons_succ]
  try simp only [List.set_cons_zero]
  refine wpAnyH_take_at (i := 13) (v := ?v13x194) (some 114) rfl rfl (by kernel_rfl) (by kernel_rfl) (by kernel_rfl) (fun _ _ _ h => h) (Or.inl ⟨by kernel_rfl, ?h13x194⟩) (by assumption) ?r13x194
  case h13x194 => (intro w hSw; obtain ⟨b0, b1, b2, b3, b4, b5, b6, b7, b8, b9, b10, b11, b12, b13, b17, b18, b19, b26, bf12, bf17, bf18, bf19, bz⟩ := tak_box hSw; go_simp; first | done | (with_reducible rfl))
  try simp only [Act.put]
  try simp only [List.setIfInBounds_toArray]
  try simp only [List.set_cons_succ]
  try simp only [List.set_cons_zero]
  refine wpAnyH_take_at (i := 14) (v := ?v14x195) (some 115) rfl rfl (by kernel_rfl) (by kernel_rfl) (by kernel_rfl) (fun _ _ _ h => h) (Or.inl ⟨by kernel_rfl, ?h14x195⟩) (by assumption) ?r14x195
  case h14x195 => (intro w hSw; obtain ⟨b0, b1, b2, b3, b4, b5, b6, b7, b8, b9, b10, b11, b12, b13, b17, b18, b19, b26, bf12, bf17, bf18, bf19, bz⟩ := tak_box hSw; go_simp; first | done | (with_reducible rfl))
  try simp only [Act.put]
  try simp only [List.setIfInBounds_toArray]
  try simp only [List.set_cons_succ]
  try simp only [List.set_cons_zero]
  refine wpAnyH_ready (rs := [15]) (by kernel_rfl) (by simp) ?_
  refine AllReadyH.cons rfl (fun K hK => ?_) AllReadyH.nil
  go_simp
  refine (HRp _).out.mono ?_
  rintro e' y10 ⟨rfl, hb⟩
  go_simp
  have hK1 := hK0.call hb
  have hA1 := hA0.below hb
  refine hK.out _ _ (row_below hS hb) (fun hS => ?_)
  clear hK K
  try simp only [Act.put]
  try simp only [List.setIfInBounds_toArray]
  try simp only [List.set_cons_succ]
  try simp only [List.set_cons_zero]
  refine wpAnyH_take_at (i := 16) (v := ?v16x196) (some 100) rfl rfl (by kernel_rfl) (by kernel_rfl) (by kernel_rfl) (fun _ _ _ h => h) (Or.inl ⟨by kernel_rfl, ?h16x196⟩) (by assumption) ?r16x196
  case h16x196 => (intro w hSw; obtain ⟨b0, b1, b2, b3, b4, b5, b6, b7, b8, b9, b10, b11, b12, b13, b17, b18, b19, b26, bf12, bf17, bf18, bf19, bz⟩ := tak_box hSw; go_simp; first | done | (with_reducible rfl))
  try simp only [Act.put]
  try simp only [List.setIfInBounds_toArray]
  try simp only [List.set_cons_succ]
  try simp only [List.set_cons_zero]
  refine wpAnyH_take_at (i := 17) (v := ?v17x197) (some 117) rfl rfl (by kernel_rfl) (by kernel_rfl) (by kernel_rfl) (fun _ _ _ h => h) (Or.inl ⟨by kernel_rfl, ?h17x197⟩) (by assumption) ?r17x197
  case h17x197 => (intro w hSw; obtain ⟨b0, b1, b2, b3, b4, b5, b6, b7, b8, b9, b10, b11, b12, b13, b17, b18, b19, b26, bf12, bf17, bf18, bf19, bz⟩ := tak_box hSw; go_simp; first | done | (with_reducible rfl))
  try simp only [Act.put]
  try simp only [List.setIfInBounds_toArray]
  try simp only [List.set_cons_succ]
  try simp only [List.set_cons_zero]
  refine wpAnyH_take_at (i := 18) (v := ?v18x198) (some 118) rfl rfl (by kernel_rfl) (by kernel_rfl) (by kernel_rfl) (fun _ _ _ h => h) (Or.inl ⟨by kernel_rfl, ?h18x198⟩) (by assumption) ?r18x198
  case h18x198 => (intro w hSw; obtain ⟨b0, b1, b2, b3, b4, b5, b6, b7, b8, b9, b10, b11, b12, b13, b17, b18, b19, b26, bf12, bf17, bf18, bf19, bz⟩ := tak_box hSw; go_simp; first | done | (with_reducible rfl))
  try simp only [Act.put]
  try simp only [List.setIfInBounds_toArray]
  try simp only [List.set_cons_succ]
  try simp only [List.set_cons_zero]
  refine wpAnyH_take_at (i := 19) (v := ?v19x199) (some 14) rfl rfl (by kernel_rfl) (by kernel_rfl) (by kernel_rfl) (fun _ _ _ h => h) (Or.inl ⟨by kernel_rfl, ?h19x199⟩) (by assumption) ?r19x199
  case h19x199 => (intro w hSw; obtain ⟨b0, b1, b2, b3, b4, b5, b6, b7, b8, b9, b10, b11, b12, b13, b17, b18, b19, b26, bf12, bf17, bf18, bf19, bz⟩ := tak_box hSw; go_simp; first | done | (with_reducible rfl))
  try simp only [Act.put]
  try simp only [List.setIfInBounds_toArray]
  try simp only [List.set_cons_succ]
  try simp only [List.set_cons_zero]
  refine wpAnyH_take_at (i := 20) (v := ?v20x200) (some 15) rfl rfl (by kernel_rfl) (by kernel_rfl) (by kernel_rfl) (fun _ _ _ h => h) (Or.inl ⟨by kernel_rfl, ?h20x200⟩) (by assumption) ?r20x200
  case h20x200 => (intro w hSw; obtain ⟨b0, b1, b2, b3, b4, b5, b6, b7, b8, b9, b10, b11, b12, b13, b17, b18, b19, b26, bf12, bf17, bf18, bf19, bz⟩ := tak_box hSw; go_simp; first | done | (with_reducible rfl))
  try simp only [Act.put]
  try simp only [List.setIfInBounds_toArray]
  try simp only [List.set_cons_succ]
  try simp only [List.set_cons_zero]
  refine wpAnyH_done (by kernel_rfl) ?_ _
  have HT := Lib.hid hS
  have HA1 := Lib.hid hA1
  have HK := Lib.hid hK1
  clear hS hA1 hK1 hK0 hA0 hb
  obtain ⟨v0, v1, v2, v3, v4, v5, v6, v7, v8, v9, v10, v11, v12, v13, v17, v18, v19, v26, vf12, vf17, vf18, vf19, vz⟩ := tak_box HT.out
  go_wp2_with (refine wpList_load_sub rfl 42 (.tmp 122) rfl g 5 rfl 102 (preArr (takPre p s t i h) r.arr) r.arr (0, 0) _ HT.out (fun j v h => by rw [pre_get _ _ (5 + j) j rfl]; exact h) undRun rfl infoRun ?_)
  refine (tell_any r 0 hd _ HSd.out).mono ?_
  rintro e' z1 ⟨rfl, hb⟩
  replace HT := Lib.hid (row_below HT.out hb)
  replace HA1 := Lib.hid (HA1.out.below hb)
  replace HK := Lib.hid (HK.out.call hb)
  clear hb v0 v1 v2 v3 v4 v5 v6 v7 v8 v9 v10 v11 v12 v13 v17 v18 v19 v26 vf12 vf17 vf18 vf19 vz
  go_wp2_with (refine wpList_store_sub rfl 42 (.tmp 128) (.tmp 126) rfl g 5 (toldR r 0 hd noS).arr rfl rfl 102 _ HT.out infoRun (by rw [pre_size]; exact Nat.le_refl _) (Rn.one _) ?_)
  first | go_end0 | refine bodyPost_ret (results_none rfl _ _ _) rfl ?_
  have hC8 : (z1.setRow g (subSet (preArr (takPre p s t i h) r.arr) 5 (toldR r 0 hd noS).arr)).heap[g]? = some (.cells (preArr (takPre p s t i h) (toldR r 0 hd noS).arr) 102 (0, 0)) := (setRow_heap z1 g _ (subSet (preArr (takPre p s t i h) r.arr) 5 (toldR r 0 hd noS).arr) _ (0, 0) HT.out).trans (by rw [pre_sub _ r.arr (toldR r 0 hd noS).arr 5 rfl rfl])
  have hKs := (Keep.refl [g] z1).setRow (g := g) (.inl (by simp)) (subSet (preArr (takPre p s t i h) r.arr) 5 (toldR r 0 hd noS).arr)
  exact ⟨rfl, hC8, HA1.out.kept hKs (by simpa using fun e => Hgn.out.1 e.symm) (by simpa using fun e => Hgn.out.2 e.symm), (HK.out.mono (T := [g, b]) (fun i _ h => by simp at h ⊢; exact .inr h)).then hKs (fun i _ h => by simp at h ⊢; exact .inl h)⟩


end Go.Proofs.Ytoadddfiibeenaa
