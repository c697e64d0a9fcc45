/- Layer 16: the walk of slots.use.last. (Printed by gen_usel.py.) Layer 16: the walk of slots.use.value. (Printed by gen_usev.py.) Layer 16: the walk of slots.use.hand. (Printed by gen_hand.py.) -/
import Derived.Test.YtnimaajnlkbdaaaGreatUseH
namespace Go.Proofs.YtnimaajnlkbdaaaGreat
open Go.RowKit
set_option linter.unusedVariables false
set_option linter.unusedSimpArgs false

set_option maxRecDepth 100000 in
set_option maxHeartbeats 4000000 in
theorem useLast_load (g p b : Nat) (s t i h : Int) (ws : List Int) (k : Nat) (x : Int) (r : Rn) (w : World) (H : PlanOk s t i h) (hT : Use w g p s t i h r 0) (hA : Arn w p b ws) (hk : ws[k]? = some x) (hp : r.pc = 9) (ha : r.at_ = ((k * 8 : Nat) : Int)) (hx : x ≤ 9223372036854775807) :
  Calls Tryz.prog 36 #[.pointer (some ⟨g, 0, none⟩)] w fun e w' => e = .returned (.int .i64 x) ∧ Below w.heap.size w w' := by
 have hx0 := (hA.ok x (List.mem_of_getElem? hk)).1
 have HW := fun w' (h' : Arn w' p b ws) => Lib.hid (arnWord_any p b ws k x w' h' hk)
 rw [← ha] at HW
 have xw : IntKind.i64.wrap x = x := IntWalk.i64_in _ (by omega)
 have HT := Lib.hid hT
 have HA := Lib.hid hA
 clear H hT hA hk ha
 obtain ⟨v0, v1, v2, v3, v4, v5, v9, v10, v12, v14, v15, v16, v19, v31, vf12, vf19, vf31, vz⟩ := use_box HT.out
 rw [hp] at v12
 clear hp
 go_enter Tryz.func36, Tryz.ntmps36
 go_wp2_with fail
 refine (HW _ HA.out).out.mono ?_
 rintro r2 wa ⟨rfl, e2⟩
 rw [e2]
 clear e2 wa
 go_wp2_with fail
 go_ret
 exact ⟨rfl, by go_grown⟩
set_option maxRecDepth 100000 in
set_option maxHeartbeats 4000000 in
theorem useLast_store (g p b : Nat) (s t i h : Int) (ws : List Int) (k : Nat) (x : Int) (r : Rn) (w : World) (H : PlanOk s t i h) (hT : Use w g p s t i h r 0) (hA : Arn w p b ws) (hk : ws[k]? = some x) (hp : r.pc = 10) (ha : r.at_ = ((k * 8 : Nat) : Int)) (hgb : g ≠ b) (hv : 0 ≤ r.val ∧ r.val < 18446744073709551616) :
  Calls Tryz.prog 36 #[.pointer (some ⟨g, 0, none⟩)] w fun e w' => e = .returned (.int .i64 0) ∧ Arn w' p b (ws.set k r.val) ∧ Use w' g p s t i h r 0 ∧ Keep [b] w w' := by
 have HPt := fun w' (h' : Arn w' p b ws) => Lib.hid (arnPut_any p b ws k x r.val w' h' hk hv)
 rw [← ha] at HPt
 have Hgb := Lib.hid hgb
 have HT := Lib.hid hT
 have HA := Lib.hid hA
 clear H hT hA hk ha hgb hv
 obtain ⟨v0, v1, v2, v3, v4, v5, v9, v10, v12, v14, v15, v16, v19, v31, vf12, vf19, vf31, vz⟩ := use_box HT.out
 rw [hp] at v12
 clear hp
 go_enter Tryz.func36, Tryz.ntmps36
 go_wp2_with fail
 refine wp_region_held_drew (S := fun W => Use W g p s t i h r 0) (by kernel_rfl) (show Use w.drew g p s t i h r 0 from HT.out) ?_
 intro hS
 have hA0 : Arn w.drew p b ws := HA.out.drew
 have hB0 : Below w.heap.size w w.drew := by go_grown
 clear v0 v1 v2 v3 v4 v5 v9 v10 v12 v14 v15 v16 v19 v31 vf12 vf19 vf31 vz
 generalize w.drew = y0 at hS hA0 hB0 ⊢
 refine tk (i := 0) (v := ?v0x19) (some 61) rfl rfl (Or.inl ⟨by kernel_rfl, ?h0x19⟩) ?r0x19
 case h0x19 => (intro w hSw; obtain ⟨b0, b1, b2, b3, b4, b5, b9, b10, b12, b14, b15, b16, b19, b31, bf12, bf19, bf31, bz⟩ := use_box hSw; go_simp; first | done | (with_reducible rfl))
 try simp only [Act.put, List.setIfInBounds_toArray, List.set_cons_succ, List.set_cons_zero]
 refine tk (i := 1) (v := ?v1x20) (some 62) rfl rfl (Or.inl ⟨by kernel_rfl, ?h1x20⟩) ?r1x20
 case h1x20 => (intro w hSw; obtain ⟨b0, b1, b2, b3, b4, b5, b9, b10, b12, b14, b15, b16, b19, b31, bf12, bf19, bf31, bz⟩ := use_box hSw; go_simp; first | done | (with_reducible rfl))
 try simp only [Act.put, List.setIfInBounds_toArray, List.set_cons_succ, List.set_cons_zero]
 refine tk (i := 2) (v := ?v2x21) (some 63) rfl rfl (Or.inl ⟨by kernel_rfl, ?h2x21⟩) ?r2x21
 case h2x21 => (intro w hSw; obtain ⟨b0, b1, b2, b3, b4, b5, b9, b10, b12, b14, b15, b16, b19, b31, bf12, bf19, bf31, bz⟩ := use_box hSw; go_simp; first | done | (with_reducible rfl))
 try simp only [Act.put, List.setIfInBounds_toArray, List.set_cons_succ, List.set_cons_zero]
 refine tk (i := 3) (v := ?v3x22) (some 64) rfl rfl (Or.inl ⟨by kernel_rfl, ?h3x22⟩) ?r3x22
 case h3x22 => (intro w hSw; obtain ⟨b0, b1, b2, b3, b4, b5, b9, b10, b12, b14, b15, b16, b19, b31, bf12, bf19, bf31, bz⟩ := use_box hSw; go_simp; first | done | (with_reducible rfl))
 try simp only [Act.put, List.setIfInBounds_toArray, List.set_cons_succ, List.set_cons_zero]
 refine tk (i := 4) (v := ?v4x23) (some 65) rfl rfl (Or.inl ⟨by kernel_rfl, ?h4x23⟩) ?r4x23
 case h4x23 => (intro w hSw; obtain ⟨b0, b1, b2, b3, b4, b5, b9, b10, b12, b14, b15, b16, b19, b31, bf12, bf19, bf31, bz⟩ := use_box hSw; go_simp; first | done | (with_reducible rfl))
 try simp only [Act.put, List.setIfInBounds_toArray, List.set_cons_succ, List.set_cons_zero]
 refine tk (i := 5) (v := ?v5x24) (some 66) rfl rfl (Or.inl ⟨by kernel_rfl, ?h5x24⟩) ?r5x24
 case h5x24 => (intro w hSw; obtain ⟨b0, b1, b2, b3, b4, b5, b9, b10, b12, b14, b15, b16, b19, b31, bf12, bf19, bf31, bz⟩ := use_box hSw; go_simp; first | done | (with_reducible rfl))
 try simp only [Act.put, List.setIfInBounds_toArray, List.set_cons_succ, List.set_cons_zero]
 refine tk (i := 6) (v := ?v6x25) (some 67) rfl rfl (Or.inl ⟨by kernel_rfl, ?h6x25⟩) ?r6x25
 case h6x25 => (intro w hSw; obtain ⟨b0, b1, b2, b3, b4, b5, b9, b10, b12, b14, b15, b16, b19, b31, bf12, bf19, bf31, bz⟩ := use_box hSw; go_simp; first | done | (with_reducible rfl))
 try simp only [Act.put, List.setIfInBounds_toArray, List.set_cons_succ, List.set_cons_zero]
 refine tk (i := 7) (v := ?v7x26) (some 68) rfl rfl (Or.inl ⟨by kernel_rfl, ?h7x26⟩) ?r7x26
 case h7x26 => (intro w hSw; obtain ⟨b0, b1, b2, b3, b4, b5, b9, b10, b12, b14, b15, b16, b19, b31, bf12, bf19, bf31, bz⟩ := use_box hSw; go_simp; first | done | (with_reducible rfl))
 try simp only [Act.put, List.setIfInBounds_toArray, List.set_cons_succ, List.set_cons_zero]
 refine tk (i := 8) (v := ?v8x27) (some 69) rfl rfl (Or.inl ⟨by kernel_rfl, ?h8x27⟩) ?r8x27
 case h8x27 => (intro w hSw; obtain ⟨b0, b1, b2, b3, b4, b5, b9, b10, b12, b14, b15, b16, b19, b31, bf12, bf19, bf31, bz⟩ := use_box hSw; go_simp; first | done | (with_reducible rfl))
 try simp only [Act.put, List.setIfInBounds_toArray, List.set_cons_succ, List.set_cons_zero]
 refine tk (i := 9) (v := ?v9x28) (some 70) rfl rfl (Or.inl ⟨by kernel_rfl, ?h9x28⟩) ?r9x28
 case h9x28 => (intro w hSw; obtain ⟨b0, b1, b2, b3, b4, b5, b9, b10, b12, b14, b15, b16, b19, b31, bf12, bf19, bf31, bz⟩ := use_box hSw; go_simp; first | done | (with_reducible rfl))
 try simp only [Act.put, List.setIfInBounds_toArray, List.set_cons_succ, List.set_cons_zero]
 refine wpAnyH_ready (rs := [10]) (by kernel_rfl) (by simp) ?_
 refine AllReadyH.cons rfl (fun K hK => ?_) AllReadyH.nil
 go_simp
 refine (HPt _ hA0).out.mono ?_
 rintro e' y1 ⟨rfl, hA1, hK1⟩
 go_simp
 have hS1 : Use y1 g p s t i h r 0 := hK1.row hS (by simpa using Hgb.out)
 refine hK.out _ _ (hS1) (fun hS => ?_)
 clear hK K
 try simp only [Act.put, List.setIfInBounds_toArray, List.set_cons_succ, List.set_cons_zero]
 refine wpAnyH_done (by kernel_rfl) ?_ _
 go_wp2_with fail
 go_ret
 exact ⟨rfl, hA1, hS1, (keep_below hB0 [b]).trans hK1⟩

set_option maxRecDepth 100000 in
set_option maxHeartbeats 4000000 in
theorem useLast_portal (g p b : Nat) (s t i h : Int) (ws : List Int) (k : Nat) (x : Int) (r : Rn) (w : World) (H : PlanOk s t i h) (hT : Use w g p s t i h r 0) (hA : Arn w p b ws) (hk : ws[k]? = some x) (hp : r.pc = 11) (ha : (k : Int) = 8 * r.c.a + 4) (ha2 : 0 ≤ r.c.a ∧ r.c.a ≤ s - 1) (hx : x ≤ 9223372036854775807) :
  Calls Tryz.prog 36 #[.pointer (some ⟨g, 0, none⟩)] w fun e w' => e = .returned (.int .i64 x) ∧ Below w.heap.size w w' := by
 have hx0 := (hA.ok x (List.mem_of_getElem? hk)).1
 have HW := fun w' (h' : Arn w' p b ws) => Lib.hid (arnWord_any p b ws k x w' h' hk)
 have HPl := fun w' => Lib.hid (planAt_any s t i h 4 r.c.a w' H (by decide) ha2)
 have He := Lib.hid (show 64 * r.c.a + 8 * 4 = ((k * 8 : Nat) : Int) by omega)
 obtain ⟨m, Hm⟩ : ∃ m, m = ((k * 8 : Nat) : Int) := ⟨_, rfl⟩
 rw [← Hm] at HW He
 have xw : IntKind.i64.wrap x = x := IntWalk.i64_in _ (by omega)
 have HT := Lib.hid hT
 have HA := Lib.hid hA
 clear H hT hA hk ha ha2 Hm
 obtain ⟨v0, v1, v2, v3, v4, v5, v9, v10, v12, v14, v15, v16, v19, v31, vf12, vf19, vf31, vz⟩ := use_box HT.out
 rw [hp] at v12
 clear hp
 go_enter Tryz.func36, Tryz.ntmps36
 go_wp2_with fail
 refine wp_region_held_drew (S := fun W => Use W g p s t i h r 0) (by kernel_rfl) (show Use w.drew g p s t i h r 0 from HT.out) ?_
 intro hS
 have hA0 : Arn w.drew p b ws := HA.out.drew
 have hB0 : Below w.heap.size w w.drew := by go_grown
 generalize w.drew = y0 at hS hA0 hB0 ⊢
 clear v0 v1 v2 v3 v4 v5 v9 v10 v12 v14 v15 v16 v19 v31 vf12 vf19 vf31 vz
 refine tk (i := 0) (v := ?v0x29) (some 23) rfl rfl (Or.inl ⟨by kernel_rfl, ?h0x29⟩) ?r0x29
 case h0x29 => (intro w hSw; obtain ⟨b0, b1, b2, b3, b4, b5, b9, b10, b12, b14, b15, b16, b19, b31, bf12, bf19, bf31, bz⟩ := use_box hSw; go_simp; first | done | (with_reducible rfl))
 try simp only [Act.put, List.setIfInBounds_toArray, List.set_cons_succ, List.set_cons_zero]
 refine tk (i := 1) (v := ?v1x30) (some 24) rfl rfl (Or.inl ⟨by kernel_rfl, ?h1x30⟩) ?r1x30
 case h1x30 => (intro w hSw; obtain ⟨b0, b1, b2, b3, b4, b5, b9, b10, b12, b14, b15, b16, b19, b31, bf12, bf19, bf31, bz⟩ := use_box hSw; go_simp; first | done | (with_reducible rfl))
 try simp only [Act.put, List.setIfInBounds_toArray, List.set_cons_succ, List.set_cons_zero]
 refine tk (i := 2) (v := ?v2x31) (some 25) rfl rfl (Or.inl ⟨by kernel_rfl, ?h2x31⟩) ?r2x31
 case h2x31 => (intro w hSw; obtain ⟨b0, b1, b2, b3, b4, b5, b9, b10, b12, b14, b15, b16, b19, b31, bf12, bf19, bf31, bz⟩ := use_box hSw; go_simp; first | done | (with_reducible rfl))
 try simp only [Act.put, List.setIfInBounds_toArray, List.set_cons_succ, List.set_cons_zero]
 refine tk (i := 3) (v := ?v3x32) (some 26) rfl rfl (Or.inl ⟨by kernel_rfl, ?h3x32⟩) ?r3x32
 case h3x32 => (intro w hSw; obtain ⟨b0, b1, b2, b3, b4, b5, b9, b10, b12, b14, b15, b16, b19, b31, bf12, bf19, bf31, bz⟩ := use_box hSw; go_simp; first | done | (with_reducible rfl))
 try simp only [Act.put, List.setIfInBounds_toArray, List.set_cons_succ, List.set_cons_zero]
 refine tk (i := 4) (v := ?v4x33) (some 27) rfl rfl (Or.inl ⟨by kernel_rfl, ?h4x33⟩) ?r4x33
 case h4x33 => (intro w hSw; obtain ⟨b0, b1, b2, b3, b4, b5, b9, b10, b12, b14, b15, b16, b19, b31, bf12, bf19, bf31, bz⟩ := use_box hSw; go_simp; first | done | (with_reducible rfl))
 try simp only [Act.put, List.setIfInBounds_toArray, List.set_cons_succ, List.set_cons_zero]
 refine tk (i := 5) (v := ?v5x34) (some 28) rfl rfl (Or.inl ⟨by kernel_rfl, ?h5x34⟩) ?r5x34
 case h5x34 => (intro w hSw; obtain ⟨b0, b1, b2, b3, b4, b5, b9, b10, b12, b14, b15, b16, b19, b31, bf12, bf19, bf31, bz⟩ := use_box hSw; go_simp; first | done | (with_reducible rfl))
 try simp only [Act.put, List.setIfInBounds_toArray, List.set_cons_succ, List.set_cons_zero]
 refine tk (i := 6) (v := ?v6x35) (some 29) rfl rfl (Or.inl ⟨by kernel_rfl, ?h6x35⟩) ?r6x35
 case h6x35 => (intro w hSw; obtain ⟨b0, b1, b2, b3, b4, b5, b9, b10, b12, b14, b15, b16, b19, b31, bf12, bf19, bf31, bz⟩ := use_box hSw; go_simp; first | done | (with_reducible rfl))
 try simp only [Act.put, List.setIfInBounds_toArray, List.set_cons_succ, List.set_cons_zero]
 refine tk (i := 7) (v := ?v7x36) (some 30) rfl rfl (Or.inl ⟨by kernel_rfl, ?h7x36⟩) ?r7x36
 case h7x36 => (intro w hSw; obtain ⟨b0, b1, b2, b3, b4, b5, b9, b10, b12, b14, b15, b16, b19, b31, bf12, bf19, bf31, bz⟩ := use_box hSw; go_simp; first | done | (with_reducible rfl))
 try simp only [Act.put, List.setIfInBounds_toArray, List.set_cons_succ, List.set_cons_zero]
 refine tk (i := 8) (v := ?v8x37) (some 31) rfl rfl (Or.inl ⟨by kernel_rfl, ?h8x37⟩) ?r8x37
 case h8x37 => (intro w hSw; obtain ⟨b0, b1, b2, b3, b4, b5, b9, b10, b12, b14, b15, b16, b19, b31, bf12, bf19, bf31, bz⟩ := use_box hSw; go_simp; first | done | (with_reducible rfl))
 try simp only [Act.put, List.setIfInBounds_toArray, List.set_cons_succ, List.set_cons_zero]
 refine tk (i := 9) (v := ?v9x38) (some 32) rfl rfl (Or.inl ⟨by kernel_rfl, ?h9x38⟩) ?r9x38
 case h9x38 => (intro w hSw; obtain ⟨b0, b1, b2, b3, b4, b5, b9, b10, b12, b14, b15, b16, b19, b31, bf12, bf19, bf31, bz⟩ := use_box hSw; go_simp; first | done | (with_reducible rfl))
 try simp only [Act.put, List.setIfInBounds_toArray, List.set_cons_succ, List.set_cons_zero]
 refine wpAnyH_ready (rs := [10]) (by kernel_rfl) (by simp) ?_
 refine AllReadyH.cons rfl (fun K hK => ?_) AllReadyH.nil
 go_simp
 refine (HPl _).out.mono ?_
 rintro e' y1 ⟨rfl, hb⟩
 rw [He.out]
 go_simp
 replace hA0 := hA0.below hb
 replace hB0 := below_only hB0 hb
 refine hK.out _ _ (row_below hS hb) (fun hS => ?_)
 clear hK K
 try simp only [Act.put, List.setIfInBounds_toArray, List.set_cons_succ, List.set_cons_zero]
 refine tk (i := 11) (v := ?v11x39) (some 22) rfl rfl (Or.inl ⟨by kernel_rfl, ?h11x39⟩) ?r11x39
 case h11x39 => (intro w hSw; obtain ⟨b0, b1, b2, b3, b4, b5, b9, b10, b12, b14, b15, b16, b19, b31, bf12, bf19, bf31, bz⟩ := use_box hSw; go_simp; first | done | (with_reducible rfl))
 try simp only [Act.put, List.setIfInBounds_toArray, List.set_cons_succ, List.set_cons_zero]
 refine tk (i := 12) (v := ?v12x40) (some 34) rfl rfl (Or.inl ⟨by kernel_rfl, ?h12x40⟩) ?r12x40
 case h12x40 => (intro w hSw; obtain ⟨b0, b1, b2, b3, b4, b5, b9, b10, b12, b14, b15, b16, b19, b31, bf12, bf19, bf31, bz⟩ := use_box hSw; go_simp; first | done | (with_reducible rfl))
 try simp only [Act.put, List.setIfInBounds_toArray, List.set_cons_succ, List.set_cons_zero]
 refine tk (i := 13) (v := ?v13x41) (some 35) rfl rfl (Or.inl ⟨by kernel_rfl, ?h13x41⟩) ?r13x41
 case h13x41 => (intro w hSw; obtain ⟨b0, b1, b2, b3, b4, b5, b9, b10, b12, b14, b15, b16, b19, b31, bf12, bf19, bf31, bz⟩ := use_box hSw; go_simp; first | done | (with_reducible rfl))
 try simp only [Act.put, List.setIfInBounds_toArray, List.set_cons_succ, List.set_cons_zero]
 refine tk (i := 14) (v := ?v14x42) (some 3) rfl rfl (Or.inl ⟨by kernel_rfl, ?h14x42⟩) ?r14x42
 case h14x42 => (intro w hSw; obtain ⟨b0, b1, b2, b3, b4, b5, b9, b10, b12, b14, b15, b16, b19, b31, bf12, bf19, bf31, bz⟩ := use_box hSw; go_simp; first | done | (with_reducible rfl))
 try simp only [Act.put, List.setIfInBounds_toArray, List.set_cons_succ, List.set_cons_zero]
 refine wpAnyH_done (by kernel_rfl) ?_ _
 have HT := Lib.hid hS
 have HA := Lib.hid hA0
 have HB := Lib.hid hB0
 clear hS hA0 hB0 hb
 obtain ⟨v0, v1, v2, v3, v4, v5, v9, v10, v12, v14, v15, v16, v19, v31, vf12, vf19, vf31, vz⟩ := use_box HT.out
 go_wp2_with fail
 refine (HW _ HA.out).out.mono ?_
 rintro r2 wa ⟨rfl, e2⟩
 rw [e2]
 clear e2 wa
 go_wp2_with fail
 go_ret
 exact ⟨rfl, HB.out⟩

set_option maxRecDepth 100000 in
set_option maxHeartbeats 4000000 in
theorem useLast_gate (g p b : Nat) (s t i h : Int) (ws : List Int) (k : Nat) (x : Int) (r : Rn) (w : World) (H : PlanOk s t i h) (hT : Use w g p s t i h r 0) (hA : Arn w p b ws) (hk : ws[k]? = some x) (hp : r.pc = 12) (ha : (k : Int) = 8 * r.c.a + 4) (ha2 : 0 ≤ r.c.a ∧ r.c.a ≤ s - 1) (hgb : g ≠ b) (hv : 0 ≤ r.val ∧ r.val < 18446744073709551616) :
  Calls Tryz.prog 36 #[.pointer (some ⟨g, 0, none⟩)] w fun e w' => e = .returned (.int .i64 0) ∧ Arn w' p b (ws.set k r.val) ∧ Use w' g p s t i h r 0 ∧ Keep [b] w w' := by
 have HPt := fun w' (h' : Arn w' p b ws) => Lib.hid (arnPut_any p b ws k x r.val w' h' hk hv)
 have HPl := fun w' => Lib.hid (planAt_any s t i h 4 r.c.a w' H (by decide) ha2)
 have He := Lib.hid (show 64 * r.c.a + 8 * 4 = ((k * 8 : Nat) : Int) by omega)
 obtain ⟨m, Hm⟩ : ∃ m, m = ((k * 8 : Nat) : Int) := ⟨_, rfl⟩
 rw [← Hm] at HPt He
 have Hgb := Lib.hid hgb
 have HT := Lib.hid hT
 have HA := Lib.hid hA
 clear H hT hA hk ha ha2 Hm hgb hv
 obtain ⟨v0, v1, v2, v3, v4, v5, v9, v10, v12, v14, v15, v16, v19, v31, vf12, vf19, vf31, vz⟩ := use_box HT.out
 rw [hp] at v12
 clear hp
 go_enter Tryz.func36, Tryz.ntmps36
 go_wp2_with fail
 refine wp_region_held_drew (S := fun W => Use W g p s t i h r 0) (by kernel_rfl) (show Use w.drew g p s t i h r 0 from HT.out) ?_
 intro hS
 have hA0 : Arn w.drew p b ws := HA.out.drew
 have hB0 : Below w.heap.size w w.drew := by go_grown
 generalize w.drew = y0 at hS hA0 hB0 ⊢
 clear v0 v1 v2 v3 v4 v5 v9 v10 v12 v14 v15 v16 v19 v31 vf12 vf19 vf31 vz
 refine tk (i := 0) (v := ?v0x53) (some 48) rfl rfl (Or.inl ⟨by kernel_rfl, ?h0x53⟩) ?r0x53
 case h0x53 => (intro w hSw; obtain ⟨b0, b1, b2, b3, b4, b5, b9, b10, b12, b14, b15, b16, b19, b31, bf12, bf19, bf31, bz⟩ := use_box hSw; go_simp; first | done | (with_reducible rfl))
 try simp only [Act.put, List.setIfInBounds_toArray, List.set_cons_succ, List.set_cons_zero]
 refine tk (i := 1) (v := ?v1x54) (some 49) rfl rfl (Or.inl ⟨by kernel_rfl, ?h1x54⟩) ?r1x54
 case h1x54 => (intro w hSw; obtain ⟨b0, b1, b2, b3, b4, b5, b9, b10, b12, b14, b15, b16, b19, b31, bf12, bf19, bf31, bz⟩ := use_box hSw; go_simp; first | done | (with_reducible rfl))
 try simp only [Act.put, List.setIfInBounds_toArray, List.set_cons_succ, List.set_cons_zero]
 refine tk (i := 2) (v := ?v2x55) (some 50) rfl rfl (Or.inl ⟨by kernel_rfl, ?h2x55⟩) ?r2x55
 case h2x55 => (intro w hSw; obtain ⟨b0, b1, b2, b3, b4, b5, b9, b10, b12, b14, b15, b16, b19, b31, bf12, bf19, bf31, bz⟩ := use_box hSw; go_simp; first | done | (with_reducible rfl))
 try simp only [Act.put, List.setIfInBounds_toArray, List.set_cons_succ, List.set_cons_zero]
 refine tk (i := 3) (v := ?v3x56) (some 51) rfl rfl (Or.inl ⟨by kernel_rfl, ?h3x56⟩) ?r3x56
 case h3x56 => (intro w hSw; obtain ⟨b0, b1, b2, b3, b4, b5, b9, b10, b12, b14, b15, b16, b19, b31, bf12, bf19, bf31, bz⟩ := use_box hSw; go_simp; first | done | (with_reducible rfl))
 try simp only [Act.put, List.setIfInBounds_toArray, List.set_cons_succ, List.set_cons_zero]
 refine tk (i := 4) (v := ?v4x57) (some 52) rfl rfl (Or.inl ⟨by kernel_rfl, ?h4x57⟩) ?r4x57
 case h4x57 => (intro w hSw; obtain ⟨b0, b1, b2, b3, b4, b5, b9, b10, b12, b14, b15, b16, b19, b31, bf12, bf19, bf31, bz⟩ := use_box hSw; go_simp; first | done | (with_reducible rfl))
 try simp only [Act.put, List.setIfInBounds_toArray, List.set_cons_succ, List.set_cons_zero]
 refine tk (i := 5) (v := ?v5x58) (some 53) rfl rfl (Or.inl ⟨by kernel_rfl, ?h5x58⟩) ?r5x58
 case h5x58 => (intro w hSw; obtain ⟨b0, b1, b2, b3, b4, b5, b9, b10, b12, b14, b15, b16, b19, b31, bf12, bf19, bf31, bz⟩ := use_box hSw; go_simp; first | done | (with_reducible rfl))
 try simp only [Act.put, List.setIfInBounds_toArray, List.set_cons_succ, List.set_cons_zero]
 refine tk (i := 6) (v := ?v6x59) (some 54) rfl rfl (Or.inl ⟨by kernel_rfl, ?h6x59⟩) ?r6x59
 case h6x59 => (intro w hSw; obtain ⟨b0, b1, b2, b3, b4, b5, b9, b10, b12, b14, b15, b16, b19, b31, bf12, bf19, bf31, bz⟩ := use_box hSw; go_simp; first | done | (with_reducible rfl))
 try simp only [Act.put, List.setIfInBounds_toArray, List.set_cons_succ, List.set_cons_zero]
 refine tk (i := 7) (v := ?v7x60) (some 55) rfl rfl (Or.inl ⟨by kernel_rfl, ?h7x60⟩) ?r7x60
 case h7x60 => (intro w hSw; obtain ⟨b0, b1, b2, b3, b4, b5, b9, b10, b12, b14, b15, b16, b19, b31, bf12, bf19, bf31, bz⟩ := use_box hSw; go_simp; first | done | (with_reducible rfl))
 try simp only [Act.put, List.setIfInBounds_toArray, List.set_cons_succ, List.set_cons_zero]
 refine tk (i := 8) (v := ?v8x61) (some 56) rfl rfl (Or.inl ⟨by kernel_rfl, ?h8x61⟩) ?r8x61
 case h8x61 => (intro w hSw; obtain ⟨b0, b1, b2, b3, b4, b5, b9, b10, b12, b14, b15, b16, b19, b31, bf12, bf19, bf31, bz⟩ := use_box hSw; go_simp; first | done | (with_reducible rfl))
 try simp only [Act.put, List.setIfInBounds_toArray, List.set_cons_succ, List.set_cons_zero]
 refine tk (i := 9) (v := ?v9x62) (some 57) rfl rfl (Or.inl ⟨by kernel_rfl, ?h9x62⟩) ?r9x62
 case h9x62 => (intro w hSw; obtain ⟨b0, b1, b2, b3, b4, b5, b9, b10, b12, b14, b15, b16, b19, b31, bf12, bf19, bf31, bz⟩ := use_box hSw; go_simp; first | done | (with_reducible rfl))
 try simp only [Act.put, List.setIfInBounds_toArray, List.set_cons_succ, List.set_cons_zero]
 refine wpAnyH_ready (rs := [10]) (by kernel_rfl) (by simp) ?_
 refine AllReadyH.cons rfl (fun K hK => ?_) AllReadyH.nil
 go_simp
 refine (HPl _).out.mono ?_
 rintro e' y1 ⟨rfl, hb⟩
 rw [He.out]
 go_simp
 replace hA0 := hA0.below hb
 replace hB0 := below_only hB0 hb
 refine hK.out _ _ (row_below hS hb) (fun hS => ?_)
 clear hK K
 try simp only [Act.put, List.setIfInBounds_toArray, List.set_cons_succ, List.set_cons_zero]
 refine tk (i := 11) (v := ?v11x63) (some 47) rfl rfl (Or.inl ⟨by kernel_rfl, ?h11x63⟩) ?r11x63
 case h11x63 => (intro w hSw; obtain ⟨b0, b1, b2, b3, b4, b5, b9, b10, b12, b14, b15, b16, b19, b31, bf12, bf19, bf31, bz⟩ := use_box hSw; go_simp; first | done | (with_reducible rfl))
 try simp only [Act.put, List.setIfInBounds_toArray, List.set_cons_succ, List.set_cons_zero]
 refine tk (i := 12) (v := ?v12x64) (some 59) rfl rfl (Or.inl ⟨by kernel_rfl, ?h12x64⟩) ?r12x64
 case h12x64 => (intro w hSw; obtain ⟨b0, b1, b2, b3, b4, b5, b9, b10, b12, b14, b15, b16, b19, b31, bf12, bf19, bf31, bz⟩ := use_box hSw; go_simp; first | done | (with_reducible rfl))
 try simp only [Act.put, List.setIfInBounds_toArray, List.set_cons_succ, List.set_cons_zero]
 refine tk (i := 13) (v := ?v13x65) (some 60) rfl rfl (Or.inl ⟨by kernel_rfl, ?h13x65⟩) ?r13x65
 case h13x65 => (intro w hSw; obtain ⟨b0, b1, b2, b3, b4, b5, b9, b10, b12, b14, b15, b16, b19, b31, bf12, bf19, bf31, bz⟩ := use_box hSw; go_simp; first | done | (with_reducible rfl))
 try simp only [Act.put, List.setIfInBounds_toArray, List.set_cons_succ, List.set_cons_zero]
 refine tk (i := 14) (v := ?v14x66) (some 3) rfl rfl (Or.inl ⟨by kernel_rfl, ?h14x66⟩) ?r14x66
 case h14x66 => (intro w hSw; obtain ⟨b0, b1, b2, b3, b4, b5, b9, b10, b12, b14, b15, b16, b19, b31, bf12, bf19, bf31, bz⟩ := use_box hSw; go_simp; first | done | (with_reducible rfl))
 try simp only [Act.put, List.setIfInBounds_toArray, List.set_cons_succ, List.set_cons_zero]
 refine wpAnyH_done (by kernel_rfl) ?_ _
 have HT := Lib.hid hS
 have HA := Lib.hid hA0
 have HB := Lib.hid hB0
 clear hS hA0 hB0 hb
 go_wp2_with fail
 refine wp_region_held_drew (S := fun W => Use W g p s t i h r 0) (by kernel_rfl) (show Use y1.drew g p s t i h r 0 from HT.out) ?_
 intro hS
 have hA0 : Arn y1.drew p b ws := HA.out.drew
 have hB0 : Below w.heap.size w y1.drew := below_drewN HB.out 1
 generalize y1.drew = y0 at hS hA0 hB0 ⊢
 refine tk (i := 0) (v := ?v0x43) (some 61) rfl rfl (Or.inl ⟨by kernel_rfl, ?h0x43⟩) ?r0x43
 case h0x43 => (intro w hSw; obtain ⟨b0, b1, b2, b3, b4, b5, b9, b10, b12, b14, b15, b16, b19, b31, bf12, bf19, bf31, bz⟩ := use_box hSw; go_simp; first | done | (with_reducible rfl))
 try simp only [Act.put, List.setIfInBounds_toArray, List.set_cons_succ, List.set_cons_zero]
 refine tk (i := 1) (v := ?v1x44) (some 62) rfl rfl (Or.inl ⟨by kernel_rfl, ?h1x44⟩) ?r1x44
 case h1x44 => (intro w hSw; obtain ⟨b0, b1, b2, b3, b4, b5, b9, b10, b12, b14, b15, b16, b19, b31, bf12, bf19, bf31, bz⟩ := use_box hSw; go_simp; first | done | (with_reducible rfl))
 try simp only [Act.put, List.setIfInBounds_toArray, List.set_cons_succ, List.set_cons_zero]
 refine tk (i := 2) (v := ?v2x45) (some 63) rfl rfl (Or.inl ⟨by kernel_rfl, ?h2x45⟩) ?r2x45
 case h2x45 => (intro w hSw; obtain ⟨b0, b1, b2, b3, b4, b5, b9, b10, b12, b14, b15, b16, b19, b31, bf12, bf19, bf31, bz⟩ := use_box hSw; go_simp; first | done | (with_reducible rfl))
 try simp only [Act.put, List.setIfInBounds_toArray, List.set_cons_succ, List.set_cons_zero]
 refine tk (i := 3) (v := ?v3x46) (some 64) rfl rfl (Or.inl ⟨by kernel_rfl, ?h3x46⟩) ?r3x46
 case h3x46 => (intro w hSw; obtain ⟨b0, b1, b2, b3, b4, b5, b9, b10, b12, b14, b15, b16, b19, b31, bf12, bf19, bf31, bz⟩ := use_box hSw; go_simp; first | done | (with_reducible rfl))
 try simp only [Act.put, List.setIfInBounds_toArray, List.set_cons_succ, List.set_cons_zero]
 refine tk (i := 4) (v := ?v4x47) (some 65) rfl rfl (Or.inl ⟨by kernel_rfl, ?h4x47⟩) ?r4x47
 case h4x47 => (intro w hSw; obtain ⟨b0, b1, b2, b3, b4, b5, b9, b10, b12, b14, b15, b16, b19, b31, bf12, bf19, bf31, bz⟩ := use_box hSw; go_simp; first | done | (with_reducible rfl))
 try simp only [Act.put, List.setIfInBounds_toArray, List.set_cons_succ, List.set_cons_zero]
 refine tk (i := 5) (v := ?v5x48) (some 66) rfl rfl (Or.inl ⟨by kernel_rfl, ?h5x48⟩) ?r5x48
 case h5x48 => (intro w hSw; obtain ⟨b0, b1, b2, b3, b4, b5, b9, b10, b12, b14, b15, b16, b19, b31, bf12, bf19, bf31, bz⟩ := use_box hSw; go_simp; first | done | (with_reducible rfl))
 try simp only [Act.put, List.setIfInBounds_toArray, List.set_cons_succ, List.set_cons_zero]
 refine tk (i := 6) (v := ?v6x49) (some 67) rfl rfl (Or.inl ⟨by kernel_rfl, ?h6x49⟩) ?r6x49
 case h6x49 => (intro w hSw; obtain ⟨b0, b1, b2, b3, b4, b5, b9, b10, b12, b14, b15, b16, b19, b31, bf12, bf19, bf31, bz⟩ := use_box hSw; go_simp; first | done | (with_reducible rfl))
 try simp only [Act.put, List.setIfInBounds_toArray, List.set_cons_succ, List.set_cons_zero]
 refine tk (i := 7) (v := ?v7x50) (some 68) rfl rfl (Or.inl ⟨by kernel_rfl, ?h7x50⟩) ?r7x50
 case h7x50 => (intro w hSw; obtain ⟨b0, b1, b2, b3, b4, b5, b9, b10, b12, b14, b15, b16, b19, b31, bf12, bf19, bf31, bz⟩ := use_box hSw; go_simp; first | done | (with_reducible rfl))
 try simp only [Act.put, List.setIfInBounds_toArray, List.set_cons_succ, List.set_cons_zero]
 refine tk (i := 8) (v := ?v8x51) (some 69) rfl rfl (Or.inl ⟨by kernel_rfl, ?h8x51⟩) ?r8x51
 case h8x51 => (intro w hSw; obtain ⟨b0, b1, b2, b3, b4, b5, b9, b10, b12, b14, b15, b16, b19, b31, bf12, bf19, bf31, bz⟩ := use_box hSw; go_simp; first | done | (with_reducible rfl))
 try simp only [Act.put, List.setIfInBounds_toArray, List.set_cons_succ, List.set_cons_zero]
 refine tk (i := 9) (v := ?v9x52) (some 70) rfl rfl (Or.inl ⟨by kernel_rfl, ?h9x52⟩) ?r9x52
 case h9x52 => (intro w hSw; obtain ⟨b0, b1, b2, b3, b4, b5, b9, b10, b12, b14, b15, b16, b19, b31, bf12, bf19, bf31, bz⟩ := use_box hSw; go_simp; first | done | (with_reducible rfl))
 try simp only [Act.put, List.setIfInBounds_toArray, List.set_cons_succ, List.set_cons_zero]
 refine wpAnyH_ready (rs := [10]) (by kernel_rfl) (by simp) ?_
 refine AllReadyH.cons rfl (fun K hK => ?_) AllReadyH.nil
 go_simp
 refine (HPt _ hA0).out.mono ?_
 rintro e' y1 ⟨rfl, hA1, hK1⟩
 go_simp
 have hS1 : Use y1 g p s t i h r 0 := hK1.row hS (by simpa using Hgb.out)
 refine hK.out _ _ (hS1) (fun hS => ?_)
 clear hK K
 try simp only [Act.put, List.setIfInBounds_toArray, List.set_cons_succ, List.set_cons_zero]
 refine wpAnyH_done (by kernel_rfl) ?_ _
 go_wp2_with fail
 go_ret
 exact ⟨rfl, hA1, hS1, (keep_below hB0 [b]).trans hK1⟩

end Go.Proofs.YtnimaajnlkbdaaaGreat

namespace Go.Proofs.YtnimaajnlkbdaaaGreat
open Go.RowKit
set_option linter.unusedVariables false
set_option linter.unusedSimpArgs false

set_option maxRecDepth 100000 in
set_option maxHeartbeats 4000000 in
theorem useValue_ok_store (g p b : Nat) (s t i h : Int) (ws : List Int) (k : Nat) (r : Rn) (sc ep at_ : Int) (w : World) (sz sl tg : Int) (HH : HeadOk sz sl tg sc ep) (h1 : ws[k]? = some (head1 sz sl tg)) (h2 : ws[k + 1]? = some (head2 sc ep)) (l : List Ent) (hl : l.length ≤ 1048576) (hkc : l.length ≤ r.chain.c) (hn : r.chain.n = l.length) (hE : Ents w r.chain.a l) (hop : r.c.op = 9) (hsc hep hat : Int) (huh : unpackR r.hand = ((hsc, hep, hat), 0)) (hh0 : 0 ≤ r.hand ∧ r.hand ≤ 18446744073709551615) (hT : Use w g p s t i h r 0) (hA : Arn w p b ws) (ha : at_ = 8 * (k : Int)) (hu : unpackR r.val = ((sc, ep, at_), 0)) (h0 : 0 ≤ r.val ∧ r.val ≤ 18446744073709551615) :
  Calls Tryz.prog 35 #[.pointer (some ⟨g, 0, none⟩)] w fun e w' => e = .returned (.tuple #[]) ∧ Use w' g p s t i h { r with pc := 10 } (if above l sc hsc = true then 0 else 22) ∧ Keep [g] w w' := by
 have HU := fun w' => Lib.hid (refUnpack_as hu h0.1 h0.2 w')
 obtain ⟨E, HEq⟩ : ∃ E, Hid ((if above l sc hsc = true then (0 : Int) else 22) = E) := ⟨_, Lib.hid rfl⟩
 rw [HEq.out]
 have HV := fun w' => Lib.hid (refUnpack_as huh hh0.1 hh0.2 w')
 have HH := fun w' (hT' : Use w' g p s t i h r 0) (h' : Arn w' p b ws) => Lib.hid (useHead_any g p b s t i h ws k r sc ep at_ w' sz sl tg HH h1 h2 hT' h' ha)
 have HE := Lib.hid hE
 have HAb : ∀ w', Ents w' r.chain.a l → Hid (Calls Tryz.prog 84 #[.slice r.chain.a r.chain.n r.chain.c, .int .i64 sc, .int .i64 hsc] w' fun e w'' => e = .returned (.bool (above l sc hsc)) ∧ Below w'.heap.size w' w'') := by
  intro w' h'
  rw [hn]
  exact Lib.hid (above_any r.chain.a r.chain.c l sc hsc w' (by omega) hkc h')
 have HT := Lib.hid hT
 have HA := Lib.hid hA
 have Hop := Lib.hid hop
 clear hop hT hA h1 h2 ha hu h0 huh hh0 hE hl hkc hn
 obtain ⟨v0, v1, v2, v3, v4, v5, v9, v10, v12, v14, v15, v16, v19, v31, vf12, vf19, vf31, vz⟩ := use_box HT.out
 rw [Hop.out] at v5
 go_enter Tryz.func35, Tryz.ntmps35
 go_wp2_with fail
 refine (HU _).out.mono ?_
 rintro r2 w1 ⟨rfl, hb⟩
 replace HT := Lib.hid (row_below HT.out hb)
 replace HA := Lib.hid (HA.out.below hb)
 replace HE := Lib.hid (Ents.below HE.out hb)
 have HB := Lib.hid hb
 clear hb HU v0 v1 v2 v3 v4 v5 v9 v10 v12 v14 v15 v16 v19 v31 vf12 vf19 vf31 vz
 go_upto_region 1 with fail
 refine one_row w1 _ _ ?_
 intro w2 hr hb
 have hg := lt_of_heap HT.out
 replace HT := Lib.hid (row_below HT.out hb)
 replace HA := Lib.hid (HA.out.below hb)
 replace HE := Lib.hid (Ents.below HE.out hb)
 replace HB := Lib.hid (below_only HB.out hb)
 obtain ⟨gf, hgf⟩ : ∃ x, x = w1.heap.size := ⟨_, rfl⟩
 rw [← hgf] at hr ⊢
 have HR := Lib.hid hr
 have Mgf : Hid (gf ≠ g) := Lib.hid (by omega)
 clear hgf hr hb hg
 obtain ⟨f0, f1, f2, _, _, _⟩ := box3 HR.out
 have zf := lt_of_heap HR.out
 go_wp2_with fail
 clear f0 f1 f2 zf
 refine (HH _ HT.out HA.out).out.mono ?_
 rintro r2 w3 ⟨rfl, hT3, hb⟩
 replace HE := Lib.hid (Ents.below HE.out hb)
 replace HA := Lib.hid (HA.out.below hb)
 replace HR := Lib.hid (row_below HR.out hb)
 have HK := Lib.hid (keep_below (below_only HB.out hb) [g])
 replace HT := Lib.hid hT3
 clear hb hT3 HB HH
 obtain ⟨v0, v1, v2, v3, v4, v5, v9, v10, v12, v14, v15, v16, v19, v31, vf12, vf19, vf31, vz⟩ := use_box HT.out
 rw [Hop.out] at v5
 go_wp2_with fail
 refine (HV _).out.mono ?_
 rintro r2 w4 ⟨rfl, hb⟩
 replace HT := Lib.hid (row_below HT.out hb)
 replace HR := Lib.hid (row_below HR.out hb)
 replace HK := Lib.hid (HK.out.call hb)
 replace HE := Lib.hid (Ents.below HE.out hb)
 clear hb HV v0 v1 v2 v3 v4 v5 v9 v10 v12 v14 v15 v16 v19 v31 vf12 vf19 vf31 vz
 go_upto_region 5 with fail
 refine one_row w4 _ _ ?_
 intro w5 hr hb
 replace HT := Lib.hid (row_below HT.out hb)
 replace HR := Lib.hid (row_below HR.out hb)
 replace HK := Lib.hid (HK.out.call hb)
 replace HE := Lib.hid (Ents.below HE.out hb)
 obtain ⟨gj, hgj⟩ : ∃ x, x = w4.heap.size := ⟨_, rfl⟩
 rw [← hgj] at hr ⊢
 have HJ := Lib.hid hr
 clear hgj hr hb
 obtain ⟨f0, f1, f2, _, _, _⟩ := box3 HJ.out
 have zf := lt_of_heap HJ.out
 go_upto_region 6 with fail
 clear f0 f1 f2 zf HJ
 refine wp_region_held_drew (S := fun W => Use W g p s t i h r 0 ∧ W.heap[gf]? = some (.cells #[.int .i64 sc, .int .i64 ep, .int .i64 at_] 70 (0, 0))) (by kernel_rfl) (by first | exact ⟨HT.out, HR.out⟩ | (dsimp only; exact ⟨HT.out, HR.out⟩)) ?_
 intro hS
 have hK0 := HK.out.drew
 have hE0 : Ents w5.drew r.chain.a l := Ents.below HE.out (Below.drew (Below.refl _ _))
 generalize w5.drew = y0 at hS hK0 hE0 ⊢
 refine tk (i := 0) (v := ?v0x19) (some 44) rfl rfl (Or.inl ⟨by kernel_rfl, ?h0x19⟩) ?r0x19
 case h0x19 => (intro w hSw; obtain ⟨s1, s2⟩ := hSw; obtain ⟨b0, b1, b2, b3, b4, b5, b9, b10, b12, b14, b15, b16, b19, b31, bf12, bf19, bf31, bz⟩ := use_box s1;  obtain ⟨f0, f1, f2, _, _, _⟩ := box3 s2; have zf := lt_of_heap s2; go_simp; first | done | (with_reducible rfl))
 try simp only [Act.put, List.setIfInBounds_toArray, List.set_cons_succ, List.set_cons_zero]
 refine tk (i := 1) (v := ?v1x20) (some 45) rfl rfl (Or.inl ⟨by kernel_rfl, ?h1x20⟩) ?r1x20
 case h1x20 => (intro w hSw; obtain ⟨s1, s2⟩ := hSw; obtain ⟨b0, b1, b2, b3, b4, b5, b9, b10, b12, b14, b15, b16, b19, b31, bf12, bf19, bf31, bz⟩ := use_box s1;  obtain ⟨f0, f1, f2, _, _, _⟩ := box3 s2; have zf := lt_of_heap s2; go_simp; first | done | (with_reducible rfl))
 try simp only [Act.put, List.setIfInBounds_toArray, List.set_cons_succ, List.set_cons_zero]
 refine tk (i := 2) (v := ?v2x21) (some 46) rfl rfl (Or.inl ⟨by kernel_rfl, ?h2x21⟩) ?r2x21
 case h2x21 => (intro w hSw; obtain ⟨s1, s2⟩ := hSw; obtain ⟨b0, b1, b2, b3, b4, b5, b9, b10, b12, b14, b15, b16, b19, b31, bf12, bf19, bf31, bz⟩ := use_box s1;  obtain ⟨f0, f1, f2, _, _, _⟩ := box3 s2; have zf := lt_of_heap s2; go_simp; first | done | (with_reducible rfl))
 try simp only [Act.put, List.setIfInBounds_toArray, List.set_cons_succ, List.set_cons_zero]
 refine tk (i := 3) (v := ?v3x22) (some 47) rfl rfl (Or.inl ⟨by kernel_rfl, ?h3x22⟩) ?r3x22
 case h3x22 => (intro w hSw; obtain ⟨s1, s2⟩ := hSw; obtain ⟨b0, b1, b2, b3, b4, b5, b9, b10, b12, b14, b15, b16, b19, b31, bf12, bf19, bf31, bz⟩ := use_box s1;  obtain ⟨f0, f1, f2, _, _, _⟩ := box3 s2; have zf := lt_of_heap s2; go_simp; first | done | (with_reducible rfl))
 try simp only [Act.put, List.setIfInBounds_toArray, List.set_cons_succ, List.set_cons_zero]
 refine tk (i := 4) (v := ?v4x23) (some 48) rfl rfl (Or.inl ⟨by kernel_rfl, ?h4x23⟩) ?r4x23
 case h4x23 => (intro w hSw; obtain ⟨s1, s2⟩ := hSw; obtain ⟨b0, b1, b2, b3, b4, b5, b9, b10, b12, b14, b15, b16, b19, b31, bf12, bf19, bf31, bz⟩ := use_box s1;  obtain ⟨f0, f1, f2, _, _, _⟩ := box3 s2; have zf := lt_of_heap s2; go_simp; first | done | (with_reducible rfl))
 try simp only [Act.put, List.setIfInBounds_toArray, List.set_cons_succ, List.set_cons_zero]
 refine tk (i := 5) (v := ?v5x24) (some 49) rfl rfl (Or.inl ⟨by kernel_rfl, ?h5x24⟩) ?r5x24
 case h5x24 => (intro w hSw; obtain ⟨s1, s2⟩ := hSw; obtain ⟨b0, b1, b2, b3, b4, b5, b9, b10, b12, b14, b15, b16, b19, b31, bf12, bf19, bf31, bz⟩ := use_box s1;  obtain ⟨f0, f1, f2, _, _, _⟩ := box3 s2; have zf := lt_of_heap s2; go_simp; first | done | (with_reducible rfl))
 try simp only [Act.put, List.setIfInBounds_toArray, List.set_cons_succ, List.set_cons_zero]
 refine tk (i := 6) (v := ?v6x25) (some 50) rfl rfl (Or.inl ⟨by kernel_rfl, ?h6x25⟩) ?r6x25
 case h6x25 => (intro w hSw; obtain ⟨s1, s2⟩ := hSw; obtain ⟨b0, b1, b2, b3, b4, b5, b9, b10, b12, b14, b15, b16, b19, b31, bf12, bf19, bf31, bz⟩ := use_box s1;  obtain ⟨f0, f1, f2, _, _, _⟩ := box3 s2; have zf := lt_of_heap s2; go_simp; first | done | (with_reducible rfl))
 try simp only [Act.put, List.setIfInBounds_toArray, List.set_cons_succ, List.set_cons_zero]
 refine tk (i := 7) (v := ?v7x26) (some 51) rfl rfl (Or.inl ⟨by kernel_rfl, ?h7x26⟩) ?r7x26
 case h7x26 => (intro w hSw; obtain ⟨s1, s2⟩ := hSw; obtain ⟨b0, b1, b2, b3, b4, b5, b9, b10, b12, b14, b15, b16, b19, b31, bf12, bf19, bf31, bz⟩ := use_box s1;  obtain ⟨f0, f1, f2, _, _, _⟩ := box3 s2; have zf := lt_of_heap s2; go_simp; first | done | (with_reducible rfl))
 try simp only [Act.put, List.setIfInBounds_toArray, List.set_cons_succ, List.set_cons_zero]
 refine tk (i := 8) (v := ?v8x27) (some 52) rfl rfl (Or.inl ⟨by kernel_rfl, ?h8x27⟩) ?r8x27
 case h8x27 => (intro w hSw; obtain ⟨s1, s2⟩ := hSw; obtain ⟨b0, b1, b2, b3, b4, b5, b9, b10, b12, b14, b15, b16, b19, b31, bf12, bf19, bf31, bz⟩ := use_box s1;  obtain ⟨f0, f1, f2, _, _, _⟩ := box3 s2; have zf := lt_of_heap s2; go_simp; first | done | (with_reducible rfl))
 try simp only [Act.put, List.setIfInBounds_toArray, List.set_cons_succ, List.set_cons_zero]
 refine tk (i := 9) (v := ?v9x28) (some 53) rfl rfl (Or.inl ⟨by kernel_rfl, ?h9x28⟩) ?r9x28
 case h9x28 => (intro w hSw; obtain ⟨s1, s2⟩ := hSw; obtain ⟨b0, b1, b2, b3, b4, b5, b9, b10, b12, b14, b15, b16, b19, b31, bf12, bf19, bf31, bz⟩ := use_box s1;  obtain ⟨f0, f1, f2, _, _, _⟩ := box3 s2; have zf := lt_of_heap s2; go_simp; first | done | (with_reducible rfl))
 try simp only [Act.put, List.setIfInBounds_toArray, List.set_cons_succ, List.set_cons_zero]
 refine tk (i := 10) (v := ?v10x29) (some 54) rfl rfl (Or.inl ⟨by kernel_rfl, ?h10x29⟩) ?r10x29
 case h10x29 => (intro w hSw; obtain ⟨s1, s2⟩ := hSw; obtain ⟨b0, b1, b2, b3, b4, b5, b9, b10, b12, b14, b15, b16, b19, b31, bf12, bf19, bf31, bz⟩ := use_box s1;  obtain ⟨f0, f1, f2, _, _, _⟩ := box3 s2; have zf := lt_of_heap s2; go_simp; first | done | (with_reducible rfl))
 try simp only [Act.put, List.setIfInBounds_toArray, List.set_cons_succ, List.set_cons_zero]
 refine tk (i := 11) (v := ?v11x30) (some 55) rfl rfl (Or.inl ⟨by kernel_rfl, ?h11x30⟩) ?r11x30
 case h11x30 => (intro w hSw; obtain ⟨s1, s2⟩ := hSw; obtain ⟨b0, b1, b2, b3, b4, b5, b9, b10, b12, b14, b15, b16, b19, b31, bf12, bf19, bf31, bz⟩ := use_box s1;  obtain ⟨f0, f1, f2, _, _, _⟩ := box3 s2; have zf := lt_of_heap s2; go_simp; first | done | (with_reducible rfl))
 try simp only [Act.put, List.setIfInBounds_toArray, List.set_cons_succ, List.set_cons_zero]
 refine tk (i := 12) (v := ?v12x31) (some 56) rfl rfl (Or.inl ⟨by kernel_rfl, ?h12x31⟩) ?r12x31
 case h12x31 => (intro w hSw; obtain ⟨s1, s2⟩ := hSw; obtain ⟨b0, b1, b2, b3, b4, b5, b9, b10, b12, b14, b15, b16, b19, b31, bf12, bf19, bf31, bz⟩ := use_box s1;  obtain ⟨f0, f1, f2, _, _, _⟩ := box3 s2; have zf := lt_of_heap s2; go_simp; first | done | (with_reducible rfl))
 try simp only [Act.put, List.setIfInBounds_toArray, List.set_cons_succ, List.set_cons_zero]
 refine tk (i := 13) (v := ?v13x32) (some 57) rfl rfl (Or.inl ⟨by kernel_rfl, ?h13x32⟩) ?r13x32
 case h13x32 => (intro w hSw; obtain ⟨s1, s2⟩ := hSw; obtain ⟨b0, b1, b2, b3, b4, b5, b9, b10, b12, b14, b15, b16, b19, b31, bf12, bf19, bf31, bz⟩ := use_box s1;  obtain ⟨f0, f1, f2, _, _, _⟩ := box3 s2; have zf := lt_of_heap s2; go_simp; first | done | (with_reducible rfl))
 try simp only [Act.put, List.setIfInBounds_toArray, List.set_cons_succ, List.set_cons_zero]
 refine wpAnyH_ready (rs := [14]) (by kernel_rfl) (by simp) ?_
 refine AllReadyH.cons rfl (fun K hK => ?_) AllReadyH.nil
 go_simp
 refine (HAb _ hE0).out.mono ?_
 rintro e' y1 ⟨rfl, hb⟩
 go_simp
 replace hK0 := hK0.call hb
 refine hK.out _ _ (⟨row_below hS.1 hb, row_below hS.2 hb⟩) (fun hS => ?_)
 clear hK K
 try simp only [Act.put, List.setIfInBounds_toArray, List.set_cons_succ, List.set_cons_zero]
 refine tk (i := 15) (v := ?v15x33) (some 59) rfl rfl (Or.inl ⟨by kernel_rfl, ?h15x33⟩) ?r15x33
 case h15x33 => (intro w hSw; obtain ⟨s1, s2⟩ := hSw; obtain ⟨b0, b1, b2, b3, b4, b5, b9, b10, b12, b14, b15, b16, b19, b31, bf12, bf19, bf31, bz⟩ := use_box s1;  obtain ⟨f0, f1, f2, _, _, _⟩ := box3 s2; have zf := lt_of_heap s2; go_simp; first | done | (with_reducible rfl))
 try simp only [Act.put, List.setIfInBounds_toArray, List.set_cons_succ, List.set_cons_zero]
 refine tk (i := 16) (v := ?v16x34) (some 60) rfl rfl (Or.inl ⟨by kernel_rfl, ?h16x34⟩) ?r16x34
 case h16x34 => (intro w hSw; obtain ⟨s1, s2⟩ := hSw; obtain ⟨b0, b1, b2, b3, b4, b5, b9, b10, b12, b14, b15, b16, b19, b31, bf12, bf19, bf31, bz⟩ := use_box s1;  obtain ⟨f0, f1, f2, _, _, _⟩ := box3 s2; have zf := lt_of_heap s2; go_simp; first | done | (with_reducible rfl))
 try simp only [Act.put, List.setIfInBounds_toArray, List.set_cons_succ, List.set_cons_zero]
 refine wpAnyH_done (by kernel_rfl) ?_ _
 have HT6 := Lib.hid hS.1
 have HK6 := Lib.hid hK0
 clear hS hK0 hb
 obtain ⟨ab, Hab⟩ : ∃ x, Hid (above l sc hsc = x) := ⟨_, Lib.hid rfl⟩
 rw [Hab.out] at HEq ⊢
 obtain ⟨v0, v1, v2, v3, v4, v5, v9, v10, v12, v14, v15, v16, v19, v31, vf12, vf19, vf31, vz⟩ := use_box HT6.out
 cases ab with
 | true =>
  have hEq : E = 0 := by rw [← HEq.out]; rfl
  replace HEq := Lib.hid hEq
  clear hEq
  go_wp2_with fail
  go_end0
  exact ⟨rfl, by rw [HEq.out]; exact HT6.out.setPc 10, HK6.out.setCell (p := ⟨g, 12, none⟩) (.inl (by simp)) _⟩
 | false =>
  have hEq : E = 22 := by rw [← HEq.out]; rfl
  replace HEq := Lib.hid hEq
  clear hEq
  go_wp2_with fail
  go_end0
  exact ⟨rfl, by rw [HEq.out]; exact (HT6.out.setE 22).setPc 10, (HK6.out.setCell (p := ⟨g, 31, none⟩) (.inl (by simp)) _).setCell (p := ⟨g, 12, none⟩) (.inl (by simp)) _⟩
set_option maxRecDepth 100000 in
set_option maxHeartbeats 4000000 in
theorem useValue_ok_gate (g p b : Nat) (s t i h : Int) (ws : List Int) (k : Nat) (r : Rn) (sc ep at_ : Int) (w : World) (sz sl tg : Int) (HH : HeadOk sz sl tg sc ep) (h1 : ws[k]? = some (head1 sz sl tg)) (h2 : ws[k + 1]? = some (head2 sc ep)) (l : List Ent) (hl : l.length ≤ 1048576) (hkc : l.length ≤ r.chain.c) (hn : r.chain.n = l.length) (hE : Ents w r.chain.a l) (hop : r.c.op = 11) (hT : Use w g p s t i h r 0) (hA : Arn w p b ws) (ha : at_ = 8 * (k : Int)) (hu : unpackR r.val = ((sc, ep, at_), 0)) (h0 : 0 ≤ r.val ∧ r.val ≤ 18446744073709551615) :
  Calls Tryz.prog 35 #[.pointer (some ⟨g, 0, none⟩)] w fun e w' => e = .returned (.tuple #[]) ∧ Use w' g p s t i h { r with pc := 12 } (if above l sc r.c.a = true then 0 else 22) ∧ Keep [g] w w' := by
 have HU := fun w' => Lib.hid (refUnpack_as hu h0.1 h0.2 w')
 obtain ⟨E, HEq⟩ : ∃ E, Hid ((if above l sc r.c.a = true then (0 : Int) else 22) = E) := ⟨_, Lib.hid rfl⟩
 rw [HEq.out]
 have HH := fun w' (hT' : Use w' g p s t i h r 0) (h' : Arn w' p b ws) => Lib.hid (useHead_any g p b s t i h ws k r sc ep at_ w' sz sl tg HH h1 h2 hT' h' ha)
 have HE := Lib.hid hE
 have HAb : ∀ w', Ents w' r.chain.a l → Hid (Calls Tryz.prog 84 #[.slice r.chain.a r.chain.n r.chain.c, .int .i64 sc, .int .i64 r.c.a] w' fun e w'' => e = .returned (.bool (above l sc r.c.a)) ∧ Below w'.heap.size w' w'') := by
  intro w' h'
  rw [hn]
  exact Lib.hid (above_any r.chain.a r.chain.c l sc r.c.a w' (by omega) hkc h')
 have HT := Lib.hid hT
 have HA := Lib.hid hA
 have Hop := Lib.hid hop
 clear hop hT hA h1 h2 ha hu h0 hE hl hkc hn
 obtain ⟨v0, v1, v2, v3, v4, v5, v9, v10, v12, v14, v15, v16, v19, v31, vf12, vf19, vf31, vz⟩ := use_box HT.out
 rw [Hop.out] at v5
 go_enter Tryz.func35, Tryz.ntmps35
 go_wp2_with fail
 refine (HU _).out.mono ?_
 rintro r2 w1 ⟨rfl, hb⟩
 replace HT := Lib.hid (row_below HT.out hb)
 replace HA := Lib.hid (HA.out.below hb)
 replace HE := Lib.hid (Ents.below HE.out hb)
 have HB := Lib.hid hb
 clear hb HU v0 v1 v2 v3 v4 v5 v9 v10 v12 v14 v15 v16 v19 v31 vf12 vf19 vf31 vz
 go_upto_region 1 with fail
 refine one_row w1 _ _ ?_
 intro w2 hr hb
 have hg := lt_of_heap HT.out
 replace HT := Lib.hid (row_below HT.out hb)
 replace HA := Lib.hid (HA.out.below hb)
 replace HE := Lib.hid (Ents.below HE.out hb)
 replace HB := Lib.hid (below_only HB.out hb)
 obtain ⟨gf, hgf⟩ : ∃ x, x = w1.heap.size := ⟨_, rfl⟩
 rw [← hgf] at hr ⊢
 have HR := Lib.hid hr
 have Mgf : Hid (gf ≠ g) := Lib.hid (by omega)
 clear hgf hr hb hg
 obtain ⟨f0, f1, f2, _, _, _⟩ := box3 HR.out
 have zf := lt_of_heap HR.out
 go_wp2_with fail
 clear f0 f1 f2 zf
 refine (HH _ HT.out HA.out).out.mono ?_
 rintro r2 w3 ⟨rfl, hT3, hb⟩
 replace HE := Lib.hid (Ents.below HE.out hb)
 replace HA := Lib.hid (HA.out.below hb)
 replace HR := Lib.hid (row_below HR.out hb)
 have HK := Lib.hid (keep_below (below_only HB.out hb) [g])
 replace HT := Lib.hid hT3
 clear hb hT3 HB HH
 obtain ⟨v0, v1, v2, v3, v4, v5, v9, v10, v12, v14, v15, v16, v19, v31, vf12, vf19, vf31, vz⟩ := use_box HT.out
 rw [Hop.out] at v5
 go_upto_region 6 with fail
 clear v0 v1 v2 v3 v4 v5 v9 v10 v12 v14 v15 v16 v19 v31 vf12 vf19 vf31 vz
 refine wp_region_held_drew (S := fun W => Use W g p s t i h r 0 ∧ W.heap[gf]? = some (.cells #[.int .i64 sc, .int .i64 ep, .int .i64 at_] 70 (0, 0))) (by kernel_rfl) (by first | exact ⟨HT.out, HR.out⟩ | (dsimp only; exact ⟨HT.out, HR.out⟩)) ?_
 intro hS
 have hK0 := HK.out.drew
 have hE0 : Ents w3.drew r.chain.a l := Ents.below HE.out (Below.drew (Below.refl _ _))
 generalize w3.drew = y0 at hS hK0 hE0 ⊢
 refine tk (i := 0) (v := ?v0x35) (some 44) rfl rfl (Or.inl ⟨by kernel_rfl, ?h0x35⟩) ?r0x35
 case h0x35 => (intro w hSw; obtain ⟨s1, s2⟩ := hSw; obtain ⟨b0, b1, b2, b3, b4, b5, b9, b10, b12, b14, b15, b16, b19, b31, bf12, bf19, bf31, bz⟩ := use_box s1;  obtain ⟨f0, f1, f2, _, _, _⟩ := box3 s2; have zf := lt_of_heap s2; go_simp; first | done | (with_reducible rfl))
 try simp only [Act.put, List.setIfInBounds_toArray, List.set_cons_succ, List.set_cons_zero]
 refine tk (i := 1) (v := ?v1x36) (some 45) rfl rfl (Or.inl ⟨by kernel_rfl, ?h1x36⟩) ?r1x36
 case h1x36 => (intro w hSw; obtain ⟨s1, s2⟩ := hSw; obtain ⟨b0, b1, b2, b3, b4, b5, b9, b10, b12, b14, b15, b16, b19, b31, bf12, bf19, bf31, bz⟩ := use_box s1;  obtain ⟨f0, f1, f2, _, _, _⟩ := box3 s2; have zf := lt_of_heap s2; go_simp; first | done | (with_reducible rfl))
 try simp only [Act.put, List.setIfInBounds_toArray, List.set_cons_succ, List.set_cons_zero]
 refine tk (i := 2) (v := ?v2x37) (some 46) rfl rfl (Or.inl ⟨by kernel_rfl, ?h2x37⟩) ?r2x37
 case h2x37 => (intro w hSw; obtain ⟨s1, s2⟩ := hSw; obtain ⟨b0, b1, b2, b3, b4, b5, b9, b10, b12, b14, b15, b16, b19, b31, bf12, bf19, bf31, bz⟩ := use_box s1;  obtain ⟨f0, f1, f2, _, _, _⟩ := box3 s2; have zf := lt_of_heap s2; go_simp; first | done | (with_reducible rfl))
 try simp only [Act.put, List.setIfInBounds_toArray, List.set_cons_succ, List.set_cons_zero]
 refine tk (i := 3) (v := ?v3x38) (some 47) rfl rfl (Or.inl ⟨by kernel_rfl, ?h3x38⟩) ?r3x38
 case h3x38 => (intro w hSw; obtain ⟨s1, s2⟩ := hSw; obtain ⟨b0, b1, b2, b3, b4, b5, b9, b10, b12, b14, b15, b16, b19, b31, bf12, bf19, bf31, bz⟩ := use_box s1;  obtain ⟨f0, f1, f2, _, _, _⟩ := box3 s2; have zf := lt_of_heap s2; go_simp; first | done | (with_reducible rfl))
 try simp only [Act.put, List.setIfInBounds_toArray, List.set_cons_succ, List.set_cons_zero]
 refine tk (i := 4) (v := ?v4x39) (some 48) rfl rfl (Or.inl ⟨by kernel_rfl, ?h4x39⟩) ?r4x39
 case h4x39 => (intro w hSw; obtain ⟨s1, s2⟩ := hSw; obtain ⟨b0, b1, b2, b3, b4, b5, b9, b10, b12, b14, b15, b16, b19, b31, bf12, bf19, bf31, bz⟩ := use_box s1;  obtain ⟨f0, f1, f2, _, _, _⟩ := box3 s2; have zf := lt_of_heap s2; go_simp; first | done | (with_reducible rfl))
 try simp only [Act.put, List.setIfInBounds_toArray, List.set_cons_succ, List.set_cons_zero]
 refine tk (i := 5) (v := ?v5x40) (some 49) rfl rfl (Or.inl ⟨by kernel_rfl, ?h5x40⟩) ?r5x40
 case h5x40 => (intro w hSw; obtain ⟨s1, s2⟩ := hSw; obtain ⟨b0, b1, b2, b3, b4, b5, b9, b10, b12, b14, b15, b16, b19, b31, bf12, bf19, bf31, bz⟩ := use_box s1;  obtain ⟨f0, f1, f2, _, _, _⟩ := box3 s2; have zf := lt_of_heap s2; go_simp; first | done | (with_reducible rfl))
 try simp only [Act.put, List.setIfInBounds_toArray, List.set_cons_succ, List.set_cons_zero]
 refine tk (i := 6) (v := ?v6x41) (some 50) rfl rfl (Or.inl ⟨by kernel_rfl, ?h6x41⟩) ?r6x41
 case h6x41 => (intro w hSw; obtain ⟨s1, s2⟩ := hSw; obtain ⟨b0, b1, b2, b3, b4, b5, b9, b10, b12, b14, b15, b16, b19, b31, bf12, bf19, bf31, bz⟩ := use_box s1;  obtain ⟨f0, f1, f2, _, _, _⟩ := box3 s2; have zf := lt_of_heap s2; go_simp; first | done | (with_reducible rfl))
 try simp only [Act.put, List.setIfInBounds_toArray, List.set_cons_succ, List.set_cons_zero]
 refine tk (i := 7) (v := ?v7x42) (some 51) rfl rfl (Or.inl ⟨by kernel_rfl, ?h7x42⟩) ?r7x42
 case h7x42 => (intro w hSw; obtain ⟨s1, s2⟩ := hSw; obtain ⟨b0, b1, b2, b3, b4, b5, b9, b10, b12, b14, b15, b16, b19, b31, bf12, bf19, bf31, bz⟩ := use_box s1;  obtain ⟨f0, f1, f2, _, _, _⟩ := box3 s2; have zf := lt_of_heap s2; go_simp; first | done | (with_reducible rfl))
 try simp only [Act.put, List.setIfInBounds_toArray, List.set_cons_succ, List.set_cons_zero]
 refine tk (i := 8) (v := ?v8x43) (some 52) rfl rfl (Or.inl ⟨by kernel_rfl, ?h8x43⟩) ?r8x43
 case h8x43 => (intro w hSw; obtain ⟨s1, s2⟩ := hSw; obtain ⟨b0, b1, b2, b3, b4, b5, b9, b10, b12, b14, b15, b16, b19, b31, bf12, bf19, bf31, bz⟩ := use_box s1;  obtain ⟨f0, f1, f2, _, _, _⟩ := box3 s2; have zf := lt_of_heap s2; go_simp; first | done | (with_reducible rfl))
 try simp only [Act.put, List.setIfInBounds_toArray, List.set_cons_succ, List.set_cons_zero]
 refine tk (i := 9) (v := ?v9x44) (some 53) rfl rfl (Or.inl ⟨by kernel_rfl, ?h9x44⟩) ?r9x44
 case h9x44 => (intro w hSw; obtain ⟨s1, s2⟩ := hSw; obtain ⟨b0, b1, b2, b3, b4, b5, b9, b10, b12, b14, b15, b16, b19, b31, bf12, bf19, bf31, bz⟩ := use_box s1;  obtain ⟨f0, f1, f2, _, _, _⟩ := box3 s2; have zf := lt_of_heap s2; go_simp; first | done | (with_reducible rfl))
 try simp only [Act.put, List.setIfInBounds_toArray, List.set_cons_succ, List.set_cons_zero]
 refine tk (i := 10) (v := ?v10x45) (some 54) rfl rfl (Or.inl ⟨by kernel_rfl, ?h10x45⟩) ?r10x45
 case h10x45 => (intro w hSw; obtain ⟨s1, s2⟩ := hSw; obtain ⟨b0, b1, b2, b3, b4, b5, b9, b10, b12, b14, b15, b16, b19, b31, bf12, bf19, bf31, bz⟩ := use_box s1;  obtain ⟨f0, f1, f2, _, _, _⟩ := box3 s2; have zf := lt_of_heap s2; go_simp; first | done | (with_reducible rfl))
 try simp only [Act.put, List.setIfInBounds_toArray, List.set_cons_succ, List.set_cons_zero]
 refine tk (i := 11) (v := ?v11x46) (some 55) rfl rfl (Or.inl ⟨by kernel_rfl, ?h11x46⟩) ?r11x46
 case h11x46 => (intro w hSw; obtain ⟨s1, s2⟩ := hSw; obtain ⟨b0, b1, b2, b3, b4, b5, b9, b10, b12, b14, b15, b16, b19, b31, bf12, bf19, bf31, bz⟩ := use_box s1;  obtain ⟨f0, f1, f2, _, _, _⟩ := box3 s2; have zf := lt_of_heap s2; go_simp; first | done | (with_reducible rfl))
 try simp only [Act.put, List.setIfInBounds_toArray, List.set_cons_succ, List.set_cons_zero]
 refine tk (i := 12) (v := ?v12x47) (some 56) rfl rfl (Or.inl ⟨by kernel_rfl, ?h12x47⟩) ?r12x47
 case h12x47 => (intro w hSw; obtain ⟨s1, s2⟩ := hSw; obtain ⟨b0, b1, b2, b3, b4, b5, b9, b10, b12, b14, b15, b16, b19, b31, bf12, bf19, bf31, bz⟩ := use_box s1;  obtain ⟨f0, f1, f2, _, _, _⟩ := box3 s2; have zf := lt_of_heap s2; go_simp; first | done | (with_reducible rfl))
 try simp only [Act.put, List.setIfInBounds_toArray, List.set_cons_succ, List.set_cons_zero]
 refine tk (i := 13) (v := ?v13x48) (some 57) rfl rfl (Or.inl ⟨by kernel_rfl, ?h13x48⟩) ?r13x48
 case h13x48 => (intro w hSw; obtain ⟨s1, s2⟩ := hSw; obtain ⟨b0, b1, b2, b3, b4, b5, b9, b10, b12, b14, b15, b16, b19, b31, bf12, bf19, bf31, bz⟩ := use_box s1;  obtain ⟨f0, f1, f2, _, _, _⟩ := box3 s2; have zf := lt_of_heap s2; go_simp; first | done | (with_reducible rfl))
 try simp only [Act.put, List.setIfInBounds_toArray, List.set_cons_succ, List.set_cons_zero]
 refine wpAnyH_ready (rs := [14]) (by kernel_rfl) (by simp) ?_
 refine AllReadyH.cons rfl (fun K hK => ?_) AllReadyH.nil
 go_simp
 refine (HAb _ hE0).out.mono ?_
 rintro e' y1 ⟨rfl, hb⟩
 go_simp
 replace hK0 := hK0.call hb
 refine hK.out _ _ (⟨row_below hS.1 hb, row_below hS.2 hb⟩) (fun hS => ?_)
 clear hK K
 try simp only [Act.put, List.setIfInBounds_toArray, List.set_cons_succ, List.set_cons_zero]
 refine tk (i := 15) (v := ?v15x49) (some 59) rfl rfl (Or.inl ⟨by kernel_rfl, ?h15x49⟩) ?r15x49
 case h15x49 => (intro w hSw; obtain ⟨s1, s2⟩ := hSw; obtain ⟨b0, b1, b2, b3, b4, b5, b9, b10, b12, b14, b15, b16, b19, b31, bf12, bf19, bf31, bz⟩ := use_box s1;  obtain ⟨f0, f1, f2, _, _, _⟩ := box3 s2; have zf := lt_of_heap s2; go_simp; first | done | (with_reducible rfl))
 try simp only [Act.put, List.setIfInBounds_toArray, List.set_cons_succ, List.set_cons_zero]
 refine tk (i := 16) (v := ?v16x50) (some 60) rfl rfl (Or.inl ⟨by kernel_rfl, ?h16x50⟩) ?r16x50
 case h16x50 => (intro w hSw; obtain ⟨s1, s2⟩ := hSw; obtain ⟨b0, b1, b2, b3, b4, b5, b9, b10, b12, b14, b15, b16, b19, b31, bf12, bf19, bf31, bz⟩ := use_box s1;  obtain ⟨f0, f1, f2, _, _, _⟩ := box3 s2; have zf := lt_of_heap s2; go_simp; first | done | (with_reducible rfl))
 try simp only [Act.put, List.setIfInBounds_toArray, List.set_cons_succ, List.set_cons_zero]
 refine wpAnyH_done (by kernel_rfl) ?_ _
 have HT6 := Lib.hid hS.1
 have HK6 := Lib.hid hK0
 clear hS hK0 hb
 obtain ⟨ab, Hab⟩ : ∃ x, Hid (above l sc r.c.a = x) := ⟨_, Lib.hid rfl⟩
 rw [Hab.out] at HEq ⊢
 obtain ⟨v0, v1, v2, v3, v4, v5, v9, v10, v12, v14, v15, v16, v19, v31, vf12, vf19, vf31, vz⟩ := use_box HT6.out
 cases ab with
 | true =>
  have hEq : E = 0 := by rw [← HEq.out]; rfl
  replace HEq := Lib.hid hEq
  clear hEq
  go_wp2_with fail
  go_end0
  exact ⟨rfl, by rw [HEq.out]; exact HT6.out.setPc 12, HK6.out.setCell (p := ⟨g, 12, none⟩) (.inl (by simp)) _⟩
 | false =>
  have hEq : E = 22 := by rw [← HEq.out]; rfl
  replace HEq := Lib.hid hEq
  clear hEq
  go_wp2_with fail
  go_end0
  exact ⟨rfl, by rw [HEq.out]; exact (HT6.out.setE 22).setPc 12, (HK6.out.setCell (p := ⟨g, 31, none⟩) (.inl (by simp)) _).setCell (p := ⟨g, 12, none⟩) (.inl (by simp)) _⟩
set_option maxRecDepth 100000 in
set_option maxHeartbeats 4000000 in
theorem useValue_bad_store (g p b : Nat) (s t i h : Int) (ws : List Int) (k : Nat) (r : Rn) (sc ep at_ : Int) (w : World) (y : Int) (h1 : ws[k]? = some 1281) (h2 : ws[k + 1]? = some y) (hop : r.c.op = 9) (hsc hep hat : Int) (huh : unpackR r.hand = ((hsc, hep, hat), 0)) (hh0 : 0 ≤ r.hand ∧ r.hand ≤ 18446744073709551615) (hT : Use w g p s t i h r 0) (hA : Arn w p b ws) (ha : at_ = 8 * (k : Int)) (hu : unpackR r.val = ((sc, ep, at_), 0)) (h0 : 0 ≤ r.val ∧ r.val ≤ 18446744073709551615) :
  Calls Tryz.prog 35 #[.pointer (some ⟨g, 0, none⟩)] w fun e w' => e = .returned (.tuple #[]) ∧ Use w' g p s t i h { r with pc := 10 } 18 ∧ Keep [g] w w' := by
 have HU := fun w' => Lib.hid (refUnpack_as hu h0.1 h0.2 w')
 have HV := fun w' => Lib.hid (refUnpack_as huh hh0.1 hh0.2 w')
 have HH := fun w' (hT' : Use w' g p s t i h r 0) (h' : Arn w' p b ws) => Lib.hid (useHead_bad g p b s t i h ws k r sc ep at_ w' y h1 h2 hT' h' ha)
 have HT := Lib.hid hT
 have HA := Lib.hid hA
 have Hop := Lib.hid hop
 clear hop hT hA h1 h2 ha hu h0 huh hh0
 obtain ⟨v0, v1, v2, v3, v4, v5, v9, v10, v12, v14, v15, v16, v19, v31, vf12, vf19, vf31, vz⟩ := use_box HT.out
 rw [Hop.out] at v5
 go_enter Tryz.func35, Tryz.ntmps35
 go_wp2_with fail
 refine (HU _).out.mono ?_
 rintro r2 w1 ⟨rfl, hb⟩
 replace HT := Lib.hid (row_below HT.out hb)
 replace HA := Lib.hid (HA.out.below hb)
 have HB := Lib.hid hb
 clear hb HU v0 v1 v2 v3 v4 v5 v9 v10 v12 v14 v15 v16 v19 v31 vf12 vf19 vf31 vz
 go_upto_region 1 with fail
 refine one_row w1 _ _ ?_
 intro w2 hr hb
 have hg := lt_of_heap HT.out
 replace HT := Lib.hid (row_below HT.out hb)
 replace HA := Lib.hid (HA.out.below hb)
 replace HB := Lib.hid (below_only HB.out hb)
 obtain ⟨gf, hgf⟩ : ∃ x, x = w1.heap.size := ⟨_, rfl⟩
 rw [← hgf] at hr ⊢
 have HR := Lib.hid hr
 have Mgf : Hid (gf ≠ g) := Lib.hid (by omega)
 clear hgf hr hb hg
 obtain ⟨f0, f1, f2, _, _, _⟩ := box3 HR.out
 have zf := lt_of_heap HR.out
 go_wp2_with fail
 clear f0 f1 f2 zf
 refine (HH _ HT.out HA.out).out.mono ?_
 rintro r2 w3 ⟨rfl, hT3, hK⟩
 replace HR := Lib.hid (hK.row HR.out (by simpa using Mgf.out))
 have HK := Lib.hid ((keep_below HB.out [g]).trans hK)
 replace HT := Lib.hid hT3
 clear hK hT3 HB HH HA
 obtain ⟨v0, v1, v2, v3, v4, v5, v9, v10, v12, v14, v15, v16, v19, v31, vf12, vf19, vf31, vz⟩ := use_box HT.out
 rw [Hop.out] at v5
 go_wp2_with fail
 refine (HV _).out.mono ?_
 rintro r2 w4 ⟨rfl, hb⟩
 replace HT := Lib.hid (row_below HT.out hb)
 replace HR := Lib.hid (row_below HR.out hb)
 replace HK := Lib.hid (HK.out.call hb)
 clear hb HV v0 v1 v2 v3 v4 v5 v9 v10 v12 v14 v15 v16 v19 v31 vf12 vf19 vf31 vz
 go_upto_region 5 with fail
 refine one_row w4 _ _ ?_
 intro w5 hr hb
 replace HT := Lib.hid (row_below HT.out hb)
 replace HR := Lib.hid (row_below HR.out hb)
 replace HK := Lib.hid (HK.out.call hb)
 obtain ⟨gj, hgj⟩ : ∃ x, x = w4.heap.size := ⟨_, rfl⟩
 rw [← hgj] at hr ⊢
 have HJ := Lib.hid hr
 clear hgj hr hb
 obtain ⟨f0, f1, f2, _, _, _⟩ := box3 HJ.out
 have zf := lt_of_heap HJ.out
 go_upto_region 6 with fail
 clear f0 f1 f2 zf HJ
 refine wp_region_held_drew (S := fun W => Use W g p s t i h r 18 ∧ W.heap[gf]? = some (.cells #[.int .i64 sc, .int .i64 ep, .int .i64 at_] 70 (0, 0))) (by kernel_rfl) (by first | exact ⟨HT.out, HR.out⟩ | (dsimp only; exact ⟨HT.out, HR.out⟩)) ?_
 intro hS
 have hK0 := HK.out.drew
 generalize w5.drew = y0 at hS hK0 ⊢
 refine tk (i := 0) (v := ?v0x51) (some 44) rfl rfl (Or.inl ⟨by kernel_rfl, ?h0x51⟩) ?r0x51
 case h0x51 => (intro w hSw; obtain ⟨s1, s2⟩ := hSw; obtain ⟨b0, b1, b2, b3, b4, b5, b9, b10, b12, b14, b15, b16, b19, b31, bf12, bf19, bf31, bz⟩ := use_box s1;  obtain ⟨f0, f1, f2, _, _, _⟩ := box3 s2; have zf := lt_of_heap s2; go_simp; first | done | (with_reducible rfl))
 try simp only [Act.put, List.setIfInBounds_toArray, List.set_cons_succ, List.set_cons_zero]
 refine tk (i := 1) (v := ?v1x52) (some 45) rfl rfl (Or.inl ⟨by kernel_rfl, ?h1x52⟩) ?r1x52
 case h1x52 => (intro w hSw; obtain ⟨s1, s2⟩ := hSw; obtain ⟨b0, b1, b2, b3, b4, b5, b9, b10, b12, b14, b15, b16, b19, b31, bf12, bf19, bf31, bz⟩ := use_box s1;  obtain ⟨f0, f1, f2, _, _, _⟩ := box3 s2; have zf := lt_of_heap s2; go_simp; first | done | (with_reducible rfl))
 try simp only [Act.put, List.setIfInBounds_toArray, List.set_cons_succ, List.set_cons_zero]
 refine tk (i := 2) (v := ?v2x53) (some 46) rfl rfl (Or.inl ⟨by kernel_rfl, ?h2x53⟩) ?r2x53
 case h2x53 => (intro w hSw; obtain ⟨s1, s2⟩ := hSw; obtain ⟨b0, b1, b2, b3, b4, b5, b9, b10, b12, b14, b15, b16, b19, b31, bf12, bf19, bf31, bz⟩ := use_box s1;  obtain ⟨f0, f1, f2, _, _, _⟩ := box3 s2; have zf := lt_of_heap s2; go_simp; first | done | (with_reducible rfl))
 try simp only [Act.put, List.setIfInBounds_toArray, List.set_cons_succ, List.set_cons_zero]
 refine tk (i := 3) (v := ?v3x54) (some 47) rfl rfl (Or.inl ⟨by kernel_rfl, ?h3x54⟩) ?r3x54
 case h3x54 => (intro w hSw; obtain ⟨s1, s2⟩ := hSw; obtain ⟨b0, b1, b2, b3, b4, b5, b9, b10, b12, b14, b15, b16, b19, b31, bf12, bf19, bf31, bz⟩ := use_box s1;  obtain ⟨f0, f1, f2, _, _, _⟩ := box3 s2; have zf := lt_of_heap s2; go_simp; first | done | (with_reducible rfl))
 try simp only [Act.put, List.setIfInBounds_toArray, List.set_cons_succ, List.set_cons_zero]
 refine tk (i := 4) (v := ?v4x55) (some 48) rfl rfl (Or.inl ⟨by kernel_rfl, ?h4x55⟩) ?r4x55
 case h4x55 => (intro w hSw; obtain ⟨s1, s2⟩ := hSw; obtain ⟨b0, b1, b2, b3, b4, b5, b9, b10, b12, b14, b15, b16, b19, b31, bf12, bf19, bf31, bz⟩ := use_box s1;  obtain ⟨f0, f1, f2, _, _, _⟩ := box3 s2; have zf := lt_of_heap s2; go_simp; first | done | (with_reducible rfl))
 try simp only [Act.put, List.setIfInBounds_toArray, List.set_cons_succ, List.set_cons_zero]
 refine tk (i := 5) (v := ?v5x56) (some 49) rfl rfl (Or.inl ⟨by kernel_rfl, ?h5x56⟩) ?r5x56
 case h5x56 => (intro w hSw; obtain ⟨s1, s2⟩ := hSw; obtain ⟨b0, b1, b2, b3, b4, b5, b9, b10, b12, b14, b15, b16, b19, b31, bf12, bf19, bf31, bz⟩ := use_box s1;  obtain ⟨f0, f1, f2, _, _, _⟩ := box3 s2; have zf := lt_of_heap s2; go_simp; first | done | (with_reducible rfl))
 try simp only [Act.put, List.setIfInBounds_toArray, List.set_cons_succ, List.set_cons_zero]
 refine tk (i := 6) (v := undef) (some 50) rfl rfl (Or.inr ⟨by kernel_rfl, rfl⟩) ?_
 try simp only [Act.put, List.setIfInBounds_toArray, List.set_cons_succ, List.set_cons_zero]
 refine tk (i := 7) (v := undef) (some 51) rfl rfl (Or.inr ⟨by kernel_rfl, rfl⟩) ?_
 try simp only [Act.put, List.setIfInBounds_toArray, List.set_cons_succ, List.set_cons_zero]
 refine tk (i := 8) (v := undef) (some 52) rfl rfl (Or.inr ⟨by kernel_rfl, rfl⟩) ?_
 try simp only [Act.put, List.setIfInBounds_toArray, List.set_cons_succ, List.set_cons_zero]
 refine tk (i := 9) (v := undef) (some 53) rfl rfl (Or.inr ⟨by kernel_rfl, rfl⟩) ?_
 try simp only [Act.put, List.setIfInBounds_toArray, List.set_cons_succ, List.set_cons_zero]
 refine tk (i := 10) (v := undef) (some 54) rfl rfl (Or.inr ⟨by kernel_rfl, rfl⟩) ?_
 try simp only [Act.put, List.setIfInBounds_toArray, List.set_cons_succ, List.set_cons_zero]
 refine tk (i := 11) (v := undef) (some 55) rfl rfl (Or.inr ⟨by kernel_rfl, rfl⟩) ?_
 try simp only [Act.put, List.setIfInBounds_toArray, List.set_cons_succ, List.set_cons_zero]
 refine tk (i := 12) (v := undef) (some 56) rfl rfl (Or.inr ⟨by kernel_rfl, rfl⟩) ?_
 try simp only [Act.put, List.setIfInBounds_toArray, List.set_cons_succ, List.set_cons_zero]
 refine tk (i := 13) (v := undef) (some 57) rfl rfl (Or.inr ⟨by kernel_rfl, rfl⟩) ?_
 try simp only [Act.put, List.setIfInBounds_toArray, List.set_cons_succ, List.set_cons_zero]
 refine tk (i := 14) (v := undef) (some 58) rfl rfl (Or.inr ⟨by kernel_rfl, rfl⟩) ?_
 try simp only [Act.put, List.setIfInBounds_toArray, List.set_cons_succ, List.set_cons_zero]
 refine tk (i := 15) (v := undef) (some 59) rfl rfl (Or.inr ⟨by kernel_rfl, rfl⟩) ?_
 try simp only [Act.put, List.setIfInBounds_toArray, List.set_cons_succ, List.set_cons_zero]
 refine tk (i := 16) (v := ?v16x57) (some 60) rfl rfl (Or.inl ⟨by kernel_rfl, ?h16x57⟩) ?r16x57
 case h16x57 => (intro w hSw; obtain ⟨s1, s2⟩ := hSw; obtain ⟨b0, b1, b2, b3, b4, b5, b9, b10, b12, b14, b15, b16, b19, b31, bf12, bf19, bf31, bz⟩ := use_box s1;  obtain ⟨f0, f1, f2, _, _, _⟩ := box3 s2; have zf := lt_of_heap s2; go_simp; first | done | (with_reducible rfl))
 try simp only [Act.put, List.setIfInBounds_toArray, List.set_cons_succ, List.set_cons_zero]
 refine wpAnyH_done (by kernel_rfl) ?_ _
 have HT6 := Lib.hid hS.1
 have HK6 := Lib.hid hK0
 clear hS hK0
 obtain ⟨v0, v1, v2, v3, v4, v5, v9, v10, v12, v14, v15, v16, v19, v31, vf12, vf19, vf31, vz⟩ := use_box HT6.out
 go_wp2_with fail
 go_end0
 exact ⟨rfl, HT6.out.setPc 10, HK6.out.setCell (p := ⟨g, 12, none⟩) (.inl (by simp)) _⟩
set_option maxRecDepth 100000 in
set_option maxHeartbeats 4000000 in
theorem useValue_bad_gate (g p b : Nat) (s t i h : Int) (ws : List Int) (k : Nat) (r : Rn) (sc ep at_ : Int) (w : World) (y : Int) (h1 : ws[k]? = some 1281) (h2 : ws[k + 1]? = some y) (hop : r.c.op = 11) (hT : Use w g p s t i h r 0) (hA : Arn w p b ws) (ha : at_ = 8 * (k : Int)) (hu : unpackR r.val = ((sc, ep, at_), 0)) (h0 : 0 ≤ r.val ∧ r.val ≤ 18446744073709551615) :
  Calls Tryz.prog 35 #[.pointer (some ⟨g, 0, none⟩)] w fun e w' => e = .returned (.tuple #[]) ∧ Use w' g p s t i h { r with pc := 12 } 18 ∧ Keep [g] w w' := by
 have HU := fun w' => Lib.hid (refUnpack_as hu h0.1 h0.2 w')
 have HH := fun w' (hT' : Use w' g p s t i h r 0) (h' : Arn w' p b ws) => Lib.hid (useHead_bad g p b s t i h ws k r sc ep at_ w' y h1 h2 hT' h' ha)
 have HT := Lib.hid hT
 have HA := Lib.hid hA
 have Hop := Lib.hid hop
 clear hop hT hA h1 h2 ha hu h0
 obtain ⟨v0, v1, v2, v3, v4, v5, v9, v10, v12, v14, v15, v16, v19, v31, vf12, vf19, vf31, vz⟩ := use_box HT.out
 rw [Hop.out] at v5
 go_enter Tryz.func35, Tryz.ntmps35
 go_wp2_with fail
 refine (HU _).out.mono ?_
 rintro r2 w1 ⟨rfl, hb⟩
 replace HT := Lib.hid (row_below HT.out hb)
 replace HA := Lib.hid (HA.out.below hb)
 have HB := Lib.hid hb
 clear hb HU v0 v1 v2 v3 v4 v5 v9 v10 v12 v14 v15 v16 v19 v31 vf12 vf19 vf31 vz
 go_upto_region 1 with fail
 refine one_row w1 _ _ ?_
 intro w2 hr hb
 have hg := lt_of_heap HT.out
 replace HT := Lib.hid (row_below HT.out hb)
 replace HA := Lib.hid (HA.out.below hb)
 replace HB := Lib.hid (below_only HB.out hb)
 obtain ⟨gf, hgf⟩ : ∃ x, x = w1.heap.size := ⟨_, rfl⟩
 rw [← hgf] at hr ⊢
 have HR := Lib.hid hr
 have Mgf : Hid (gf ≠ g) := Lib.hid (by omega)
 clear hgf hr hb hg
 obtain ⟨f0, f1, f2, _, _, _⟩ := box3 HR.out
 have zf := lt_of_heap HR.out
 go_wp2_with fail
 clear f0 f1 f2 zf
 refine (HH _ HT.out HA.out).out.mono ?_
 rintro r2 w3 ⟨rfl, hT3, hK⟩
 replace HR := Lib.hid (hK.row HR.out (by simpa using Mgf.out))
 have HK := Lib.hid ((keep_below HB.out [g]).trans hK)
 replace HT := Lib.hid hT3
 clear hK hT3 HB HH HA
 obtain ⟨v0, v1, v2, v3, v4, v5, v9, v10, v12, v14, v15, v16, v19, v31, vf12, vf19, vf31, vz⟩ := use_box HT.out
 rw [Hop.out] at v5
 go_upto_region 6 with fail
 clear v0 v1 v2 v3 v4 v5 v9 v10 v12 v14 v15 v16 v19 v31 vf12 vf19 vf31 vz
 refine wp_region_held_drew (S := fun W => Use W g p s t i h r 18 ∧ W.heap[gf]? = some (.cells #[.int .i64 sc, .int .i64 ep, .int .i64 at_] 70 (0, 0))) (by kernel_rfl) (by first | exact ⟨HT.out, HR.out⟩ | (dsimp only; exact ⟨HT.out, HR.out⟩)) ?_
 intro hS
 have hK0 := HK.out.drew
 generalize w3.drew = y0 at hS hK0 ⊢
 refine tk (i := 0) (v := ?v0x58) (some 44) rfl rfl (Or.inl ⟨by kernel_rfl, ?h0x58⟩) ?r0x58
 case h0x58 => (intro w hSw; obtain ⟨s1, s2⟩ := hSw; obtain ⟨b0, b1, b2, b3, b4, b5, b9, b10, b12, b14, b15, b16, b19, b31, bf12, bf19, bf31, bz⟩ := use_box s1;  obtain ⟨f0, f1, f2, _, _, _⟩ := box3 s2; have zf := lt_of_heap s2; go_simp; first | done | (with_reducible rfl))
 try simp only [Act.put, List.setIfInBounds_toArray, List.set_cons_succ, List.set_cons_zero]
 refine tk (i := 1) (v := ?v1x59) (some 45) rfl rfl (Or.inl ⟨by kernel_rfl, ?h1x59⟩) ?r1x59
 case h1x59 => (intro w hSw; obtain ⟨s1, s2⟩ := hSw; obtain ⟨b0, b1, b2, b3, b4, b5, b9, b10, b12, b14, b15, b16, b19, b31, bf12, bf19, bf31, bz⟩ := use_box s1;  obtain ⟨f0, f1, f2, _, _, _⟩ := box3 s2; have zf := lt_of_heap s2; go_simp; first | done | (with_reducible rfl))
 try simp only [Act.put, List.setIfInBounds_toArray, List.set_cons_succ, List.set_cons_zero]
 refine tk (i := 2) (v := ?v2x60) (some 46) rfl rfl (Or.inl ⟨by kernel_rfl, ?h2x60⟩) ?r2x60
 case h2x60 => (intro w hSw; obtain ⟨s1, s2⟩ := hSw; obtain ⟨b0, b1, b2, b3, b4, b5, b9, b10, b12, b14, b15, b16, b19, b31, bf12, bf19, bf31, bz⟩ := use_box s1;  obtain ⟨f0, f1, f2, _, _, _⟩ := box3 s2; have zf := lt_of_heap s2; go_simp; first | done | (with_reducible rfl))
 try simp only [Act.put, List.setIfInBounds_toArray, List.set_cons_succ, List.set_cons_zero]
 refine tk (i := 3) (v := ?v3x61) (some 47) rfl rfl (Or.inl ⟨by kernel_rfl, ?h3x61⟩) ?r3x61
 case h3x61 => (intro w hSw; obtain ⟨s1, s2⟩ := hSw; obtain ⟨b0, b1, b2, b3, b4, b5, b9, b10, b12, b14, b15, b16, b19, b31, bf12, bf19, bf31, bz⟩ := use_box s1;  obtain ⟨f0, f1, f2, _, _, _⟩ := box3 s2; have zf := lt_of_heap s2; go_simp; first | done | (with_reducible rfl))
 try simp only [Act.put, List.setIfInBounds_toArray, List.set_cons_succ, List.set_cons_zero]
 refine tk (i := 4) (v := ?v4x62) (some 48) rfl rfl (Or.inl ⟨by kernel_rfl, ?h4x62⟩) ?r4x62
 case h4x62 => (intro w hSw; obtain ⟨s1, s2⟩ := hSw; obtain ⟨b0, b1, b2, b3, b4, b5, b9, b10, b12, b14, b15, b16, b19, b31, bf12, bf19, bf31, bz⟩ := use_box s1;  obtain ⟨f0, f1, f2, _, _, _⟩ := box3 s2; have zf := lt_of_heap s2; go_simp; first | done | (with_reducible rfl))
 try simp only [Act.put, List.setIfInBounds_toArray, List.set_cons_succ, List.set_cons_zero]
 refine tk (i := 5) (v := ?v5x63) (some 49) rfl rfl (Or.inl ⟨by kernel_rfl, ?h5x63⟩) ?r5x63
 case h5x63 => (intro w hSw; obtain ⟨s1, s2⟩ := hSw; obtain ⟨b0, b1, b2, b3, b4, b5, b9, b10, b12, b14, b15, b16, b19, b31, bf12, bf19, bf31, bz⟩ := use_box s1;  obtain ⟨f0, f1, f2, _, _, _⟩ := box3 s2; have zf := lt_of_heap s2; go_simp; first | done | (with_reducible rfl))
 try simp only [Act.put, List.setIfInBounds_toArray, List.set_cons_succ, List.set_cons_zero]
 refine tk (i := 6) (v := undef) (some 50) rfl rfl (Or.inr ⟨by kernel_rfl, rfl⟩) ?_
 try simp only [Act.put, List.setIfInBounds_toArray, List.set_cons_succ, List.set_cons_zero]
 refine tk (i := 7) (v := undef) (some 51) rfl rfl (Or.inr ⟨by kernel_rfl, rfl⟩) ?_
 try simp only [Act.put, List.setIfInBounds_toArray, List.set_cons_succ, List.set_cons_zero]
 refine tk (i := 8) (v := undef) (some 52) rfl rfl (Or.inr ⟨by kernel_rfl, rfl⟩) ?_
 try simp only [Act.put, List.setIfInBounds_toArray, List.set_cons_succ, List.set_cons_zero]
 refine tk (i := 9) (v := undef) (some 53) rfl rfl (Or.inr ⟨by kernel_rfl, rfl⟩) ?_
 try simp only [Act.put, List.setIfInBounds_toArray, List.set_cons_succ, List.set_cons_zero]
 refine tk (i := 10) (v := undef) (some 54) rfl rfl (Or.inr ⟨by kernel_rfl, rfl⟩) ?_
 try simp only [Act.put, List.setIfInBounds_toArray, List.set_cons_succ, List.set_cons_zero]
 refine tk (i := 11) (v := undef) (some 55) rfl rfl (Or.inr ⟨by kernel_rfl, rfl⟩) ?_
 try simp only [Act.put, List.setIfInBounds_toArray, List.set_cons_succ, List.set_cons_zero]
 refine tk (i := 12) (v := undef) (some 56) rfl rfl (Or.inr ⟨by kernel_rfl, rfl⟩) ?_
 try simp only [Act.put, List.setIfInBounds_toArray, List.set_cons_succ, List.set_cons_zero]
 refine tk (i := 13) (v := undef) (some 57) rfl rfl (Or.inr ⟨by kernel_rfl, rfl⟩) ?_
 try simp only [Act.put, List.setIfInBounds_toArray, List.set_cons_succ, List.set_cons_zero]
 refine tk (i := 14) (v := undef) (some 58) rfl rfl (Or.inr ⟨by kernel_rfl, rfl⟩) ?_
 try simp only [Act.put, List.setIfInBounds_toArray, List.set_cons_succ, List.set_cons_zero]
 refine tk (i := 15) (v := undef) (some 59) rfl rfl (Or.inr ⟨by kernel_rfl, rfl⟩) ?_
 try simp only [Act.put, List.setIfInBounds_toArray, List.set_cons_succ, List.set_cons_zero]
 refine tk (i := 16) (v := ?v16x64) (some 60) rfl rfl (Or.inl ⟨by kernel_rfl, ?h16x64⟩) ?r16x64
 case h16x64 => (intro w hSw; obtain ⟨s1, s2⟩ := hSw; obtain ⟨b0, b1, b2, b3, b4, b5, b9, b10, b12, b14, b15, b16, b19, b31, bf12, bf19, bf31, bz⟩ := use_box s1;  obtain ⟨f0, f1, f2, _, _, _⟩ := box3 s2; have zf := lt_of_heap s2; go_simp; first | done | (with_reducible rfl))
 try simp only [Act.put, List.setIfInBounds_toArray, List.set_cons_succ, List.set_cons_zero]
 refine wpAnyH_done (by kernel_rfl) ?_ _
 have HT6 := Lib.hid hS.1
 have HK6 := Lib.hid hK0
 clear hS hK0
 obtain ⟨v0, v1, v2, v3, v4, v5, v9, v10, v12, v14, v15, v16, v19, v31, vf12, vf19, vf31, vz⟩ := use_box HT6.out
 go_wp2_with fail
 go_end0
 exact ⟨rfl, HT6.out.setPc 12, HK6.out.setCell (p := ⟨g, 12, none⟩) (.inl (by simp)) _⟩
end Go.Proofs.YtnimaajnlkbdaaaGreat

namespace Go.Proofs.YtnimaajnlkbdaaaGreat
open Go.RowKit
set_option linter.unusedVariables false
set_option linter.unusedSimpArgs false

abbrev UseX (W : World) (g p : Nat) (s t i h : Int) (r : Rn) : Prop := ∃ pc' at' e', Use W g p s t i h { r with pc := pc', at_ := at' } e'
set_option maxRecDepth 100000 in
set_option maxHeartbeats 4000000 in
theorem useHand_bad (g p b : Nat) (s t i h : Int) (ws : List Int) (k : Nat) (r : Rn) (sc ep at_ : Int) (w : World) (y : Int) (h1 : ws[k]? = some 1281) (h2 : ws[k + 1]? = some y) (hT : Use w g p s t i h r 0) (hA : Arn w p b ws) (ha : at_ = 8 * (k : Int)) (hu : unpackR r.hand = ((sc, ep, at_), 0)) (h0 : 0 ≤ r.hand ∧ r.hand ≤ 18446744073709551615) :
  Calls Tryz.prog 34 #[.pointer (some ⟨g, 0, none⟩)] w fun e w' => e = .returned (.tuple #[]) ∧ Use w' g p s t i h r 18 ∧ Keep [g] w w' := by
 have HU := fun w' => Lib.hid (refUnpack_as hu h0.1 h0.2 w')
 have HH := fun w' (hT' : Use w' g p s t i h r 0) (h' : Arn w' p b ws) => Lib.hid (useHead_bad g p b s t i h ws k r sc ep at_ w' y h1 h2 hT' h' ha)
 have HT := Lib.hid hT
 have HA := Lib.hid hA
 clear hT hA h1 h2 ha hu h0
 obtain ⟨v0, v1, v2, v3, v4, v5, v9, v10, v12, v14, v15, v16, v19, v31, vf12, vf19, vf31, vz⟩ := use_box HT.out
 go_enter Tryz.func34, Tryz.ntmps34
 go_wp2_with fail
 refine (HU _).out.mono ?_
 rintro r2 w1 ⟨rfl, hb⟩
 replace HT := Lib.hid (row_below HT.out hb)
 replace HA := Lib.hid (HA.out.below hb)
 have HB := Lib.hid hb
 clear hb HU v0 v1 v2 v3 v4 v5 v9 v10 v12 v14 v15 v16 v19 v31 vf12 vf19 vf31 vz
 go_upto_region 1 with fail
 refine one_row w1 _ _ ?_
 intro w2 hr hb
 have hg := lt_of_heap HT.out
 replace HT := Lib.hid (row_below HT.out hb)
 replace HA := Lib.hid (HA.out.below hb)
 replace HB := Lib.hid (below_only HB.out hb)
 obtain ⟨gf, hgf⟩ : ∃ x, x = w1.heap.size := ⟨_, rfl⟩
 rw [← hgf] at hr ⊢
 have HR := Lib.hid hr
 have Mgf : Hid (gf ≠ g) := Lib.hid (by omega)
 clear hgf hr hb hg
 obtain ⟨f0, f1, f2, _, _, _⟩ := box3 HR.out
 have zf := lt_of_heap HR.out
 go_wp2_with fail
 clear f0 f1 f2 zf
 refine (HH _ HT.out HA.out).out.mono ?_
 rintro r2 w3 ⟨rfl, hT3, hK⟩
 replace HR := Lib.hid (hK.row HR.out (by simpa using Mgf.out))
 have HK := Lib.hid ((keep_below HB.out [g]).trans hK)
 replace HT := Lib.hid hT3
 clear hK hT3 HB HH HA
 go_upto_region 2 with fail
 refine one_row w3 _ _ ?_
 intro w4 hr hb
 replace HT := Lib.hid (row_below HT.out hb)
 replace HR := Lib.hid (row_below HR.out hb)
 replace HK := Lib.hid (HK.out.call hb)
 obtain ⟨gh, hgh⟩ : ∃ x, x = w3.heap.size := ⟨_, rfl⟩
 rw [← hgh] at hr ⊢
 have HD := Lib.hid hr
 clear hgh hr hb
 obtain ⟨v0, v1, v2, v3, v4, v5, v9, v10, v12, v14, v15, v16, v19, v31, vf12, vf19, vf31, vz⟩ := use_box HT.out
 go_wp2_with fail
 (first | go_end0 | refine bodyPost_ret (results_none rfl _ _ _) rfl ?_)
 exact ⟨rfl, HT.out, HK.out⟩
set_option maxRecDepth 100000 in
set_option maxHeartbeats 4000000 in
theorem useHand_slot (g p b : Nat) (s t i h : Int) (ws : List Int) (k : Nat) (r : Rn) (sc ep at_ : Int) (w : World) (sz sl tg : Int) (hH : HeadOk sz sl tg sc ep) (h1 : ws[k]? = some (head1 sz sl tg)) (h2 : ws[k + 1]? = some (head2 sc ep)) (hB : inB r.c.b 0 (sl - 1) = false) (hT : Use w g p s t i h r 0) (hA : Arn w p b ws) (ha : at_ = 8 * (k : Int)) (hu : unpackR r.hand = ((sc, ep, at_), 0)) (h0 : 0 ≤ r.hand ∧ r.hand ≤ 18446744073709551615) :
  Calls Tryz.prog 34 #[.pointer (some ⟨g, 0, none⟩)] w fun e w' => e = .returned (.tuple #[]) ∧ Use w' g p s t i h r 21 ∧ Keep [g] w w' := by
 have HU := fun w' => Lib.hid (refUnpack_as hu h0.1 h0.2 w')
 have HH := fun w' (hT' : Use w' g p s t i h r 0) (h' : Arn w' p b ws) => Lib.hid (useHead_any g p b s t i h ws k r sc ep at_ w' sz sl tg hH h1 h2 hT' h' ha)
 have HW := fun w' => Lib.hid (within_any r.c.b 0 (sl - 1) w')
 have wsl : IntKind.i64.wrap (sl - 1) = sl - 1 := IntWalk.i64_in _ (by have := hH.hsl; omega)
 rw [hB] at HW
 have HT := Lib.hid hT
 have HA := Lib.hid hA
 clear hT hA h1 h2 ha hu h0 hH hB
 obtain ⟨v0, v1, v2, v3, v4, v5, v9, v10, v12, v14, v15, v16, v19, v31, vf12, vf19, vf31, vz⟩ := use_box HT.out
 go_enter Tryz.func34, Tryz.ntmps34
 go_wp2_with fail
 refine (HU _).out.mono ?_
 rintro r2 w1 ⟨rfl, hb⟩
 replace HT := Lib.hid (row_below HT.out hb)
 replace HA := Lib.hid (HA.out.below hb)
 have HB := Lib.hid hb
 clear hb HU v0 v1 v2 v3 v4 v5 v9 v10 v12 v14 v15 v16 v19 v31 vf12 vf19 vf31 vz
 go_upto_region 1 with fail
 refine one_row w1 _ _ ?_
 intro w2 hr hb
 have hg := lt_of_heap HT.out
 replace HT := Lib.hid (row_below HT.out hb)
 replace HA := Lib.hid (HA.out.below hb)
 replace HB := Lib.hid (below_only HB.out hb)
 obtain ⟨gf, hgf⟩ : ∃ x, x = w1.heap.size := ⟨_, rfl⟩
 rw [← hgf] at hr ⊢
 have HR := Lib.hid hr
 have Mgf : Hid (gf ≠ g) := Lib.hid (by omega)
 clear hgf hr hb hg
 obtain ⟨f0, f1, f2, _, _, _⟩ := box3 HR.out
 have zf := lt_of_heap HR.out
 go_wp2_with fail
 clear f0 f1 f2 zf
 refine (HH _ HT.out HA.out).out.mono ?_
 rintro r2 w3 ⟨rfl, hT3, hb⟩
 replace HA := Lib.hid (HA.out.below hb)
 replace HR := Lib.hid (row_below HR.out hb)
 have HK := Lib.hid (keep_below (below_only HB.out hb) [g])
 replace HT := Lib.hid hT3
 clear hb hT3 HB HH
 go_upto_region 2 with fail
 refine one_row w3 _ _ ?_
 intro w4 hr hb
 replace HT := Lib.hid (row_below HT.out hb)
 replace HR := Lib.hid (row_below HR.out hb)
 replace HK := Lib.hid (HK.out.call hb)
 replace HA := Lib.hid (HA.out.below hb)
 obtain ⟨gh, hgh⟩ : ∃ x, x = w3.heap.size := ⟨_, rfl⟩
 rw [← hgh] at hr ⊢
 have HD := Lib.hid hr
 clear hgh hr hb
 obtain ⟨v0, v1, v2, v3, v4, v5, v9, v10, v12, v14, v15, v16, v19, v31, vf12, vf19, vf31, vz⟩ := use_box HT.out
 go_upto_region 3 with fail
 clear v0 v1 v2 v3 v4 v5 v9 v10 v12 v14 v15 v16 v19 v31 vf12 vf19 vf31 vz
 refine wp_region_held_drew (S := fun W => Use W g p s t i h r 0 ∧ W.heap[gh]? = some (.cells (hdCells sz sl tg false sc ep) 148 (0, 0))) (by kernel_rfl) (by first | exact ⟨HT.out, HD.out⟩ | (dsimp only; exact ⟨HT.out, HD.out⟩)) ?_
 intro hS
 have hK0 := HK.out.drew
 have hA0 := HA.out.drew
 have hR0 : w4.drew.heap[gf]? = _ := HR.out
 generalize w4.drew = y0 at hS hK0 hA0 hR0 ⊢
 refine tk (i := 0) (v := ?v0x19) (some 24) rfl rfl (Or.inl ⟨by kernel_rfl, ?h0x19⟩) ?r0x19
 case h0x19 => (intro w hSw; obtain ⟨s1, s2⟩ := hSw; obtain ⟨b0, b1, b2, b3, b4, b5, b9, b10, b12, b14, b15, b16, b19, b31, bf12, bf19, bf31, bz⟩ := use_box s1; obtain ⟨f0, f1, f2, f3, f4, f5⟩ := box6 s2; have zf := lt_of_heap s2; go_simp; first | done | (with_reducible rfl))
 try simp only [Act.put, List.setIfInBounds_toArray, List.set_cons_succ, List.set_cons_zero]
 refine tk (i := 1) (v := ?v1x20) (some 25) rfl rfl (Or.inl ⟨by kernel_rfl, ?h1x20⟩) ?r1x20
 case h1x20 => (intro w hSw; obtain ⟨s1, s2⟩ := hSw; obtain ⟨b0, b1, b2, b3, b4, b5, b9, b10, b12, b14, b15, b16, b19, b31, bf12, bf19, bf31, bz⟩ := use_box s1; obtain ⟨f0, f1, f2, f3, f4, f5⟩ := box6 s2; have zf := lt_of_heap s2; go_simp; first | done | (with_reducible rfl))
 try simp only [Act.put, List.setIfInBounds_toArray, List.set_cons_succ, List.set_cons_zero]
 refine tk (i := 2) (v := ?v2x21) (some 26) rfl rfl (Or.inl ⟨by kernel_rfl, ?h2x21⟩) ?r2x21
 case h2x21 => (intro w hSw; obtain ⟨s1, s2⟩ := hSw; obtain ⟨b0, b1, b2, b3, b4, b5, b9, b10, b12, b14, b15, b16, b19, b31, bf12, bf19, bf31, bz⟩ := use_box s1; obtain ⟨f0, f1, f2, f3, f4, f5⟩ := box6 s2; have zf := lt_of_heap s2; go_simp; first | done | (with_reducible rfl))
 try simp only [Act.put, List.setIfInBounds_toArray, List.set_cons_succ, List.set_cons_zero]
 refine tk (i := 3) (v := ?v3x22) (some 27) rfl rfl (Or.inl ⟨by kernel_rfl, ?h3x22⟩) ?r3x22
 case h3x22 => (intro w hSw; obtain ⟨s1, s2⟩ := hSw; obtain ⟨b0, b1, b2, b3, b4, b5, b9, b10, b12, b14, b15, b16, b19, b31, bf12, bf19, bf31, bz⟩ := use_box s1; obtain ⟨f0, f1, f2, f3, f4, f5⟩ := box6 s2; have zf := lt_of_heap s2; go_simp; first | done | (with_reducible rfl))
 try simp only [Act.put, List.setIfInBounds_toArray, List.set_cons_succ, List.set_cons_zero]
 refine tk (i := 4) (v := ?v4x23) (some 28) rfl rfl (Or.inl ⟨by kernel_rfl, ?h4x23⟩) ?r4x23
 case h4x23 => (intro w hSw; obtain ⟨s1, s2⟩ := hSw; obtain ⟨b0, b1, b2, b3, b4, b5, b9, b10, b12, b14, b15, b16, b19, b31, bf12, bf19, bf31, bz⟩ := use_box s1; obtain ⟨f0, f1, f2, f3, f4, f5⟩ := box6 s2; have zf := lt_of_heap s2; go_simp; first | done | (with_reducible rfl))
 try simp only [Act.put, List.setIfInBounds_toArray, List.set_cons_succ, List.set_cons_zero]
 refine tk (i := 5) (v := ?v5x24) (some 29) rfl rfl (Or.inl ⟨by kernel_rfl, ?h5x24⟩) ?r5x24
 case h5x24 => (intro w hSw; obtain ⟨s1, s2⟩ := hSw; obtain ⟨b0, b1, b2, b3, b4, b5, b9, b10, b12, b14, b15, b16, b19, b31, bf12, bf19, bf31, bz⟩ := use_box s1; obtain ⟨f0, f1, f2, f3, f4, f5⟩ := box6 s2; have zf := lt_of_heap s2; go_simp; first | done | (with_reducible rfl))
 try simp only [Act.put, List.setIfInBounds_toArray, List.set_cons_succ, List.set_cons_zero]
 refine tk (i := 6) (v := ?v6x25) (some 30) rfl rfl (Or.inl ⟨by kernel_rfl, ?h6x25⟩) ?r6x25
 case h6x25 => (intro w hSw; obtain ⟨s1, s2⟩ := hSw; obtain ⟨b0, b1, b2, b3, b4, b5, b9, b10, b12, b14, b15, b16, b19, b31, bf12, bf19, bf31, bz⟩ := use_box s1; obtain ⟨f0, f1, f2, f3, f4, f5⟩ := box6 s2; have zf := lt_of_heap s2; go_simp; first | done | (with_reducible rfl))
 try simp only [Act.put, List.setIfInBounds_toArray, List.set_cons_succ, List.set_cons_zero]
 refine tk (i := 7) (v := ?v7x26) (some 31) rfl rfl (Or.inl ⟨by kernel_rfl, ?h7x26⟩) ?r7x26
 case h7x26 => (intro w hSw; obtain ⟨s1, s2⟩ := hSw; obtain ⟨b0, b1, b2, b3, b4, b5, b9, b10, b12, b14, b15, b16, b19, b31, bf12, bf19, bf31, bz⟩ := use_box s1; obtain ⟨f0, f1, f2, f3, f4, f5⟩ := box6 s2; have zf := lt_of_heap s2; go_simp; first | done | (with_reducible rfl))
 try simp only [Act.put, List.setIfInBounds_toArray, List.set_cons_succ, List.set_cons_zero]
 refine tk (i := 8) (v := ?v8x27) (some 32) rfl rfl (Or.inl ⟨by kernel_rfl, ?h8x27⟩) ?r8x27
 case h8x27 => (intro w hSw; obtain ⟨s1, s2⟩ := hSw; obtain ⟨b0, b1, b2, b3, b4, b5, b9, b10, b12, b14, b15, b16, b19, b31, bf12, bf19, bf31, bz⟩ := use_box s1; obtain ⟨f0, f1, f2, f3, f4, f5⟩ := box6 s2; have zf := lt_of_heap s2; go_simp; first | done | (with_reducible rfl))
 try simp only [Act.put, List.setIfInBounds_toArray, List.set_cons_succ, List.set_cons_zero]
 refine wpAnyH_ready (rs := [9]) (by kernel_rfl) (by simp) ?_
 refine AllReadyH.cons rfl (fun K hK => ?_) AllReadyH.nil
 go_simp
 refine (HW _).out.mono ?_
 rintro e' y1 ⟨rfl, rfl⟩
 go_simp
 refine hK.out _ _ (hS) (fun hS => ?_)
 clear hK K
 try simp only [Act.put, List.setIfInBounds_toArray, List.set_cons_succ, List.set_cons_zero]
 refine tk (i := 10) (v := ?v10x28) (some 34) rfl rfl (Or.inl ⟨by kernel_rfl, ?h10x28⟩) ?r10x28
 case h10x28 => (intro w hSw; obtain ⟨s1, s2⟩ := hSw; obtain ⟨b0, b1, b2, b3, b4, b5, b9, b10, b12, b14, b15, b16, b19, b31, bf12, bf19, bf31, bz⟩ := use_box s1; obtain ⟨f0, f1, f2, f3, f4, f5⟩ := box6 s2; have zf := lt_of_heap s2; go_simp; first | done | (with_reducible rfl))
 try simp only [Act.put, List.setIfInBounds_toArray, List.set_cons_succ, List.set_cons_zero]
 refine tk (i := 11) (v := ?v11x29) (some 23) rfl rfl (Or.inl ⟨by kernel_rfl, ?h11x29⟩) ?r11x29
 case h11x29 => (intro w hSw; obtain ⟨s1, s2⟩ := hSw; obtain ⟨b0, b1, b2, b3, b4, b5, b9, b10, b12, b14, b15, b16, b19, b31, bf12, bf19, bf31, bz⟩ := use_box s1; obtain ⟨f0, f1, f2, f3, f4, f5⟩ := box6 s2; have zf := lt_of_heap s2; go_simp; first | done | (with_reducible rfl))
 try simp only [Act.put, List.setIfInBounds_toArray, List.set_cons_succ, List.set_cons_zero]
 refine wpAnyH_done (by kernel_rfl) ?_ _
 have HT5 := Lib.hid hS.1
 have HK5 := Lib.hid hK0
 have HA5 := Lib.hid hA0
 have HR5 := Lib.hid hR0
 clear hS hK0 hA0 hR0 
 obtain ⟨v0, v1, v2, v3, v4, v5, v9, v10, v12, v14, v15, v16, v19, v31, vf12, vf19, vf31, vz⟩ := use_box HT5.out
 go_wp2_with fail
 (first | go_end0 | refine bodyPost_ret (results_none rfl _ _ _) rfl ?_)
 exact ⟨rfl, HT5.out.setE 21, HK5.out.setCell (p := ⟨g, 31, none⟩) (.inl (by simp)) _⟩
set_option maxRecDepth 100000 in
set_option maxHeartbeats 4000000 in
theorem useHand_ok (g p b : Nat) (s t i h : Int) (ws : List Int) (k : Nat) (r : Rn) (sc ep at_ : Int) (w : World) (sz sl tg : Int) (hH : HeadOk sz sl tg sc ep) (h1 : ws[k]? = some (head1 sz sl tg)) (h2 : ws[k + 1]? = some (head2 sc ep)) (hB : inB r.c.b 0 (sl - 1) = true) (l : List Ent) (hl : l.length ≤ 1048576) (hn : r.chain.n = l.length) (hE : Ents w r.chain.a l) (hEg : ∀ a, 0 < l.length → r.chain.a = some a → a.block ≠ g) (hv0 : 0 ≤ r.val ∧ r.val ≤ 18446744073709551615) (hT : Use w g p s t i h r 0) (hA : Arn w p b ws) (ha : at_ = 8 * (k : Int)) (hu : unpackR r.hand = ((sc, ep, at_), 0)) (h0 : 0 ≤ r.hand ∧ r.hand ≤ 18446744073709551615) :
  Calls Tryz.prog 34 #[.pointer (some ⟨g, 0, none⟩)] w fun e w' => e = .returned (.tuple #[]) ∧ Use w' g p s t i h { r with at_ := at_ + 16 + 8 * r.c.b, pc := if r.c.op = 8 then 9 else if r.val = 0 then 10 else 7 } (if r.c.op = 8 then 0 else if r.val = 0 then 0 else (checkR s l r.val).2) ∧ Keep [g] w w' := by
 have HU := fun w' => Lib.hid (refUnpack_as hu h0.1 h0.2 w')
 have HH := fun w' (hT' : Use w' g p s t i h r 0) (h' : Arn w' p b ws) => Lib.hid (useHead_any g p b s t i h ws k r sc ep at_ w' sz sl tg hH h1 h2 hT' h' ha)
 have HW := fun w' => Lib.hid (within_any r.c.b 0 (sl - 1) w')
 have wsl : IntKind.i64.wrap (sl - 1) = sl - 1 := IntWalk.i64_in _ (by have := hH.hsl; omega)
 rw [hB] at HW
 have hBb : 0 ≤ r.c.b ∧ r.c.b < sl := by simp [inB] at hB; omega
 have HSl := fun w' (h' : Arn w' p b ws) => Lib.hid (thingSlot_any p b ws k at_ r.c.b sz sl tg sc ep w' h' hH h1 h2 ha hBb)
 have HCk : ∀ w', Ents w' r.chain.a l → Hid (Calls Tryz.prog 83 #[.agg #[.int .i64 s, .int .i64 t, .int .i64 i, .int .i64 h], .slice r.chain.a r.chain.n r.chain.c, .int .u64 r.val] w' fun e w'' => e = .returned (.tuple #[.agg #[.int .i64 (checkR s l r.val).1.1, .int .i64 (checkR s l r.val).1.2.1, .int .i64 (checkR s l r.val).1.2.2], .int .i64 (checkR s l r.val).2]) ∧ Below w'.heap.size w' w'') := by
  intro w' hE'
  rw [hn]
  exact Lib.hid (check_any ⟨s, t, i, h⟩ r.chain.a r.chain.c l r.val w' hl hE' hv0.1 hv0.2)
 obtain ⟨ck, Hck⟩ : ∃ x, x = checkR s l r.val := ⟨_, rfl⟩
 simp only [← Hck] at HCk ⊢
 obtain ⟨⟨ck1, ck2, ck3⟩, ckc⟩ := ck
 try dsimp only at HCk ⊢
 obtain ⟨PX, HPX⟩ : ∃ x, Hid ((if r.c.op = 8 then (9 : Int) else if r.val = 0 then 10 else 7) = x) := ⟨_, Lib.hid rfl⟩
 obtain ⟨EX, HEX⟩ : ∃ x, Hid ((if r.c.op = 8 then (0 : Int) else if r.val = 0 then 0 else ckc) = x) := ⟨_, Lib.hid rfl⟩
 rw [HPX.out, HEX.out]
 have HE := Lib.hid hE
 have HG := Lib.hid hEg
 have HT := Lib.hid hT
 have HA := Lib.hid hA
 clear hT hA h1 h2 ha hu h0 hH hB hBb hE hEg hl hn hv0 Hck
 obtain ⟨v0, v1, v2, v3, v4, v5, v9, v10, v12, v14, v15, v16, v19, v31, vf12, vf19, vf31, vz⟩ := use_box HT.out
 go_enter Tryz.func34, Tryz.ntmps34
 go_wp2_with fail
 refine (HU _).out.mono ?_
 rintro r2 w1 ⟨rfl, hb⟩
 replace HT := Lib.hid (row_below HT.out hb)
 replace HA := Lib.hid (HA.out.below hb)
 replace HE := Lib.hid (Ents.below HE.out hb)
 have HB := Lib.hid hb
 clear hb HU v0 v1 v2 v3 v4 v5 v9 v10 v12 v14 v15 v16 v19 v31 vf12 vf19 vf31 vz
 go_upto_region 1 with fail
 refine one_row w1 _ _ ?_
 intro w2 hr hb
 have hg := lt_of_heap HT.out
 replace HT := Lib.hid (row_below HT.out hb)
 replace HA := Lib.hid (HA.out.below hb)
 replace HE := Lib.hid (Ents.below HE.out hb)
 replace HB := Lib.hid (below_only HB.out hb)
 obtain ⟨gf, hgf⟩ : ∃ x, x = w1.heap.size := ⟨_, rfl⟩
 rw [← hgf] at hr ⊢
 have HR := Lib.hid hr
 have Mgf : Hid (gf ≠ g) := Lib.hid (by omega)
 clear hgf hr hb hg
 obtain ⟨f0, f1, f2, _, _, _⟩ := box3 HR.out
 have zf := lt_of_heap HR.out
 go_wp2_with fail
 clear f0 f1 f2 zf
 refine (HH _ HT.out HA.out).out.mono ?_
 rintro r2 w3 ⟨rfl, hT3, hb⟩
 replace HE := Lib.hid (Ents.below HE.out hb)
 replace HA := Lib.hid (HA.out.below hb)
 replace HR := Lib.hid (row_below HR.out hb)
 have HK := Lib.hid (keep_below (below_only HB.out hb) [g])
 replace HT := Lib.hid hT3
 clear hb hT3 HB HH
 go_upto_region 2 with fail
 refine one_row w3 _ _ ?_
 intro w4 hr hb
 replace HT := Lib.hid (row_below HT.out hb)
 replace HR := Lib.hid (row_below HR.out hb)
 replace HK := Lib.hid (HK.out.call hb)
 replace HA := Lib.hid (HA.out.below hb)
 replace HE := Lib.hid (Ents.below HE.out hb)
 obtain ⟨gh, hgh⟩ : ∃ x, x = w3.heap.size := ⟨_, rfl⟩
 rw [← hgh] at hr ⊢
 have HD := Lib.hid hr
 clear hgh hr hb
 obtain ⟨v0, v1, v2, v3, v4, v5, v9, v10, v12, v14, v15, v16, v19, v31, vf12, vf19, vf31, vz⟩ := use_box HT.out
 go_upto_region 3 with fail
 clear v0 v1 v2 v3 v4 v5 v9 v10 v12 v14 v15 v16 v19 v31 vf12 vf19 vf31 vz
 refine wp_region_held_drew (S := fun W => Use W g p s t i h r 0 ∧ W.heap[gh]? = some (.cells (hdCells sz sl tg false sc ep) 148 (0, 0))) (by kernel_rfl) (by first | exact ⟨HT.out, HD.out⟩ | (dsimp only; exact ⟨HT.out, HD.out⟩)) ?_
 intro hS
 have hK0 := HK.out.drew
 have hA0 := HA.out.drew
 have hR0 : w4.drew.heap[gf]? = _ := HR.out
 have hE0 : Ents w4.drew r.chain.a l := Ents.below HE.out (Below.drew (Below.refl _ _))
 generalize w4.drew = y0 at hS hK0 hA0 hR0 hE0 ⊢
 refine tk (i := 0) (v := ?v0x30) (some 24) rfl rfl (Or.inl ⟨by kernel_rfl, ?h0x30⟩) ?r0x30
 case h0x30 => (intro w hSw; obtain ⟨s1, s2⟩ := hSw; obtain ⟨b0, b1, b2, b3, b4, b5, b9, b10, b12, b14, b15, b16, b19, b31, bf12, bf19, bf31, bz⟩ := use_box s1; obtain ⟨f0, f1, f2, f3, f4, f5⟩ := box6 s2; have zf := lt_of_heap s2; go_simp; first | done | (with_reducible rfl))
 try simp only [Act.put, List.setIfInBounds_toArray, List.set_cons_succ, List.set_cons_zero]
 refine tk (i := 1) (v := ?v1x31) (some 25) rfl rfl (Or.inl ⟨by kernel_rfl, ?h1x31⟩) ?r1x31
 case h1x31 => (intro w hSw; obtain ⟨s1, s2⟩ := hSw; obtain ⟨b0, b1, b2, b3, b4, b5, b9, b10, b12, b14, b15, b16, b19, b31, bf12, bf19, bf31, bz⟩ := use_box s1; obtain ⟨f0, f1, f2, f3, f4, f5⟩ := box6 s2; have zf := lt_of_heap s2; go_simp; first | done | (with_reducible rfl))
 try simp only [Act.put, List.setIfInBounds_toArray, List.set_cons_succ, List.set_cons_zero]
 refine tk (i := 2) (v := ?v2x32) (some 26) rfl rfl (Or.inl ⟨by kernel_rfl, ?h2x32⟩) ?r2x32
 case h2x32 => (intro w hSw; obtain ⟨s1, s2⟩ := hSw; obtain ⟨b0, b1, b2, b3, b4, b5, b9, b10, b12, b14, b15, b16, b19, b31, bf12, bf19, bf31, bz⟩ := use_box s1; obtain ⟨f0, f1, f2, f3, f4, f5⟩ := box6 s2; have zf := lt_of_heap s2; go_simp; first | done | (with_reducible rfl))
 try simp only [Act.put, List.setIfInBounds_toArray, List.set_cons_succ, List.set_cons_zero]
 refine tk (i := 3) (v := ?v3x33) (some 27) rfl rfl (Or.inl ⟨by kernel_rfl, ?h3x33⟩) ?r3x33
 case h3x33 => (intro w hSw; obtain ⟨s1, s2⟩ := hSw; obtain ⟨b0, b1, b2, b3, b4, b5, b9, b10, b12, b14, b15, b16, b19, b31, bf12, bf19, bf31, bz⟩ := use_box s1; obtain ⟨f0, f1, f2, f3, f4, f5⟩ := box6 s2; have zf := lt_of_heap s2; go_simp; first | done | (with_reducible rfl))
 try simp only [Act.put, List.setIfInBounds_toArray, List.set_cons_succ, List.set_cons_zero]
 refine tk (i := 4) (v := ?v4x34) (some 28) rfl rfl (Or.inl ⟨by kernel_rfl, ?h4x34⟩) ?r4x34
 case h4x34 => (intro w hSw; obtain ⟨s1, s2⟩ := hSw; obtain ⟨b0, b1, b2, b3, b4, b5, b9, b10, b12, b14, b15, b16, b19, b31, bf12, bf19, bf31, bz⟩ := use_box s1; obtain ⟨f0, f1, f2, f3, f4, f5⟩ := box6 s2; have zf := lt_of_heap s2; go_simp; first | done | (with_reducible rfl))
 try simp only [Act.put, List.setIfInBounds_toArray, List.set_cons_succ, List.set_cons_zero]
 refine tk (i := 5) (v := ?v5x35) (some 29) rfl rfl (Or.inl ⟨by kernel_rfl, ?h5x35⟩) ?r5x35
 case h5x35 => (intro w hSw; obtain ⟨s1, s2⟩ := hSw; obtain ⟨b0, b1, b2, b3, b4, b5, b9, b10, b12, b14, b15, b16, b19, b31, bf12, bf19, bf31, bz⟩ := use_box s1; obtain ⟨f0, f1, f2, f3, f4, f5⟩ := box6 s2; have zf := lt_of_heap s2; go_simp; first | done | (with_reducible rfl))
 try simp only [Act.put, List.setIfInBounds_toArray, List.set_cons_succ, List.set_cons_zero]
 refine tk (i := 6) (v := ?v6x36) (some 30) rfl rfl (Or.inl ⟨by kernel_rfl, ?h6x36⟩) ?r6x36
 case h6x36 => (intro w hSw; obtain ⟨s1, s2⟩ := hSw; obtain ⟨b0, b1, b2, b3, b4, b5, b9, b10, b12, b14, b15, b16, b19, b31, bf12, bf19, bf31, bz⟩ := use_box s1; obtain ⟨f0, f1, f2, f3, f4, f5⟩ := box6 s2; have zf := lt_of_heap s2; go_simp; first | done | (with_reducible rfl))
 try simp only [Act.put, List.setIfInBounds_toArray, List.set_cons_succ, List.set_cons_zero]
 refine tk (i := 7) (v := ?v7x37) (some 31) rfl rfl (Or.inl ⟨by kernel_rfl, ?h7x37⟩) ?r7x37
 case h7x37 => (intro w hSw; obtain ⟨s1, s2⟩ := hSw; obtain ⟨b0, b1, b2, b3, b4, b5, b9, b10, b12, b14, b15, b16, b19, b31, bf12, bf19, bf31, bz⟩ := use_box s1; obtain ⟨f0, f1, f2, f3, f4, f5⟩ := box6 s2; have zf := lt_of_heap s2; go_simp; first | done | (with_reducible rfl))
 try simp only [Act.put, List.setIfInBounds_toArray, List.set_cons_succ, List.set_cons_zero]
 refine tk (i := 8) (v := ?v8x38) (some 32) rfl rfl (Or.inl ⟨by kernel_rfl, ?h8x38⟩) ?r8x38
 case h8x38 => (intro w hSw; obtain ⟨s1, s2⟩ := hSw; obtain ⟨b0, b1, b2, b3, b4, b5, b9, b10, b12, b14, b15, b16, b19, b31, bf12, bf19, bf31, bz⟩ := use_box s1; obtain ⟨f0, f1, f2, f3, f4, f5⟩ := box6 s2; have zf := lt_of_heap s2; go_simp; first | done | (with_reducible rfl))
 try simp only [Act.put, List.setIfInBounds_toArray, List.set_cons_succ, List.set_cons_zero]
 refine wpAnyH_ready (rs := [9]) (by kernel_rfl) (by simp) ?_
 refine AllReadyH.cons rfl (fun K hK => ?_) AllReadyH.nil
 go_simp
 refine (HW _).out.mono ?_
 rintro e' y1 ⟨rfl, rfl⟩
 go_simp
 refine hK.out _ _ (hS) (fun hS => ?_)
 clear hK K
 try simp only [Act.put, List.setIfInBounds_toArray, List.set_cons_succ, List.set_cons_zero]
 refine tk (i := 10) (v := ?v10x39) (some 34) rfl rfl (Or.inl ⟨by kernel_rfl, ?h10x39⟩) ?r10x39
 case h10x39 => (intro w hSw; obtain ⟨s1, s2⟩ := hSw; obtain ⟨b0, b1, b2, b3, b4, b5, b9, b10, b12, b14, b15, b16, b19, b31, bf12, bf19, bf31, bz⟩ := use_box s1; obtain ⟨f0, f1, f2, f3, f4, f5⟩ := box6 s2; have zf := lt_of_heap s2; go_simp; first | done | (with_reducible rfl))
 try simp only [Act.put, List.setIfInBounds_toArray, List.set_cons_succ, List.set_cons_zero]
 refine tk (i := 11) (v := ?v11x40) (some 23) rfl rfl (Or.inl ⟨by kernel_rfl, ?h11x40⟩) ?r11x40
 case h11x40 => (intro w hSw; obtain ⟨s1, s2⟩ := hSw; obtain ⟨b0, b1, b2, b3, b4, b5, b9, b10, b12, b14, b15, b16, b19, b31, bf12, bf19, bf31, bz⟩ := use_box s1; obtain ⟨f0, f1, f2, f3, f4, f5⟩ := box6 s2; have zf := lt_of_heap s2; go_simp; first | done | (with_reducible rfl))
 try simp only [Act.put, List.setIfInBounds_toArray, List.set_cons_succ, List.set_cons_zero]
 refine wpAnyH_done (by kernel_rfl) ?_ _
 have HT5 := Lib.hid hS.1
 have HK5 := Lib.hid hK0
 have HA5 := Lib.hid hA0
 have HR5 := Lib.hid hR0
 have HE5 := Lib.hid hE0
 clear hS hK0 hA0 hR0 hE0
 obtain ⟨v0, v1, v2, v3, v4, v5, v9, v10, v12, v14, v15, v16, v19, v31, vf12, vf19, vf31, vz⟩ := use_box HT5.out
 go_upto_region 5 with fail
 clear v0 v1 v2 v3 v4 v5 v9 v10 v12 v14 v15 v16 v19 v31 vf12 vf19 vf31 vz
 clear HT HK HA HR HE HD
 have hT0 : Use y1.drew g p s t i h r 0 := HT5.out
 have hR0 : y1.drew.heap[gf]? = _ := HR5.out
 have hK0 := HK5.out.drew
 have hA0 := HA5.out.drew
 have hE0 : Ents y1.drew r.chain.a l := Ents.below HE5.out (Below.drew (Below.refl _ _))
 refine wp_region_held_drew (S := fun W => UseX W g p s t i h r ∧ W.heap[gf]? = some (.cells #[.int .i64 sc, .int .i64 ep, .int .i64 at_] 70 (0, 0))) (by kernel_rfl) ⟨⟨r.pc, r.at_, 0, hT0⟩, hR0⟩ ?_
 intro hS
 clear HT5 HR5 HK5 HA5 HE5 hR0
 generalize y1.drew = y2 at hS hT0 hK0 hA0 hE0 ⊢
 refine tk (i := 0) (v := ?v0x41) (some 39) rfl rfl (Or.inl ⟨by kernel_rfl, ?h0x41⟩) ?r0x41
 case h0x41 => (intro w hSw; obtain ⟨⟨pc', at', e', s1⟩, s2⟩ := hSw; obtain ⟨b0, b1, b2, b3, b4, b5, b9, b10, b12, b14, b15, b16, b19, b31, bf12, bf19, bf31, bz⟩ := use_box s1; obtain ⟨f0, f1, f2, _, _, _⟩ := box3 s2; have zf := lt_of_heap s2; go_simp; first | done | (with_reducible rfl))
 try simp only [Act.put, List.setIfInBounds_toArray, List.set_cons_succ, List.set_cons_zero]
 refine tk (i := 1) (v := ?v1x42) (some 40) rfl rfl (Or.inl ⟨by kernel_rfl, ?h1x42⟩) ?r1x42
 case h1x42 => (intro w hSw; obtain ⟨⟨pc', at', e', s1⟩, s2⟩ := hSw; obtain ⟨b0, b1, b2, b3, b4, b5, b9, b10, b12, b14, b15, b16, b19, b31, bf12, bf19, bf31, bz⟩ := use_box s1; obtain ⟨f0, f1, f2, _, _, _⟩ := box3 s2; have zf := lt_of_heap s2; go_simp; first | done | (with_reducible rfl))
 try simp only [Act.put, List.setIfInBounds_toArray, List.set_cons_succ, List.set_cons_zero]
 refine tk (i := 2) (v := ?v2x43) (some 41) rfl rfl (Or.inl ⟨by kernel_rfl, ?h2x43⟩) ?r2x43
 case h2x43 => (intro w hSw; obtain ⟨⟨pc', at', e', s1⟩, s2⟩ := hSw; obtain ⟨b0, b1, b2, b3, b4, b5, b9, b10, b12, b14, b15, b16, b19, b31, bf12, bf19, bf31, bz⟩ := use_box s1; obtain ⟨f0, f1, f2, _, _, _⟩ := box3 s2; have zf := lt_of_heap s2; go_simp; first | done | (with_reducible rfl))
 try simp only [Act.put, List.setIfInBounds_toArray, List.set_cons_succ, List.set_cons_zero]
 refine tk (i := 3) (v := ?v3x44) (some 42) rfl rfl (Or.inl ⟨by kernel_rfl, ?h3x44⟩) ?r3x44
 case h3x44 => (intro w hSw; obtain ⟨⟨pc', at', e', s1⟩, s2⟩ := hSw; obtain ⟨b0, b1, b2, b3, b4, b5, b9, b10, b12, b14, b15, b16, b19, b31, bf12, bf19, bf31, bz⟩ := use_box s1; obtain ⟨f0, f1, f2, _, _, _⟩ := box3 s2; have zf := lt_of_heap s2; go_simp; first | done | (with_reducible rfl))
 try simp only [Act.put, List.setIfInBounds_toArray, List.set_cons_succ, List.set_cons_zero]
 refine tk (i := 4) (v := ?v4x45) (some 43) rfl rfl (Or.inl ⟨by kernel_rfl, ?h4x45⟩) ?r4x45
 case h4x45 => (intro w hSw; obtain ⟨⟨pc', at', e', s1⟩, s2⟩ := hSw; obtain ⟨b0, b1, b2, b3, b4, b5, b9, b10, b12, b14, b15, b16, b19, b31, bf12, bf19, bf31, bz⟩ := use_box s1; obtain ⟨f0, f1, f2, _, _, _⟩ := box3 s2; have zf := lt_of_heap s2; go_simp; first | done | (with_reducible rfl))
 try simp only [Act.put, List.setIfInBounds_toArray, List.set_cons_succ, List.set_cons_zero]
 refine tk (i := 5) (v := ?v5x46) (some 44) rfl rfl (Or.inl ⟨by kernel_rfl, ?h5x46⟩) ?r5x46
 case h5x46 => (intro w hSw; obtain ⟨⟨pc', at', e', s1⟩, s2⟩ := hSw; obtain ⟨b0, b1, b2, b3, b4, b5, b9, b10, b12, b14, b15, b16, b19, b31, bf12, bf19, bf31, bz⟩ := use_box s1; obtain ⟨f0, f1, f2, _, _, _⟩ := box3 s2; have zf := lt_of_heap s2; go_simp; first | done | (with_reducible rfl))
 try simp only [Act.put, List.setIfInBounds_toArray, List.set_cons_succ, List.set_cons_zero]
 refine tk (i := 6) (v := ?v6x47) (some 45) rfl rfl (Or.inl ⟨by kernel_rfl, ?h6x47⟩) ?r6x47
 case h6x47 => (intro w hSw; obtain ⟨⟨pc', at', e', s1⟩, s2⟩ := hSw; obtain ⟨b0, b1, b2, b3, b4, b5, b9, b10, b12, b14, b15, b16, b19, b31, bf12, bf19, bf31, bz⟩ := use_box s1; obtain ⟨f0, f1, f2, _, _, _⟩ := box3 s2; have zf := lt_of_heap s2; go_simp; first | done | (with_reducible rfl))
 try simp only [Act.put, List.setIfInBounds_toArray, List.set_cons_succ, List.set_cons_zero]
 refine tk (i := 7) (v := ?v7x48) (some 46) rfl rfl (Or.inl ⟨by kernel_rfl, ?h7x48⟩) ?r7x48
 case h7x48 => (intro w hSw; obtain ⟨⟨pc', at', e', s1⟩, s2⟩ := hSw; obtain ⟨b0, b1, b2, b3, b4, b5, b9, b10, b12, b14, b15, b16, b19, b31, bf12, bf19, bf31, bz⟩ := use_box s1; obtain ⟨f0, f1, f2, _, _, _⟩ := box3 s2; have zf := lt_of_heap s2; go_simp; first | done | (with_reducible rfl))
 try simp only [Act.put, List.setIfInBounds_toArray, List.set_cons_succ, List.set_cons_zero]
 refine tk (i := 8) (v := ?v8x49) (some 47) rfl rfl (Or.inl ⟨by kernel_rfl, ?h8x49⟩) ?r8x49
 case h8x49 => (intro w hSw; obtain ⟨⟨pc', at', e', s1⟩, s2⟩ := hSw; obtain ⟨b0, b1, b2, b3, b4, b5, b9, b10, b12, b14, b15, b16, b19, b31, bf12, bf19, bf31, bz⟩ := use_box s1; obtain ⟨f0, f1, f2, _, _, _⟩ := box3 s2; have zf := lt_of_heap s2; go_simp; first | done | (with_reducible rfl))
 try simp only [Act.put, List.setIfInBounds_toArray, List.set_cons_succ, List.set_cons_zero]
 refine tk (i := 9) (v := ?v9x50) (some 48) rfl rfl (Or.inl ⟨by kernel_rfl, ?h9x50⟩) ?r9x50
 case h9x50 => (intro w hSw; obtain ⟨⟨pc', at', e', s1⟩, s2⟩ := hSw; obtain ⟨b0, b1, b2, b3, b4, b5, b9, b10, b12, b14, b15, b16, b19, b31, bf12, bf19, bf31, bz⟩ := use_box s1; obtain ⟨f0, f1, f2, _, _, _⟩ := box3 s2; have zf := lt_of_heap s2; go_simp; first | done | (with_reducible rfl))
 try simp only [Act.put, List.setIfInBounds_toArray, List.set_cons_succ, List.set_cons_zero]
 refine tk (i := 10) (v := ?v10x51) (some 49) rfl rfl (Or.inl ⟨by kernel_rfl, ?h10x51⟩) ?r10x51
 case h10x51 => (intro w hSw; obtain ⟨⟨pc', at', e', s1⟩, s2⟩ := hSw; obtain ⟨b0, b1, b2, b3, b4, b5, b9, b10, b12, b14, b15, b16, b19, b31, bf12, bf19, bf31, bz⟩ := use_box s1; obtain ⟨f0, f1, f2, _, _, _⟩ := box3 s2; have zf := lt_of_heap s2; go_simp; first | done | (with_reducible rfl))
 try simp only [Act.put, List.setIfInBounds_toArray, List.set_cons_succ, List.set_cons_zero]
 refine tk (i := 11) (v := ?v11x52) (some 50) rfl rfl (Or.inl ⟨by kernel_rfl, ?h11x52⟩) ?r11x52
 case h11x52 => (intro w hSw; obtain ⟨⟨pc', at', e', s1⟩, s2⟩ := hSw; obtain ⟨b0, b1, b2, b3, b4, b5, b9, b10, b12, b14, b15, b16, b19, b31, bf12, bf19, bf31, bz⟩ := use_box s1; obtain ⟨f0, f1, f2, _, _, _⟩ := box3 s2; have zf := lt_of_heap s2; go_simp; first | done | (with_reducible rfl))
 try simp only [Act.put, List.setIfInBounds_toArray, List.set_cons_succ, List.set_cons_zero]
 refine tk (i := 12) (v := ?v12x53) (some 51) rfl rfl (Or.inl ⟨by kernel_rfl, ?h12x53⟩) ?r12x53
 case h12x53 => (intro w hSw; obtain ⟨⟨pc', at', e', s1⟩, s2⟩ := hSw; obtain ⟨b0, b1, b2, b3, b4, b5, b9, b10, b12, b14, b15, b16, b19, b31, bf12, bf19, bf31, bz⟩ := use_box s1; obtain ⟨f0, f1, f2, _, _, _⟩ := box3 s2; have zf := lt_of_heap s2; go_simp; first | done | (with_reducible rfl))
 try simp only [Act.put, List.setIfInBounds_toArray, List.set_cons_succ, List.set_cons_zero]
 refine wpAnyH_ready (rs := [13]) (by kernel_rfl) (by simp) ?_
 refine AllReadyH.cons rfl (fun K hK => ?_) AllReadyH.nil
 go_simp
 refine (HSl _ hA0).out.mono ?_
 rintro e' y3 ⟨rfl, hb⟩
 go_simp
 replace hT0 : Use y3 g p s t i h r 0 := row_below hT0 hb
 replace hK0 := hK0.call hb
 replace hE0 := Ents.below hE0 hb
 refine hK.out _ _ (⟨⟨r.pc, r.at_, 0, hT0⟩, row_below hS.2 hb⟩) (fun hS => ?_)
 clear hK K
 try simp only [Act.put, List.setIfInBounds_toArray, List.set_cons_succ, List.set_cons_zero]
 clear hA0 hb
 refine tk (i := 14) (v := ?v14x54) (some 38) rfl rfl (Or.inl ⟨by kernel_rfl, ?h14x54⟩) ?r14x54
 case h14x54 => (intro w hSw; obtain ⟨⟨pc', at', e', s1⟩, s2⟩ := hSw; obtain ⟨b0, b1, b2, b3, b4, b5, b9, b10, b12, b14, b15, b16, b19, b31, bf12, bf19, bf31, bz⟩ := use_box s1; obtain ⟨f0, f1, f2, _, _, _⟩ := box3 s2; have zf := lt_of_heap s2; go_simp; first | done | (with_reducible rfl))
 try simp only [Act.put, List.setIfInBounds_toArray, List.set_cons_succ, List.set_cons_zero]
 refine tk (i := 15) (v := ?v15x55) (some 53) rfl rfl (Or.inl ⟨by kernel_rfl, ?h15x55⟩) ?r15x55
 case h15x55 => (intro w hSw; obtain ⟨⟨pc', at', e', s1⟩, s2⟩ := hSw; obtain ⟨b0, b1, b2, b3, b4, b5, b9, b10, b12, b14, b15, b16, b19, b31, bf12, bf19, bf31, bz⟩ := use_box s1; obtain ⟨f0, f1, f2, _, _, _⟩ := box3 s2; have zf := lt_of_heap s2; go_simp; first | done | (with_reducible rfl))
 try simp only [Act.put, List.setIfInBounds_toArray, List.set_cons_succ, List.set_cons_zero]
 refine tk (i := 16) (v := ?v16x56) (some 54) rfl rfl (Or.inl ⟨by kernel_rfl, ?h16x56⟩) ?r16x56
 case h16x56 => (intro w hSw; obtain ⟨⟨pc', at', e', s1⟩, s2⟩ := hSw; obtain ⟨b0, b1, b2, b3, b4, b5, b9, b10, b12, b14, b15, b16, b19, b31, bf12, bf19, bf31, bz⟩ := use_box s1; obtain ⟨f0, f1, f2, _, _, _⟩ := box3 s2; have zf := lt_of_heap s2; go_simp; first | done | (with_reducible rfl))
 try simp only [Act.put, List.setIfInBounds_toArray, List.set_cons_succ, List.set_cons_zero]
 refine tk (i := 17) (v := ?v17x57) (some 55) rfl rfl (Or.inl ⟨by kernel_rfl, ?h17x57⟩) ?r17x57
 case h17x57 => (intro w hSw; obtain ⟨⟨pc', at', e', s1⟩, s2⟩ := hSw; obtain ⟨b0, b1, b2, b3, b4, b5, b9, b10, b12, b14, b15, b16, b19, b31, bf12, bf19, bf31, bz⟩ := use_box s1; obtain ⟨f0, f1, f2, _, _, _⟩ := box3 s2; have zf := lt_of_heap s2; go_simp; first | done | (with_reducible rfl))
 try simp only [Act.put, List.setIfInBounds_toArray, List.set_cons_succ, List.set_cons_zero]
 refine tk (i := 18) (v := ?v18x58) (some 56) rfl rfl (Or.inl ⟨by kernel_rfl, ?h18x58⟩) ?r18x58
 case h18x58 => (intro w hSw; obtain ⟨⟨pc', at', e', s1⟩, s2⟩ := hSw; obtain ⟨b0, b1, b2, b3, b4, b5, b9, b10, b12, b14, b15, b16, b19, b31, bf12, bf19, bf31, bz⟩ := use_box s1; obtain ⟨f0, f1, f2, _, _, _⟩ := box3 s2; have zf := lt_of_heap s2; go_simp; first | done | (with_reducible rfl))
 try simp only [Act.put, List.setIfInBounds_toArray, List.set_cons_succ, List.set_cons_zero]
 refine tk (i := 19) (v := ?v19x59) (some 57) rfl rfl (Or.inl ⟨by kernel_rfl, ?h19x59⟩) ?r19x59
 case h19x59 => (intro w hSw; obtain ⟨⟨pc', at', e', s1⟩, s2⟩ := hSw; obtain ⟨b0, b1, b2, b3, b4, b5, b9, b10, b12, b14, b15, b16, b19, b31, bf12, bf19, bf31, bz⟩ := use_box s1; obtain ⟨f0, f1, f2, _, _, _⟩ := box3 s2; have zf := lt_of_heap s2; go_simp; first | done | (with_reducible rfl))
 try simp only [Act.put, List.setIfInBounds_toArray, List.set_cons_succ, List.set_cons_zero]
 refine wpAnyH_ready (rs := [20]) (by kernel_rfl) (by simp) ?_
 refine AllReadyH.cons rfl (fun K hK => ?_) AllReadyH.nil
 obtain ⟨b0, b1, b2, b3, b4, b5, b9, b10, b12, b14, b15, b16, b19, b31, bf12, bf19, bf31, bz⟩ := use_box hT0
 go_simp
 clear b0 b1 b2 b3 b4 b5 b9 b10 b12 b14 b15 b16 b19 b31 bf12 bf19 bf31 bz
 have hT1 := hT0.setAt (at_ + 16 + 8 * r.c.b)
 have k2 := (Keep.refl [g] y3).setCell (p := ⟨g, 19, none⟩) (.inl (by simp)) (.int .i64 (at_ + 16 + 8 * r.c.b))
 have hE1 := ents_setCell (p := ⟨g, 19, none⟩) hE0 (fun a h1 h2 => HG.out a h1 h2) (.int .i64 (at_ + 16 + 8 * r.c.b))
 have hK1 := hK0.trans k2
 refine hK.out _ _ (⟨⟨r.pc, (at_ + 16 + 8 * r.c.b), 0, hT1⟩, k2.row hS.2 (by simpa using Mgf.out)⟩) (fun hS => ?_)
 clear hK K
 try simp only [Act.put, List.setIfInBounds_toArray, List.set_cons_succ, List.set_cons_zero]
 refine wpAnyH_done (by kernel_rfl) ?_ _
 have HT6 := Lib.hid hT1
 have HK6 := Lib.hid hK1
 have HE6 := Lib.hid hE1
 clear hS hT0 hT1 hK0 hK1 hE0 hE1 k2
 generalize World.setCell y3 _ _ = w6 at HT6 HK6 HE6 ⊢
 obtain ⟨v0, v1, v2, v3, v4, v5, v9, v10, v12, v14, v15, v16, v19, v31, vf12, vf19, vf31, vz⟩ := use_box HT6.out
 by_cases ho : r.c.op = 8
 ·have e1 : Hid (PX = 9 ∧ EX = 0) := Lib.hid ⟨by rw [← HPX.out, if_pos ho], by rw [← HEX.out, if_pos ho]⟩
  rw [ho] at v5
  clear ho
  go_wp2_with fail
  (first | go_end0 | refine bodyPost_ret (results_none rfl _ _ _) rfl ?_)
  exact ⟨rfl, by rw [e1.out.1, e1.out.2]; exact HT6.out.setPc 9, HK6.out.setCell (p := ⟨g, 12, none⟩) (.inl (by simp)) _⟩
 ·have ho2 : (r.c.op == 8) = false := by simpa using ho
  have ho3 : decide (r.c.op = 8) = false := decide_eq_false ho
  by_cases hv : r.val = 0
  ·have e1 : Hid (PX = 10 ∧ EX = 0) := Lib.hid ⟨by rw [← HPX.out, if_neg ho, if_pos hv], by rw [← HEX.out, if_neg ho, if_pos hv]⟩
   rw [hv] at v15
   clear hv
   go_wp2_with fail
   (first | go_end0 | refine bodyPost_ret (results_none rfl _ _ _) rfl ?_)
   exact ⟨rfl, by rw [e1.out.1, e1.out.2]; exact HT6.out.setPc 10, HK6.out.setCell (p := ⟨g, 12, none⟩) (.inl (by simp)) _⟩
  ·have hv2 : (r.val == 0) = false := by simpa using hv
   have hv3 : decide (r.val = 0) = false := decide_eq_false hv
   have e1 : Hid (PX = 7 ∧ EX = ckc) := Lib.hid ⟨by rw [← HPX.out, if_neg ho, if_neg hv], by rw [← HEX.out, if_neg ho, if_neg hv]⟩
   have Hno : Hid (¬ r.c.op = 8 ∧ ¬ r.val = 0) := Lib.hid ⟨ho, hv⟩
   clear ho hv
   go_upto_region 6 with fail
   clear v0 v1 v2 v3 v4 v5 v9 v10 v12 v14 v15 v16 v19 v31 vf12 vf19 vf31 vz ho2 ho3 hv2 hv3
   have hT0 : Use w6.drew g p s t i h { r with at_ := (at_ + 16 + 8 * r.c.b) } 0 := HT6.out
   have hK0 := HK6.out.drew
   have hE0 : Ents w6.drew r.chain.a l := Ents.below HE6.out (Below.drew (Below.refl _ _))
   refine wp_region_held_drew (S := fun W => UseX W g p s t i h r) (by kernel_rfl) ⟨r.pc, (at_ + 16 + 8 * r.c.b), 0, hT0⟩ ?_
   intro hS
   clear HT6 HK6 HE6
   generalize w6.drew = y4 at hS hT0 hK0 hE0 ⊢
   refine tk (i := 0) (v := ?v0x60) (some 59) rfl rfl (Or.inl ⟨by kernel_rfl, ?h0x60⟩) ?r0x60
   case h0x60 => (intro w hSw; obtain ⟨pc', at', e', s1⟩ := hSw; obtain ⟨b0, b1, b2, b3, b4, b5, b9, b10, b12, b14, b15, b16, b19, b31, bf12, bf19, bf31, bz⟩ := use_box s1; go_simp; first | done | (with_reducible rfl))
   try simp only [Act.put, List.setIfInBounds_toArray, List.set_cons_succ, List.set_cons_zero]
   refine tk (i := 1) (v := ?v1x61) (some 60) rfl rfl (Or.inl ⟨by kernel_rfl, ?h1x61⟩) ?r1x61
   case h1x61 => (intro w hSw; obtain ⟨pc', at', e', s1⟩ := hSw; obtain ⟨b0, b1, b2, b3, b4, b5, b9, b10, b12, b14, b15, b16, b19, b31, bf12, bf19, bf31, bz⟩ := use_box s1; go_simp; first | done | (with_reducible rfl))
   try simp only [Act.put, List.setIfInBounds_toArray, List.set_cons_succ, List.set_cons_zero]
   refine tk (i := 2) (v := ?v2x62) (some 61) rfl rfl (Or.inl ⟨by kernel_rfl, ?h2x62⟩) ?r2x62
   case h2x62 => (intro w hSw; obtain ⟨pc', at', e', s1⟩ := hSw; obtain ⟨b0, b1, b2, b3, b4, b5, b9, b10, b12, b14, b15, b16, b19, b31, bf12, bf19, bf31, bz⟩ := use_box s1; go_simp; first | done | (with_reducible rfl))
   try simp only [Act.put, List.setIfInBounds_toArray, List.set_cons_succ, List.set_cons_zero]
   refine tk (i := 3) (v := ?v3x63) (some 62) rfl rfl (Or.inl ⟨by kernel_rfl, ?h3x63⟩) ?r3x63
   case h3x63 => (intro w hSw; obtain ⟨pc', at', e', s1⟩ := hSw; obtain ⟨b0, b1, b2, b3, b4, b5, b9, b10, b12, b14, b15, b16, b19, b31, bf12, bf19, bf31, bz⟩ := use_box s1; go_simp; first | done | (with_reducible rfl))
   try simp only [Act.put, List.setIfInBounds_toArray, List.set_cons_succ, List.set_cons_zero]
   refine tk (i := 4) (v := ?v4x64) (some 63) rfl rfl (Or.inl ⟨by kernel_rfl, ?h4x64⟩) ?r4x64
   case h4x64 => (intro w hSw; obtain ⟨pc', at', e', s1⟩ := hSw; obtain ⟨b0, b1, b2, b3, b4, b5, b9, b10, b12, b14, b15, b16, b19, b31, bf12, bf19, bf31, bz⟩ := use_box s1; go_simp; first | done | (with_reducible rfl))
   try simp only [Act.put, List.setIfInBounds_toArray, List.set_cons_succ, List.set_cons_zero]
   refine tk (i := 5) (v := ?v5x65) (some 64) rfl rfl (Or.inl ⟨by kernel_rfl, ?h5x65⟩) ?r5x65
   case h5x65 => (intro w hSw; obtain ⟨pc', at', e', s1⟩ := hSw; obtain ⟨b0, b1, b2, b3, b4, b5, b9, b10, b12, b14, b15, b16, b19, b31, bf12, bf19, bf31, bz⟩ := use_box s1; go_simp; first | done | (with_reducible rfl))
   try simp only [Act.put, List.setIfInBounds_toArray, List.set_cons_succ, List.set_cons_zero]
   refine tk (i := 6) (v := ?v6x66) (some 65) rfl rfl (Or.inl ⟨by kernel_rfl, ?h6x66⟩) ?r6x66
   case h6x66 => (intro w hSw; obtain ⟨pc', at', e', s1⟩ := hSw; obtain ⟨b0, b1, b2, b3, b4, b5, b9, b10, b12, b14, b15, b16, b19, b31, bf12, bf19, bf31, bz⟩ := use_box s1; go_simp; first | done | (with_reducible rfl))
   try simp only [Act.put, List.setIfInBounds_toArray, List.set_cons_succ, List.set_cons_zero]
   refine tk (i := 7) (v := ?v7x67) (some 66) rfl rfl (Or.inl ⟨by kernel_rfl, ?h7x67⟩) ?r7x67
   case h7x67 => (intro w hSw; obtain ⟨pc', at', e', s1⟩ := hSw; obtain ⟨b0, b1, b2, b3, b4, b5, b9, b10, b12, b14, b15, b16, b19, b31, bf12, bf19, bf31, bz⟩ := use_box s1; go_simp; first | done | (with_reducible rfl))
   try simp only [Act.put, List.setIfInBounds_toArray, List.set_cons_succ, List.set_cons_zero]
   refine tk (i := 8) (v := ?v8x68) (some 67) rfl rfl (Or.inl ⟨by kernel_rfl, ?h8x68⟩) ?r8x68
   case h8x68 => (intro w hSw; obtain ⟨pc', at', e', s1⟩ := hSw; obtain ⟨b0, b1, b2, b3, b4, b5, b9, b10, b12, b14, b15, b16, b19, b31, bf12, bf19, bf31, bz⟩ := use_box s1; go_simp; first | done | (with_reducible rfl))
   try simp only [Act.put, List.setIfInBounds_toArray, List.set_cons_succ, List.set_cons_zero]
   refine tk (i := 9) (v := ?v9x69) (some 68) rfl rfl (Or.inl ⟨by kernel_rfl, ?h9x69⟩) ?r9x69
   case h9x69 => (intro w hSw; obtain ⟨pc', at', e', s1⟩ := hSw; obtain ⟨b0, b1, b2, b3, b4, b5, b9, b10, b12, b14, b15, b16, b19, b31, bf12, bf19, bf31, bz⟩ := use_box s1; go_simp; first | done | (with_reducible rfl))
   try simp only [Act.put, List.setIfInBounds_toArray, List.set_cons_succ, List.set_cons_zero]
   refine tk (i := 10) (v := ?v10x70) (some 69) rfl rfl (Or.inl ⟨by kernel_rfl, ?h10x70⟩) ?r10x70
   case h10x70 => (intro w hSw; obtain ⟨pc', at', e', s1⟩ := hSw; obtain ⟨b0, b1, b2, b3, b4, b5, b9, b10, b12, b14, b15, b16, b19, b31, bf12, bf19, bf31, bz⟩ := use_box s1; go_simp; first | done | (with_reducible rfl))
   try simp only [Act.put, List.setIfInBounds_toArray, List.set_cons_succ, List.set_cons_zero]
   refine tk (i := 11) (v := ?v11x71) (some 70) rfl rfl (Or.inl ⟨by kernel_rfl, ?h11x71⟩) ?r11x71
   case h11x71 => (intro w hSw; obtain ⟨pc', at', e', s1⟩ := hSw; obtain ⟨b0, b1, b2, b3, b4, b5, b9, b10, b12, b14, b15, b16, b19, b31, bf12, bf19, bf31, bz⟩ := use_box s1; go_simp; first | done | (with_reducible rfl))
   try simp only [Act.put, List.setIfInBounds_toArray, List.set_cons_succ, List.set_cons_zero]
   refine tk (i := 12) (v := ?v12x72) (some 71) rfl rfl (Or.inl ⟨by kernel_rfl, ?h12x72⟩) ?r12x72
   case h12x72 => (intro w hSw; obtain ⟨pc', at', e', s1⟩ := hSw; obtain ⟨b0, b1, b2, b3, b4, b5, b9, b10, b12, b14, b15, b16, b19, b31, bf12, bf19, bf31, bz⟩ := use_box s1; go_simp; first | done | (with_reducible rfl))
   try simp only [Act.put, List.setIfInBounds_toArray, List.set_cons_succ, List.set_cons_zero]
   refine tk (i := 13) (v := ?v13x73) (some 72) rfl rfl (Or.inl ⟨by kernel_rfl, ?h13x73⟩) ?r13x73
   case h13x73 => (intro w hSw; obtain ⟨pc', at', e', s1⟩ := hSw; obtain ⟨b0, b1, b2, b3, b4, b5, b9, b10, b12, b14, b15, b16, b19, b31, bf12, bf19, bf31, bz⟩ := use_box s1; go_simp; first | done | (with_reducible rfl))
   try simp only [Act.put, List.setIfInBounds_toArray, List.set_cons_succ, List.set_cons_zero]
   refine tk (i := 14) (v := ?v14x74) (some 73) rfl rfl (Or.inl ⟨by kernel_rfl, ?h14x74⟩) ?r14x74
   case h14x74 => (intro w hSw; obtain ⟨pc', at', e', s1⟩ := hSw; obtain ⟨b0, b1, b2, b3, b4, b5, b9, b10, b12, b14, b15, b16, b19, b31, bf12, bf19, bf31, bz⟩ := use_box s1; go_simp; first | done | (with_reducible rfl))
   try simp only [Act.put, List.setIfInBounds_toArray, List.set_cons_succ, List.set_cons_zero]
   refine wpAnyH_ready (rs := [15]) (by kernel_rfl) (by simp) ?_
   refine AllReadyH.cons rfl (fun K hK => ?_) AllReadyH.nil
   go_simp
   refine (HCk _ hE0).out.mono ?_
   rintro e' y5 ⟨rfl, hb⟩
   go_simp
   replace hT0 : Use y5 g p s t i h { r with at_ := (at_ + 16 + 8 * r.c.b) } 0 := row_below hT0 hb
   replace hK0 := hK0.call hb
   refine hK.out _ _ (⟨r.pc, (at_ + 16 + 8 * r.c.b), 0, hT0⟩) (fun hS => ?_)
   clear hK K
   try simp only [Act.put, List.setIfInBounds_toArray, List.set_cons_succ, List.set_cons_zero]
   clear hb
   refine tk (i := 16) (v := ?v16x75) (some 58) rfl rfl (Or.inl ⟨by kernel_rfl, ?h16x75⟩) ?r16x75
   case h16x75 => (intro w hSw; obtain ⟨pc', at', e', s1⟩ := hSw; obtain ⟨b0, b1, b2, b3, b4, b5, b9, b10, b12, b14, b15, b16, b19, b31, bf12, bf19, bf31, bz⟩ := use_box s1; go_simp; first | done | (with_reducible rfl))
   try simp only [Act.put, List.setIfInBounds_toArray, List.set_cons_succ, List.set_cons_zero]
   refine tk (i := 17) (v := ?v17x76) (some 75) rfl rfl (Or.inl ⟨by kernel_rfl, ?h17x76⟩) ?r17x76
   case h17x76 => (intro w hSw; obtain ⟨pc', at', e', s1⟩ := hSw; obtain ⟨b0, b1, b2, b3, b4, b5, b9, b10, b12, b14, b15, b16, b19, b31, bf12, bf19, bf31, bz⟩ := use_box s1; go_simp; first | done | (with_reducible rfl))
   try simp only [Act.put, List.setIfInBounds_toArray, List.set_cons_succ, List.set_cons_zero]
   refine tk (i := 18) (v := ?v18x77) (some 76) rfl rfl (Or.inl ⟨by kernel_rfl, ?h18x77⟩) ?r18x77
   case h18x77 => (intro w hSw; obtain ⟨pc', at', e', s1⟩ := hSw; obtain ⟨b0, b1, b2, b3, b4, b5, b9, b10, b12, b14, b15, b16, b19, b31, bf12, bf19, bf31, bz⟩ := use_box s1; go_simp; first | done | (with_reducible rfl))
   try simp only [Act.put, List.setIfInBounds_toArray, List.set_cons_succ, List.set_cons_zero]
   refine tk (i := 19) (v := ?v19x78) (some 77) rfl rfl (Or.inl ⟨by kernel_rfl, ?h19x78⟩) ?r19x78
   case h19x78 => (intro w hSw; obtain ⟨pc', at', e', s1⟩ := hSw; obtain ⟨b0, b1, b2, b3, b4, b5, b9, b10, b12, b14, b15, b16, b19, b31, bf12, bf19, bf31, bz⟩ := use_box s1; go_simp; first | done | (with_reducible rfl))
   try simp only [Act.put, List.setIfInBounds_toArray, List.set_cons_succ, List.set_cons_zero]
   refine tk (i := 20) (v := ?v20x79) (some 78) rfl rfl (Or.inl ⟨by kernel_rfl, ?h20x79⟩) ?r20x79
   case h20x79 => (intro w hSw; obtain ⟨pc', at', e', s1⟩ := hSw; obtain ⟨b0, b1, b2, b3, b4, b5, b9, b10, b12, b14, b15, b16, b19, b31, bf12, bf19, bf31, bz⟩ := use_box s1; go_simp; first | done | (with_reducible rfl))
   try simp only [Act.put, List.setIfInBounds_toArray, List.set_cons_succ, List.set_cons_zero]
   refine wpAnyH_ready (rs := [21]) (by kernel_rfl) (by simp) ?_
   refine AllReadyH.cons rfl (fun K hK => ?_) AllReadyH.nil
   obtain ⟨b0, b1, b2, b3, b4, b5, b9, b10, b12, b14, b15, b16, b19, b31, bf12, bf19, bf31, bz⟩ := use_box hT0
   go_simp
   clear b0 b1 b2 b3 b4 b5 b9 b10 b12 b14 b15 b16 b19 b31 bf12 bf19 bf31 bz
   have hT1 := hT0.setE ckc
   have hK1 := hK0.setCell (p := ⟨g, 31, none⟩) (.inl (by simp)) (.int .i64 ckc)
   refine hK.out _ _ (⟨r.pc, (at_ + 16 + 8 * r.c.b), ckc, hT1⟩) (fun hS => ?_)
   clear hK K
   try simp only [Act.put, List.setIfInBounds_toArray, List.set_cons_succ, List.set_cons_zero]
   refine wpAnyH_done (by kernel_rfl) ?_ _
   have HT7 := Lib.hid hT1
   have HK7 := Lib.hid hK1
   clear hS hT0 hT1 hK0 hK1 hE0
   generalize World.setCell y5 _ _ = w7 at HT7 HK7 ⊢
   obtain ⟨v0, v1, v2, v3, v4, v5, v9, v10, v12, v14, v15, v16, v19, v31, vf12, vf19, vf31, vz⟩ := use_box HT7.out
   go_wp2_with fail
   (first | go_end0 | refine bodyPost_ret (results_none rfl _ _ _) rfl ?_)
   exact ⟨rfl, by rw [e1.out.1, e1.out.2]; exact HT7.out.setPc 7, HK7.out.setCell (p := ⟨g, 12, none⟩) (.inl (by simp)) _⟩
end Go.Proofs.YtnimaajnlkbdaaaGreat
