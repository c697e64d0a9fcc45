/- Layer 16: the law's calls as they begin. (Printed by gen_call16.py.) Layer 16: what all its laws show at the head. (Printed by gen_sl16.py.) -/
import Derived.Test.YtnimaajnlkbdaaaGreatSlJ
import Derived.Test.YtnimaajnlkbdaaaGreatMP
import Derived.Test.YtnimaajnlkbdaaaGreatBRefC
import Derived.Test.YtnimaajnlkbdaaaGreatLaid
import Derived.Test.YtnimaajnlkbdaaaGreatFRest
namespace Go.Proofs.YtnimaajnlkbdaaaGreat
open Go.RowKit
set_option linter.unusedVariables false
set_option linter.unusedSimpArgs false

set_option maxRecDepth 100000 in
set_option maxHeartbeats 2000000 in
theorem chains16_any (n : Int) (m : Nat) (w : World) (hn : 0 ≤ n ∧ n ≤ 255) (hm : n % 3 = (m : Int)) (h3 : m < 3) :
  Calls Tryz.prog 31 #[.int .u8 n] w fun r w' => ∃ A, r = .returned (.slice A m 2) ∧ Ents w' A (chE16 m) ∧ (∀ z, A = some z → w.heap.size ≤ z.block) ∧ Below w.heap.size w w' := by
 have e1 : n.tmod 3 = (m : Int) := by rw [Int.tmod_eq_emod_of_nonneg hn.1]; exact hm
 clear hm hn
 obtain rfl | rfl | rfl : m = 0 ∨ m = 1 ∨ m = 2 := by omega
 all_goals
  clear h3
  go_enter Tryz.func31, Tryz.ntmps31
  go_wp2_with fail
  go_ret
  refine ⟨_, rfl, ?_, fun z hz => by injection hz with hz; subst hz; exact Nat.le_refl _, by go_grown⟩
  exact fun _ => ⟨_, 0, rfl, fun j v hv => by
   rw [Nat.zero_add, row_cell (row_new _ _ _)]
   rcases j with _ | _ | _ | _ | j <;> first | (simp [chE16, entCells] at hv; done) | (simp [chE16, entCells] at hv ⊢; exact hv)⟩
@[go_sem] theorem index16_0 (w : World) : (Instr.index 64 (.agg #[.int .u8 8, .int .u8 9, .int .u8 10, .int .u8 11]) (.int .u8 0)).run Tryz.prog w = .ok (.int .u8 8) w := by kernel_rfl
@[go_sem] theorem index16_1 (w : World) : (Instr.index 64 (.agg #[.int .u8 8, .int .u8 9, .int .u8 10, .int .u8 11]) (.int .u8 1)).run Tryz.prog w = .ok (.int .u8 9) w := by kernel_rfl
@[go_sem] theorem index16_2 (w : World) : (Instr.index 64 (.agg #[.int .u8 8, .int .u8 9, .int .u8 10, .int .u8 11]) (.int .u8 2)).run Tryz.prog w = .ok (.int .u8 10) w := by kernel_rfl
@[go_sem] theorem index16_3 (w : World) : (Instr.index 64 (.agg #[.int .u8 8, .int .u8 9, .int .u8 10, .int .u8 11]) (.int .u8 3)).run Tryz.prog w = .ok (.int .u8 11) w := by kernel_rfl
theorem h12_cell {w : World} {g j : Nat} {t : TypeId} (h : w.heap[g]? = some (.cells (hAt 12) t (0, 0))) (hj : j < 12) : w.cell? ⟨g, j, none⟩ = some (.int .u64 (hC j)) := by
 rw [row_cell h]
 show (hAt 12)[j]? = _
 rw [hAt_get 12 hj, if_pos hj]
theorem four_rows {P : World → Prop} (w : World) (c0 c1 c2 c3 : Array Value) (t0 t1 t2 t3 : TypeId) (h : ∀ W, W.heap[w.heap.size]? = some (.cells c0 t0 (0, 0)) → W.heap[w.heap.size + 1]? = some (.cells c1 t1 (0, 0)) → W.heap[w.heap.size + 1 + 1]? = some (.cells c2 t2 (0, 0)) → W.heap[w.heap.size + 1 + 1 + 1]? = some (.cells c3 t3 (0, 0)) → Below w.heap.size w W → P W) :
  P ((((w.alloc (.cells c0 t0)).alloc (.cells c1 t1)).alloc (.cells c2 t2)).alloc (.cells c3 t3)) :=
 h _ (row_alloc (row_alloc (row_alloc (row_new _ _ _)))) (row_alloc (row_alloc (row_at (by simp)))) (row_alloc (row_at (by simp))) (row_at (by simp)) (by go_grown)
theorem cal16c {k : Nat} (hk : k < 4) {a b : Int} (ha : -9223372036854775808 ≤ a ∧ a ≤ 9223372036854775807) (hb : -9223372036854775808 ≤ b ∧ b ≤ 9223372036854775807) : CalOk ⟨8 + (k : Int), 2, 0, 1, a, b, 0⟩ :=
 ⟨by dsimp only; omega, by dsimp only; omega, by dsimp only; omega, by dsimp only; omega, ha, hb, by dsimp only; omega⟩
set_option maxRecDepth 100000 in
set_option maxHeartbeats 4000000 in
theorem call16_any (op n hh vv b a : Int) (k m j v : Nat) (w : World) (ho : 0 ≤ op ∧ op ≤ 255) (hn : 0 ≤ n ∧ n ≤ 255) (h1 : 0 ≤ hh ∧ hh ≤ 255) (h2 : 0 ≤ vv ∧ vv ≤ 255) (ha : -9223372036854775808 ≤ a ∧ a ≤ 9223372036854775807) (hb : -9223372036854775808 ≤ b ∧ b ≤ 9223372036854775807)
  (hk : op % 4 = (k : Int)) (hm : n % 3 = (m : Int)) (hj : hh % 12 = (j : Int)) (hv : vv % 12 = (v : Int)) :
  Calls Tryz.prog 12 #[.agg #[.int .i64 4, .int .i64 2, .int .i64 128, .int .i64 512], .agg (hAt 12), .agg #[.int .u8 op, .int .u8 n, .int .u8 hh, .int .u8 vv, .int .i64 b, .int .i64 a]] w fun r w' => ∃ kc cA, m ≤ kc ∧ r = .returned (beg16k m j v k a b ⟨cA, m, kc⟩).v ∧ Ents w' cA (chE16 m) ∧ (∀ x, 0 < m → cA = some x → w.heap.size ≤ x.block) ∧ Below w.heap.size w w' := by
 have hk4 : k < 4 := by omega
 have hm3 : m < 3 := by omega
 have hj12 : j < 12 := by omega
 have hv12 : v < 12 := by omega
 have ej : hh.tmod 12 = (j : Int) := by rw [Int.tmod_eq_emod_of_nonneg h1.1]; exact hj
 have ev : vv.tmod 12 = (v : Int) := by rw [Int.tmod_eq_emod_of_nonneg h2.1]; exact hv
 have ek : op.tmod 4 = (k : Int) := by rw [Int.tmod_eq_emod_of_nonneg ho.1]; exact hk
 have HC := fun w' => Lib.hid (chains16_any n m w' hn hm hm3)
 have HCal := Lib.hid (cal16c hk4 ha hb)
 have HL := Lib.hid (chE16_len hm3)
 have HM3 := Lib.hid hm3
 have HJ := Lib.hid (And.intro hj12 hv12)
 clear hk hm hj hv h1 h2 ho hn ha hb hm3
 obtain ⟨H12, Hh12⟩ : ∃ x, Hid (hAt 12 = x) := ⟨_, Lib.hid rfl⟩
 have Hone : (H12.all (·.oneCell')) = true := by rw [← Hh12.out]; exact hAt_one 12
 rw [Hh12.out]
 go_enter Tryz.func12, Tryz.ntmps12
 go_upto_region 1 with fail
 refine four_rows w _ _ _ _ _ _ _ _ ?_
 intro W hP hH hU hZ hB
 have HP := Lib.hid hP
 have HH := Lib.hid hH
 have HU := Lib.hid hU
 have HZ := Lib.hid hZ
 have HB := Lib.hid hB
 clear hP hH hU hZ hB
 have jI : (j : Int) < 12 := by have := HJ.out; omega
 have jI0 : (0 : Int) ≤ (j : Int) := by omega
 have j12 : decide ((12 : Int) ≤ (j : Int)) = false := decide_eq_false (by omega)
 have vI : (v : Int) < 12 := by have := HJ.out; omega
 have vI0 : (0 : Int) ≤ (v : Int) := by omega
 have v12 : decide ((12 : Int) ≤ (v : Int)) = false := decide_eq_false (by omega)
 refine wp_region_held_drew (S := fun W => W.heap[w.heap.size + 1]? = some (.cells H12 32 (0, 0)) ∧ W.heap[w.heap.size + 1 + 1]? = some (.cells #[.int .u8 op, .int .u8 n, .int .u8 hh, .int .u8 vv, .int .i64 b, .int .i64 a] 47 (0, 0))) (by kernel_rfl) (show W.drew.heap[w.heap.size + 1]? = _ ∧ W.drew.heap[w.heap.size + 1 + 1]? = _ from ⟨HH.out, HU.out⟩) ?_
 intro hS
 have hB0 : Below W.heap.size W W.drew := by go_grown
 generalize W.drew = y0 at hS hB0 ⊢
 refine tk (i := 0) (v := ?v0x19) (some 9) rfl rfl (Or.inl ⟨by kernel_rfl, ?h0x19⟩) ?r0x19
 case h0x19 => (intro w' hSw; obtain ⟨s1, s2⟩ := hSw; have cj : w'.cell? ⟨w.heap.size + 1, j, none⟩ = some (.int .u64 (hC j)) := (by rw [← Hh12.out] at s1; exact h12_cell s1 HJ.out.1); have cv : w'.cell? ⟨w.heap.size + 1, v, none⟩ = some (.int .u64 (hC v)) := (by rw [← Hh12.out] at s1; exact h12_cell s1 HJ.out.2); obtain ⟨x0, x1, x2, x3, x4, x5⟩ := box6 s2; have zf := lt_of_heap s2; have zh := lt_of_heap s1; go_simp; first | done | (with_reducible rfl))
 try simp only [Act.put, List.setIfInBounds_toArray, List.set_cons_succ, List.set_cons_zero]
 refine tk (i := 1) (v := ?v1x20) (some 10) rfl rfl (Or.inl ⟨by kernel_rfl, ?h1x20⟩) ?r1x20
 case h1x20 => (intro w' hSw; obtain ⟨s1, s2⟩ := hSw; have cj : w'.cell? ⟨w.heap.size + 1, j, none⟩ = some (.int .u64 (hC j)) := (by rw [← Hh12.out] at s1; exact h12_cell s1 HJ.out.1); have cv : w'.cell? ⟨w.heap.size + 1, v, none⟩ = some (.int .u64 (hC v)) := (by rw [← Hh12.out] at s1; exact h12_cell s1 HJ.out.2); obtain ⟨x0, x1, x2, x3, x4, x5⟩ := box6 s2; have zf := lt_of_heap s2; have zh := lt_of_heap s1; go_simp; first | done | (with_reducible rfl))
 try simp only [Act.put, List.setIfInBounds_toArray, List.set_cons_succ, List.set_cons_zero]
 refine tk (i := 2) (v := ?v2x21) (some 11) rfl rfl (Or.inl ⟨by kernel_rfl, ?h2x21⟩) ?r2x21
 case h2x21 => (intro w' hSw; obtain ⟨s1, s2⟩ := hSw; have cj : w'.cell? ⟨w.heap.size + 1, j, none⟩ = some (.int .u64 (hC j)) := (by rw [← Hh12.out] at s1; exact h12_cell s1 HJ.out.1); have cv : w'.cell? ⟨w.heap.size + 1, v, none⟩ = some (.int .u64 (hC v)) := (by rw [← Hh12.out] at s1; exact h12_cell s1 HJ.out.2); obtain ⟨x0, x1, x2, x3, x4, x5⟩ := box6 s2; have zf := lt_of_heap s2; have zh := lt_of_heap s1; go_simp; first | done | (with_reducible rfl))
 try simp only [Act.put, List.setIfInBounds_toArray, List.set_cons_succ, List.set_cons_zero]
 refine tk (i := 3) (v := ?v3x22) (some 12) rfl rfl (Or.inl ⟨by kernel_rfl, ?h3x22⟩) ?r3x22
 case h3x22 => (intro w' hSw; obtain ⟨s1, s2⟩ := hSw; have cj : w'.cell? ⟨w.heap.size + 1, j, none⟩ = some (.int .u64 (hC j)) := (by rw [← Hh12.out] at s1; exact h12_cell s1 HJ.out.1); have cv : w'.cell? ⟨w.heap.size + 1, v, none⟩ = some (.int .u64 (hC v)) := (by rw [← Hh12.out] at s1; exact h12_cell s1 HJ.out.2); obtain ⟨x0, x1, x2, x3, x4, x5⟩ := box6 s2; have zf := lt_of_heap s2; have zh := lt_of_heap s1; go_simp; first | done | (with_reducible rfl))
 try simp only [Act.put, List.setIfInBounds_toArray, List.set_cons_succ, List.set_cons_zero]
 refine tk (i := 4) (v := ?v4x23) (some 13) rfl rfl (Or.inl ⟨by kernel_rfl, ?h4x23⟩) ?r4x23
 case h4x23 => (intro w' hSw; obtain ⟨s1, s2⟩ := hSw; have cj : w'.cell? ⟨w.heap.size + 1, j, none⟩ = some (.int .u64 (hC j)) := (by rw [← Hh12.out] at s1; exact h12_cell s1 HJ.out.1); have cv : w'.cell? ⟨w.heap.size + 1, v, none⟩ = some (.int .u64 (hC v)) := (by rw [← Hh12.out] at s1; exact h12_cell s1 HJ.out.2); obtain ⟨x0, x1, x2, x3, x4, x5⟩ := box6 s2; have zf := lt_of_heap s2; have zh := lt_of_heap s1; go_simp; first | done | (with_reducible rfl))
 try simp only [Act.put, List.setIfInBounds_toArray, List.set_cons_succ, List.set_cons_zero]
 refine tk (i := 5) (v := ?v5x24) (some 14) rfl rfl (Or.inl ⟨by kernel_rfl, ?h5x24⟩) ?r5x24
 case h5x24 => (intro w' hSw; obtain ⟨s1, s2⟩ := hSw; have cj : w'.cell? ⟨w.heap.size + 1, j, none⟩ = some (.int .u64 (hC j)) := (by rw [← Hh12.out] at s1; exact h12_cell s1 HJ.out.1); have cv : w'.cell? ⟨w.heap.size + 1, v, none⟩ = some (.int .u64 (hC v)) := (by rw [← Hh12.out] at s1; exact h12_cell s1 HJ.out.2); obtain ⟨x0, x1, x2, x3, x4, x5⟩ := box6 s2; have zf := lt_of_heap s2; have zh := lt_of_heap s1; go_simp; first | done | (with_reducible rfl))
 try simp only [Act.put, List.setIfInBounds_toArray, List.set_cons_succ, List.set_cons_zero]
 refine tk (i := 6) (v := ?v6x25) (some 15) rfl rfl (Or.inl ⟨by kernel_rfl, ?h6x25⟩) ?r6x25
 case h6x25 => (intro w' hSw; obtain ⟨s1, s2⟩ := hSw; have cj : w'.cell? ⟨w.heap.size + 1, j, none⟩ = some (.int .u64 (hC j)) := (by rw [← Hh12.out] at s1; exact h12_cell s1 HJ.out.1); have cv : w'.cell? ⟨w.heap.size + 1, v, none⟩ = some (.int .u64 (hC v)) := (by rw [← Hh12.out] at s1; exact h12_cell s1 HJ.out.2); obtain ⟨x0, x1, x2, x3, x4, x5⟩ := box6 s2; have zf := lt_of_heap s2; have zh := lt_of_heap s1; go_simp; first | done | (with_reducible rfl))
 try simp only [Act.put, List.setIfInBounds_toArray, List.set_cons_succ, List.set_cons_zero]
 refine tk (i := 7) (v := ?v7x26) (some 16) rfl rfl (Or.inl ⟨by kernel_rfl, ?h7x26⟩) ?r7x26
 case h7x26 => (intro w' hSw; obtain ⟨s1, s2⟩ := hSw; have cj : w'.cell? ⟨w.heap.size + 1, j, none⟩ = some (.int .u64 (hC j)) := (by rw [← Hh12.out] at s1; exact h12_cell s1 HJ.out.1); have cv : w'.cell? ⟨w.heap.size + 1, v, none⟩ = some (.int .u64 (hC v)) := (by rw [← Hh12.out] at s1; exact h12_cell s1 HJ.out.2); obtain ⟨x0, x1, x2, x3, x4, x5⟩ := box6 s2; have zf := lt_of_heap s2; have zh := lt_of_heap s1; go_simp; first | done | (with_reducible rfl))
 try simp only [Act.put, List.setIfInBounds_toArray, List.set_cons_succ, List.set_cons_zero]
 refine tk (i := 8) (v := ?v8x27) (some 17) rfl rfl (Or.inl ⟨by kernel_rfl, ?h8x27⟩) ?r8x27
 case h8x27 => (intro w' hSw; obtain ⟨s1, s2⟩ := hSw; have cj : w'.cell? ⟨w.heap.size + 1, j, none⟩ = some (.int .u64 (hC j)) := (by rw [← Hh12.out] at s1; exact h12_cell s1 HJ.out.1); have cv : w'.cell? ⟨w.heap.size + 1, v, none⟩ = some (.int .u64 (hC v)) := (by rw [← Hh12.out] at s1; exact h12_cell s1 HJ.out.2); obtain ⟨x0, x1, x2, x3, x4, x5⟩ := box6 s2; have zf := lt_of_heap s2; have zh := lt_of_heap s1; go_simp; first | done | (with_reducible rfl))
 try simp only [Act.put, List.setIfInBounds_toArray, List.set_cons_succ, List.set_cons_zero]
 refine tk (i := 9) (v := ?v9x28) (some 18) rfl rfl (Or.inl ⟨by kernel_rfl, ?h9x28⟩) ?r9x28
 case h9x28 => (intro w' hSw; obtain ⟨s1, s2⟩ := hSw; have cj : w'.cell? ⟨w.heap.size + 1, j, none⟩ = some (.int .u64 (hC j)) := (by rw [← Hh12.out] at s1; exact h12_cell s1 HJ.out.1); have cv : w'.cell? ⟨w.heap.size + 1, v, none⟩ = some (.int .u64 (hC v)) := (by rw [← Hh12.out] at s1; exact h12_cell s1 HJ.out.2); obtain ⟨x0, x1, x2, x3, x4, x5⟩ := box6 s2; have zf := lt_of_heap s2; have zh := lt_of_heap s1; go_simp; first | done | (with_reducible rfl))
 try simp only [Act.put, List.setIfInBounds_toArray, List.set_cons_succ, List.set_cons_zero]
 refine wpAnyH_ready (rs := [10]) (by kernel_rfl) (by simp) ?_
 refine AllReadyH.cons rfl (fun K hK => ?_) AllReadyH.nil
 go_simp
 refine k_alloc (fun yM hM hb => ?_)
 have hgM : W.heap.size ≤ y0.heap.size := hB0.size
 replace hB0 := below_only hB0 hb
 obtain ⟨gM, HgM⟩ : ∃ x, x = y0.heap.size := ⟨_, rfl⟩
 have hS1 := row_below hS.1 hb
 have hS2 := row_below hS.2 hb
 rw [← HgM] at hM hgM ⊢
 clear HgM hb
 refine hK.out _ _ (⟨hS1, hS2⟩) (fun hS => ?_)
 clear hK K
 try simp only [Act.put, List.setIfInBounds_toArray, List.set_cons_succ, List.set_cons_zero]
 clear hS1 hS2
 refine tk (i := 11) (v := ?v11x29) (some 7) rfl rfl (Or.inl ⟨by kernel_rfl, ?h11x29⟩) ?r11x29
 case h11x29 => (intro w' hSw; obtain ⟨s1, s2⟩ := hSw; have cj : w'.cell? ⟨w.heap.size + 1, j, none⟩ = some (.int .u64 (hC j)) := (by rw [← Hh12.out] at s1; exact h12_cell s1 HJ.out.1); have cv : w'.cell? ⟨w.heap.size + 1, v, none⟩ = some (.int .u64 (hC v)) := (by rw [← Hh12.out] at s1; exact h12_cell s1 HJ.out.2); obtain ⟨x0, x1, x2, x3, x4, x5⟩ := box6 s2; have zf := lt_of_heap s2; have zh := lt_of_heap s1; go_simp; first | done | (with_reducible rfl))
 try simp only [Act.put, List.setIfInBounds_toArray, List.set_cons_succ, List.set_cons_zero]
 refine wpAnyH_done (by kernel_rfl) ?_ _
 clear jI jI0 j12 vI vI0 v12
 replace HP := Lib.hid (row_below HP.out hB0)
 replace HZ := Lib.hid (row_below HZ.out hB0)
 replace HU := Lib.hid hS.2
 have HM := Lib.hid hM
 have Hlt := Lib.hid (And.intro (lt_of_heap HP.out) (lt_of_heap HZ.out))
 replace HB := Lib.hid (below_only HB.out hB0)
 clear hS hB0 hM hgM HH
 go_upto_region 2 with fail
 try simp only [Act.put]
 go_cut [8] from 8 to 29 (fun v8 wx => ∃ gC, v8 = .pointer (some ⟨gC, 0, none⟩) ∧ yM.heap.size ≤ gC ∧ wx.heap[gC]? = some (.cells #[.int .u8 (8 + (k : Int)), .int .u8 2, .int .u8 0, .int .u8 1, .int .i64 a, .int .i64 b, .int .i64 0] 36 (0, 0)) ∧ Below yM.heap.size yM wx)
 case first =>
  obtain rfl | rfl | rfl | rfl : k = 0 ∨ k = 1 ∨ k = 2 ∨ k = 3 := by omega
  ·skip
   have ek : op.tmod 4 = 0 := ek
   refine wp_region_held_drew (S := fun W => W.heap[w.heap.size + 1 + 1]? = some (.cells #[.int .u8 op, .int .u8 n, .int .u8 hh, .int .u8 vv, .int .i64 b, .int .i64 a] 47 (0, 0))) (by kernel_rfl) (show yM.drew.heap[w.heap.size + 1 + 1]? = _ from HU.out) ?_
   intro hS
   have hB0 : Below yM.heap.size yM yM.drew := by go_grown
   generalize yM.drew = y0 at hS hB0 ⊢
   refine tk (i := 0) (v := ?v0x30) (some 20) rfl rfl (Or.inl ⟨by kernel_rfl, ?h0x30⟩) ?r0x30
   case h0x30 => (intro w' hSw; obtain ⟨x0, x1, x2, x3, x4, x5⟩ := box6 hSw; have zf := lt_of_heap hSw; go_simp; first | done | (with_reducible rfl))
   try simp only [Act.put, List.setIfInBounds_toArray, List.set_cons_succ, List.set_cons_zero]
   refine tk (i := 1) (v := ?v1x31) (some 21) rfl rfl (Or.inl ⟨by kernel_rfl, ?h1x31⟩) ?r1x31
   case h1x31 => (intro w' hSw; obtain ⟨x0, x1, x2, x3, x4, x5⟩ := box6 hSw; have zf := lt_of_heap hSw; go_simp; first | done | (with_reducible rfl))
   try simp only [Act.put, List.setIfInBounds_toArray, List.set_cons_succ, List.set_cons_zero]
   refine tk (i := 2) (v := ?v2x32) (some 22) rfl rfl (Or.inl ⟨by kernel_rfl, ?h2x32⟩) ?r2x32
   case h2x32 => (intro w' hSw; obtain ⟨x0, x1, x2, x3, x4, x5⟩ := box6 hSw; have zf := lt_of_heap hSw; go_simp; first | done | (with_reducible rfl))
   try simp only [Act.put, List.setIfInBounds_toArray, List.set_cons_succ, List.set_cons_zero]
   refine tk (i := 3) (v := ?v3x33) (some 23) rfl rfl (Or.inl ⟨by kernel_rfl, ?h3x33⟩) ?r3x33
   case h3x33 => (intro w' hSw; obtain ⟨x0, x1, x2, x3, x4, x5⟩ := box6 hSw; have zf := lt_of_heap hSw; go_simp; first | done | (with_reducible rfl))
   try simp only [Act.put, List.setIfInBounds_toArray, List.set_cons_succ, List.set_cons_zero]
   refine tk (i := 4) (v := ?v4x34) (some 24) rfl rfl (Or.inl ⟨by kernel_rfl, ?h4x34⟩) ?r4x34
   case h4x34 => (intro w' hSw; obtain ⟨x0, x1, x2, x3, x4, x5⟩ := box6 hSw; have zf := lt_of_heap hSw; go_simp; first | done | (with_reducible rfl))
   try simp only [Act.put, List.setIfInBounds_toArray, List.set_cons_succ, List.set_cons_zero]
   refine tk (i := 5) (v := ?v5x35) (some 25) rfl rfl (Or.inl ⟨by kernel_rfl, ?h5x35⟩) ?r5x35
   case h5x35 => (intro w' hSw; obtain ⟨x0, x1, x2, x3, x4, x5⟩ := box6 hSw; have zf := lt_of_heap hSw; go_simp; first | done | (with_reducible rfl))
   try simp only [Act.put, List.setIfInBounds_toArray, List.set_cons_succ, List.set_cons_zero]
   refine tk (i := 6) (v := ?v6x36) (some 26) rfl rfl (Or.inl ⟨by kernel_rfl, ?h6x36⟩) ?r6x36
   case h6x36 => (intro w' hSw; obtain ⟨x0, x1, x2, x3, x4, x5⟩ := box6 hSw; have zf := lt_of_heap hSw; go_simp; first | done | (with_reducible rfl))
   try simp only [Act.put, List.setIfInBounds_toArray, List.set_cons_succ, List.set_cons_zero]
   refine tk (i := 7) (v := ?v7x37) (some 27) rfl rfl (Or.inl ⟨by kernel_rfl, ?h7x37⟩) ?r7x37
   case h7x37 => (intro w' hSw; obtain ⟨x0, x1, x2, x3, x4, x5⟩ := box6 hSw; have zf := lt_of_heap hSw; go_simp; first | done | (with_reducible rfl))
   try simp only [Act.put, List.setIfInBounds_toArray, List.set_cons_succ, List.set_cons_zero]
   refine tk (i := 8) (v := ?v8x38) (some 28) rfl rfl (Or.inl ⟨by kernel_rfl, ?h8x38⟩) ?r8x38
   case h8x38 => (intro w' hSw; obtain ⟨x0, x1, x2, x3, x4, x5⟩ := box6 hSw; have zf := lt_of_heap hSw; go_simp; first | done | (with_reducible rfl))
   try simp only [Act.put, List.setIfInBounds_toArray, List.set_cons_succ, List.set_cons_zero]
   refine tk (i := 9) (v := ?v9x39) (some 29) rfl rfl (Or.inl ⟨by kernel_rfl, ?h9x39⟩) ?r9x39
   case h9x39 => (intro w' hSw; obtain ⟨x0, x1, x2, x3, x4, x5⟩ := box6 hSw; have zf := lt_of_heap hSw; go_simp; first | done | (with_reducible rfl))
   try simp only [Act.put, List.setIfInBounds_toArray, List.set_cons_succ, List.set_cons_zero]
   refine wpAnyH_ready (rs := [10]) (by kernel_rfl) (by simp) ?_
   refine AllReadyH.cons rfl (fun K hK => ?_) AllReadyH.nil
   go_simp
   refine k_alloc (fun yC hC' hb => ?_)
   have hgC : yM.heap.size ≤ y0.heap.size := hB0.size
   replace hB0 := below_only hB0 hb
   obtain ⟨gC, HgC⟩ : ∃ x, x = y0.heap.size := ⟨_, rfl⟩
   have hS1 := row_below hS hb
   have hne : w.heap.size + 1 + 1 ≠ gC := by have := lt_of_heap hS; omega
   rw [← HgC] at hC' hgC ⊢
   clear HgC hb
   refine hK.out _ _ (hS1) (fun hS => ?_)
   clear hK K
   try simp only [Act.put, List.setIfInBounds_toArray, List.set_cons_succ, List.set_cons_zero]
   clear hS1
   refine wpAnyH_ready (rs := [11]) (by kernel_rfl) (by simp) ?_
   refine AllReadyH.cons rfl (fun K hK => ?_) AllReadyH.nil
   refine step_store_row none rfl rfl 36 (.tmp 8) (.tmp 29) rfl gC #[.int .u8 8, .int .u8 2, .int .u8 0, .int .u8 1, .int .i64 a, .int .i64 b, .int .i64 0] rfl rfl 36 _ hC' infoCal7 rfl (one7 _ _ _ _ _ _ _) ?_
   refine hK.out _ _ ((setRow_other _ _ _ _ hne).trans hS) (fun hS => ?_)
   clear hK K
   try simp only [Act.put, List.setIfInBounds_toArray, List.set_cons_succ, List.set_cons_zero]
   refine wpAnyH_done (by kernel_rfl) ?_ _
   go_wp2_with fail
   go_meet
   exact ⟨gC, rfl, hgC, setRow_heap _ _ _ _ _ _ hC', below_setRow hB0 hgC _⟩
  ·skip
   have ek : op.tmod 4 = 1 := ek
   refine wp_region_held_drew (S := fun W => W.heap[w.heap.size + 1 + 1]? = some (.cells #[.int .u8 op, .int .u8 n, .int .u8 hh, .int .u8 vv, .int .i64 b, .int .i64 a] 47 (0, 0))) (by kernel_rfl) (show yM.drew.heap[w.heap.size + 1 + 1]? = _ from HU.out) ?_
   intro hS
   have hB0 : Below yM.heap.size yM yM.drew := by go_grown
   generalize yM.drew = y0 at hS hB0 ⊢
   refine tk (i := 0) (v := ?v0x40) (some 20) rfl rfl (Or.inl ⟨by kernel_rfl, ?h0x40⟩) ?r0x40
   case h0x40 => (intro w' hSw; obtain ⟨x0, x1, x2, x3, x4, x5⟩ := box6 hSw; have zf := lt_of_heap hSw; go_simp; first | done | (with_reducible rfl))
   try simp only [Act.put, List.setIfInBounds_toArray, List.set_cons_succ, List.set_cons_zero]
   refine tk (i := 1) (v := ?v1x41) (some 21) rfl rfl (Or.inl ⟨by kernel_rfl, ?h1x41⟩) ?r1x41
   case h1x41 => (intro w' hSw; obtain ⟨x0, x1, x2, x3, x4, x5⟩ := box6 hSw; have zf := lt_of_heap hSw; go_simp; first | done | (with_reducible rfl))
   try simp only [Act.put, List.setIfInBounds_toArray, List.set_cons_succ, List.set_cons_zero]
   refine tk (i := 2) (v := ?v2x42) (some 22) rfl rfl (Or.inl ⟨by kernel_rfl, ?h2x42⟩) ?r2x42
   case h2x42 => (intro w' hSw; obtain ⟨x0, x1, x2, x3, x4, x5⟩ := box6 hSw; have zf := lt_of_heap hSw; go_simp; first | done | (with_reducible rfl))
   try simp only [Act.put, List.setIfInBounds_toArray, List.set_cons_succ, List.set_cons_zero]
   refine tk (i := 3) (v := ?v3x43) (some 23) rfl rfl (Or.inl ⟨by kernel_rfl, ?h3x43⟩) ?r3x43
   case h3x43 => (intro w' hSw; obtain ⟨x0, x1, x2, x3, x4, x5⟩ := box6 hSw; have zf := lt_of_heap hSw; go_simp; first | done | (with_reducible rfl))
   try simp only [Act.put, List.setIfInBounds_toArray, List.set_cons_succ, List.set_cons_zero]
   refine tk (i := 4) (v := ?v4x44) (some 24) rfl rfl (Or.inl ⟨by kernel_rfl, ?h4x44⟩) ?r4x44
   case h4x44 => (intro w' hSw; obtain ⟨x0, x1, x2, x3, x4, x5⟩ := box6 hSw; have zf := lt_of_heap hSw; go_simp; first | done | (with_reducible rfl))
   try simp only [Act.put, List.setIfInBounds_toArray, List.set_cons_succ, List.set_cons_zero]
   refine tk (i := 5) (v := ?v5x45) (some 25) rfl rfl (Or.inl ⟨by kernel_rfl, ?h5x45⟩) ?r5x45
   case h5x45 => (intro w' hSw; obtain ⟨x0, x1, x2, x3, x4, x5⟩ := box6 hSw; have zf := lt_of_heap hSw; go_simp; first | done | (with_reducible rfl))
   try simp only [Act.put, List.setIfInBounds_toArray, List.set_cons_succ, List.set_cons_zero]
   refine tk (i := 6) (v := ?v6x46) (some 26) rfl rfl (Or.inl ⟨by kernel_rfl, ?h6x46⟩) ?r6x46
   case h6x46 => (intro w' hSw; obtain ⟨x0, x1, x2, x3, x4, x5⟩ := box6 hSw; have zf := lt_of_heap hSw; go_simp; first | done | (with_reducible rfl))
   try simp only [Act.put, List.setIfInBounds_toArray, List.set_cons_succ, List.set_cons_zero]
   refine tk (i := 7) (v := ?v7x47) (some 27) rfl rfl (Or.inl ⟨by kernel_rfl, ?h7x47⟩) ?r7x47
   case h7x47 => (intro w' hSw; obtain ⟨x0, x1, x2, x3, x4, x5⟩ := box6 hSw; have zf := lt_of_heap hSw; go_simp; first | done | (with_reducible rfl))
   try simp only [Act.put, List.setIfInBounds_toArray, List.set_cons_succ, List.set_cons_zero]
   refine tk (i := 8) (v := ?v8x48) (some 28) rfl rfl (Or.inl ⟨by kernel_rfl, ?h8x48⟩) ?r8x48
   case h8x48 => (intro w' hSw; obtain ⟨x0, x1, x2, x3, x4, x5⟩ := box6 hSw; have zf := lt_of_heap hSw; go_simp; first | done | (with_reducible rfl))
   try simp only [Act.put, List.setIfInBounds_toArray, List.set_cons_succ, List.set_cons_zero]
   refine tk (i := 9) (v := ?v9x49) (some 29) rfl rfl (Or.inl ⟨by kernel_rfl, ?h9x49⟩) ?r9x49
   case h9x49 => (intro w' hSw; obtain ⟨x0, x1, x2, x3, x4, x5⟩ := box6 hSw; have zf := lt_of_heap hSw; go_simp; first | done | (with_reducible rfl))
   try simp only [Act.put, List.setIfInBounds_toArray, List.set_cons_succ, List.set_cons_zero]
   refine wpAnyH_ready (rs := [10]) (by kernel_rfl) (by simp) ?_
   refine AllReadyH.cons rfl (fun K hK => ?_) AllReadyH.nil
   go_simp
   refine k_alloc (fun yC hC' hb => ?_)
   have hgC : yM.heap.size ≤ y0.heap.size := hB0.size
   replace hB0 := below_only hB0 hb
   obtain ⟨gC, HgC⟩ : ∃ x, x = y0.heap.size := ⟨_, rfl⟩
   have hS1 := row_below hS hb
   have hne : w.heap.size + 1 + 1 ≠ gC := by have := lt_of_heap hS; omega
   rw [← HgC] at hC' hgC ⊢
   clear HgC hb
   refine hK.out _ _ (hS1) (fun hS => ?_)
   clear hK K
   try simp only [Act.put, List.setIfInBounds_toArray, List.set_cons_succ, List.set_cons_zero]
   clear hS1
   refine wpAnyH_ready (rs := [11]) (by kernel_rfl) (by simp) ?_
   refine AllReadyH.cons rfl (fun K hK => ?_) AllReadyH.nil
   refine step_store_row none rfl rfl 36 (.tmp 8) (.tmp 29) rfl gC #[.int .u8 9, .int .u8 2, .int .u8 0, .int .u8 1, .int .i64 a, .int .i64 b, .int .i64 0] rfl rfl 36 _ hC' infoCal7 rfl (one7 _ _ _ _ _ _ _) ?_
   refine hK.out _ _ ((setRow_other _ _ _ _ hne).trans hS) (fun hS => ?_)
   clear hK K
   try simp only [Act.put, List.setIfInBounds_toArray, List.set_cons_succ, List.set_cons_zero]
   refine wpAnyH_done (by kernel_rfl) ?_ _
   go_wp2_with fail
   go_meet
   exact ⟨gC, rfl, hgC, setRow_heap _ _ _ _ _ _ hC', below_setRow hB0 hgC _⟩
  ·skip
   have ek : op.tmod 4 = 2 := ek
   refine wp_region_held_drew (S := fun W => W.heap[w.heap.size + 1 + 1]? = some (.cells #[.int .u8 op, .int .u8 n, .int .u8 hh, .int .u8 vv, .int .i64 b, .int .i64 a] 47 (0, 0))) (by kernel_rfl) (show yM.drew.heap[w.heap.size + 1 + 1]? = _ from HU.out) ?_
   intro hS
   have hB0 : Below yM.heap.size yM yM.drew := by go_grown
   generalize yM.drew = y0 at hS hB0 ⊢
   refine tk (i := 0) (v := ?v0x50) (some 20) rfl rfl (Or.inl ⟨by kernel_rfl, ?h0x50⟩) ?r0x50
   case h0x50 => (intro w' hSw; obtain ⟨x0, x1, x2, x3, x4, x5⟩ := box6 hSw; have zf := lt_of_heap hSw; go_simp; first | done | (with_reducible rfl))
   try simp only [Act.put, List.setIfInBounds_toArray, List.set_cons_succ, List.set_cons_zero]
   refine tk (i := 1) (v := ?v1x51) (some 21) rfl rfl (Or.inl ⟨by kernel_rfl, ?h1x51⟩) ?r1x51
   case h1x51 => (intro w' hSw; obtain ⟨x0, x1, x2, x3, x4, x5⟩ := box6 hSw; have zf := lt_of_heap hSw; go_simp; first | done | (with_reducible rfl))
   try simp only [Act.put, List.setIfInBounds_toArray, List.set_cons_succ, List.set_cons_zero]
   refine tk (i := 2) (v := ?v2x52) (some 22) rfl rfl (Or.inl ⟨by kernel_rfl, ?h2x52⟩) ?r2x52
   case h2x52 => (intro w' hSw; obtain ⟨x0, x1, x2, x3, x4, x5⟩ := box6 hSw; have zf := lt_of_heap hSw; go_simp; first | done | (with_reducible rfl))
   try simp only [Act.put, List.setIfInBounds_toArray, List.set_cons_succ, List.set_cons_zero]
   refine tk (i := 3) (v := ?v3x53) (some 23) rfl rfl (Or.inl ⟨by kernel_rfl, ?h3x53⟩) ?r3x53
   case h3x53 => (intro w' hSw; obtain ⟨x0, x1, x2, x3, x4, x5⟩ := box6 hSw; have zf := lt_of_heap hSw; go_simp; first | done | (with_reducible rfl))
   try simp only [Act.put, List.setIfInBounds_toArray, List.set_cons_succ, List.set_cons_zero]
   refine tk (i := 4) (v := ?v4x54) (some 24) rfl rfl (Or.inl ⟨by kernel_rfl, ?h4x54⟩) ?r4x54
   case h4x54 => (intro w' hSw; obtain ⟨x0, x1, x2, x3, x4, x5⟩ := box6 hSw; have zf := lt_of_heap hSw; go_simp; first | done | (with_reducible rfl))
   try simp only [Act.put, List.setIfInBounds_toArray, List.set_cons_succ, List.set_cons_zero]
   refine tk (i := 5) (v := ?v5x55) (some 25) rfl rfl (Or.inl ⟨by kernel_rfl, ?h5x55⟩) ?r5x55
   case h5x55 => (intro w' hSw; obtain ⟨x0, x1, x2, x3, x4, x5⟩ := box6 hSw; have zf := lt_of_heap hSw; go_simp; first | done | (with_reducible rfl))
   try simp only [Act.put, List.setIfInBounds_toArray, List.set_cons_succ, List.set_cons_zero]
   refine tk (i := 6) (v := ?v6x56) (some 26) rfl rfl (Or.inl ⟨by kernel_rfl, ?h6x56⟩) ?r6x56
   case h6x56 => (intro w' hSw; obtain ⟨x0, x1, x2, x3, x4, x5⟩ := box6 hSw; have zf := lt_of_heap hSw; go_simp; first | done | (with_reducible rfl))
   try simp only [Act.put, List.setIfInBounds_toArray, List.set_cons_succ, List.set_cons_zero]
   refine tk (i := 7) (v := ?v7x57) (some 27) rfl rfl (Or.inl ⟨by kernel_rfl, ?h7x57⟩) ?r7x57
   case h7x57 => (intro w' hSw; obtain ⟨x0, x1, x2, x3, x4, x5⟩ := box6 hSw; have zf := lt_of_heap hSw; go_simp; first | done | (with_reducible rfl))
   try simp only [Act.put, List.setIfInBounds_toArray, List.set_cons_succ, List.set_cons_zero]
   refine tk (i := 8) (v := ?v8x58) (some 28) rfl rfl (Or.inl ⟨by kernel_rfl, ?h8x58⟩) ?r8x58
   case h8x58 => (intro w' hSw; obtain ⟨x0, x1, x2, x3, x4, x5⟩ := box6 hSw; have zf := lt_of_heap hSw; go_simp; first | done | (with_reducible rfl))
   try simp only [Act.put, List.setIfInBounds_toArray, List.set_cons_succ, List.set_cons_zero]
   refine tk (i := 9) (v := ?v9x59) (some 29) rfl rfl (Or.inl ⟨by kernel_rfl, ?h9x59⟩) ?r9x59
   case h9x59 => (intro w' hSw; obtain ⟨x0, x1, x2, x3, x4, x5⟩ := box6 hSw; have zf := lt_of_heap hSw; go_simp; first | done | (with_reducible rfl))
   try simp only [Act.put, List.setIfInBounds_toArray, List.set_cons_succ, List.set_cons_zero]
   refine wpAnyH_ready (rs := [10]) (by kernel_rfl) (by simp) ?_
   refine AllReadyH.cons rfl (fun K hK => ?_) AllReadyH.nil
   go_simp
   refine k_alloc (fun yC hC' hb => ?_)
   have hgC : yM.heap.size ≤ y0.heap.size := hB0.size
   replace hB0 := below_only hB0 hb
   obtain ⟨gC, HgC⟩ : ∃ x, x = y0.heap.size := ⟨_, rfl⟩
   have hS1 := row_below hS hb
   have hne : w.heap.size + 1 + 1 ≠ gC := by have := lt_of_heap hS; omega
   rw [← HgC] at hC' hgC ⊢
   clear HgC hb
   refine hK.out _ _ (hS1) (fun hS => ?_)
   clear hK K
   try simp only [Act.put, List.setIfInBounds_toArray, List.set_cons_succ, List.set_cons_zero]
   clear hS1
   refine wpAnyH_ready (rs := [11]) (by kernel_rfl) (by simp) ?_
   refine AllReadyH.cons rfl (fun K hK => ?_) AllReadyH.nil
   refine step_store_row none rfl rfl 36 (.tmp 8) (.tmp 29) rfl gC #[.int .u8 10, .int .u8 2, .int .u8 0, .int .u8 1, .int .i64 a, .int .i64 b, .int .i64 0] rfl rfl 36 _ hC' infoCal7 rfl (one7 _ _ _ _ _ _ _) ?_
   refine hK.out _ _ ((setRow_other _ _ _ _ hne).trans hS) (fun hS => ?_)
   clear hK K
   try simp only [Act.put, List.setIfInBounds_toArray, List.set_cons_succ, List.set_cons_zero]
   refine wpAnyH_done (by kernel_rfl) ?_ _
   go_wp2_with fail
   go_meet
   exact ⟨gC, rfl, hgC, setRow_heap _ _ _ _ _ _ hC', below_setRow hB0 hgC _⟩
  ·skip
   have ek : op.tmod 4 = 3 := ek
   refine wp_region_held_drew (S := fun W => W.heap[w.heap.size + 1 + 1]? = some (.cells #[.int .u8 op, .int .u8 n, .int .u8 hh, .int .u8 vv, .int .i64 b, .int .i64 a] 47 (0, 0))) (by kernel_rfl) (show yM.drew.heap[w.heap.size + 1 + 1]? = _ from HU.out) ?_
   intro hS
   have hB0 : Below yM.heap.size yM yM.drew := by go_grown
   generalize yM.drew = y0 at hS hB0 ⊢
   refine tk (i := 0) (v := ?v0x60) (some 20) rfl rfl (Or.inl ⟨by kernel_rfl, ?h0x60⟩) ?r0x60
   case h0x60 => (intro w' hSw; obtain ⟨x0, x1, x2, x3, x4, x5⟩ := box6 hSw; have zf := lt_of_heap hSw; go_simp; first | done | (with_reducible rfl))
   try simp only [Act.put, List.setIfInBounds_toArray, List.set_cons_succ, List.set_cons_zero]
   refine tk (i := 1) (v := ?v1x61) (some 21) rfl rfl (Or.inl ⟨by kernel_rfl, ?h1x61⟩) ?r1x61
   case h1x61 => (intro w' hSw; obtain ⟨x0, x1, x2, x3, x4, x5⟩ := box6 hSw; have zf := lt_of_heap hSw; go_simp; first | done | (with_reducible rfl))
   try simp only [Act.put, List.setIfInBounds_toArray, List.set_cons_succ, List.set_cons_zero]
   refine tk (i := 2) (v := ?v2x62) (some 22) rfl rfl (Or.inl ⟨by kernel_rfl, ?h2x62⟩) ?r2x62
   case h2x62 => (intro w' hSw; obtain ⟨x0, x1, x2, x3, x4, x5⟩ := box6 hSw; have zf := lt_of_heap hSw; go_simp; first | done | (with_reducible rfl))
   try simp only [Act.put, List.setIfInBounds_toArray, List.set_cons_succ, List.set_cons_zero]
   refine tk (i := 3) (v := ?v3x63) (some 23) rfl rfl (Or.inl ⟨by kernel_rfl, ?h3x63⟩) ?r3x63
   case h3x63 => (intro w' hSw; obtain ⟨x0, x1, x2, x3, x4, x5⟩ := box6 hSw; have zf := lt_of_heap hSw; go_simp; first | done | (with_reducible rfl))
   try simp only [Act.put, List.setIfInBounds_toArray, List.set_cons_succ, List.set_cons_zero]
   refine tk (i := 4) (v := ?v4x64) (some 24) rfl rfl (Or.inl ⟨by kernel_rfl, ?h4x64⟩) ?r4x64
   case h4x64 => (intro w' hSw; obtain ⟨x0, x1, x2, x3, x4, x5⟩ := box6 hSw; have zf := lt_of_heap hSw; go_simp; first | done | (with_reducible rfl))
   try simp only [Act.put, List.setIfInBounds_toArray, List.set_cons_succ, List.set_cons_zero]
   refine tk (i := 5) (v := ?v5x65) (some 25) rfl rfl (Or.inl ⟨by kernel_rfl, ?h5x65⟩) ?r5x65
   case h5x65 => (intro w' hSw; obtain ⟨x0, x1, x2, x3, x4, x5⟩ := box6 hSw; have zf := lt_of_heap hSw; go_simp; first | done | (with_reducible rfl))
   try simp only [Act.put, List.setIfInBounds_toArray, List.set_cons_succ, List.set_cons_zero]
   refine tk (i := 6) (v := ?v6x66) (some 26) rfl rfl (Or.inl ⟨by kernel_rfl, ?h6x66⟩) ?r6x66
   case h6x66 => (intro w' hSw; obtain ⟨x0, x1, x2, x3, x4, x5⟩ := box6 hSw; have zf := lt_of_heap hSw; go_simp; first | done | (with_reducible rfl))
   try simp only [Act.put, List.setIfInBounds_toArray, List.set_cons_succ, List.set_cons_zero]
   refine tk (i := 7) (v := ?v7x67) (some 27) rfl rfl (Or.inl ⟨by kernel_rfl, ?h7x67⟩) ?r7x67
   case h7x67 => (intro w' hSw; obtain ⟨x0, x1, x2, x3, x4, x5⟩ := box6 hSw; have zf := lt_of_heap hSw; go_simp; first | done | (with_reducible rfl))
   try simp only [Act.put, List.setIfInBounds_toArray, List.set_cons_succ, List.set_cons_zero]
   refine tk (i := 8) (v := ?v8x68) (some 28) rfl rfl (Or.inl ⟨by kernel_rfl, ?h8x68⟩) ?r8x68
   case h8x68 => (intro w' hSw; obtain ⟨x0, x1, x2, x3, x4, x5⟩ := box6 hSw; have zf := lt_of_heap hSw; go_simp; first | done | (with_reducible rfl))
   try simp only [Act.put, List.setIfInBounds_toArray, List.set_cons_succ, List.set_cons_zero]
   refine tk (i := 9) (v := ?v9x69) (some 29) rfl rfl (Or.inl ⟨by kernel_rfl, ?h9x69⟩) ?r9x69
   case h9x69 => (intro w' hSw; obtain ⟨x0, x1, x2, x3, x4, x5⟩ := box6 hSw; have zf := lt_of_heap hSw; go_simp; first | done | (with_reducible rfl))
   try simp only [Act.put, List.setIfInBounds_toArray, List.set_cons_succ, List.set_cons_zero]
   refine wpAnyH_ready (rs := [10]) (by kernel_rfl) (by simp) ?_
   refine AllReadyH.cons rfl (fun K hK => ?_) AllReadyH.nil
   go_simp
   refine k_alloc (fun yC hC' hb => ?_)
   have hgC : yM.heap.size ≤ y0.heap.size := hB0.size
   replace hB0 := below_only hB0 hb
   obtain ⟨gC, HgC⟩ : ∃ x, x = y0.heap.size := ⟨_, rfl⟩
   have hS1 := row_below hS hb
   have hne : w.heap.size + 1 + 1 ≠ gC := by have := lt_of_heap hS; omega
   rw [← HgC] at hC' hgC ⊢
   clear HgC hb
   refine hK.out _ _ (hS1) (fun hS => ?_)
   clear hK K
   try simp only [Act.put, List.setIfInBounds_toArray, List.set_cons_succ, List.set_cons_zero]
   clear hS1
   refine wpAnyH_ready (rs := [11]) (by kernel_rfl) (by simp) ?_
   refine AllReadyH.cons rfl (fun K hK => ?_) AllReadyH.nil
   refine step_store_row none rfl rfl 36 (.tmp 8) (.tmp 29) rfl gC #[.int .u8 11, .int .u8 2, .int .u8 0, .int .u8 1, .int .i64 a, .int .i64 b, .int .i64 0] rfl rfl 36 _ hC' infoCal7 rfl (one7 _ _ _ _ _ _ _) ?_
   refine hK.out _ _ ((setRow_other _ _ _ _ hne).trans hS) (fun hS => ?_)
   clear hK K
   try simp only [Act.put, List.setIfInBounds_toArray, List.set_cons_succ, List.set_cons_zero]
   refine wpAnyH_done (by kernel_rfl) ?_ _
   go_wp2_with fail
   go_meet
   exact ⟨gC, rfl, hgC, setRow_heap _ _ _ _ _ _ hC', below_setRow hB0 hgC _⟩
 case rest =>
  obtain ⟨gC, rfl, hgC, hRC, hb⟩ := hcut
  obtain ⟨w5, hwx⟩ : ∃ x, x = wc := ⟨_, rfl⟩
  subst hwx
  have HgC : Hid (w.heap.size + 1 + 1 + 1 < gC) := Lib.hid (by have := lt_of_heap HZ.out; omega)
  replace HP := Lib.hid (row_below HP.out hb)
  replace HU := Lib.hid (row_below HU.out hb)
  replace HZ := Lib.hid (row_below HZ.out hb)
  replace HM := Lib.hid (row_below HM.out hb)
  replace HB := Lib.hid (below_only HB.out hb)
  have HC7 := Lib.hid hRC
  clear hb hRC hgC Hlt ek
  go_upto_region 3 with fail
  refine wp_region_held_drew (S := fun W => W.heap[w.heap.size]? = some (.cells #[.int .i64 4, .int .i64 2, .int .i64 128, .int .i64 512] 28 (0, 0)) ∧ W.heap[w.heap.size + 1 + 1]? = some (.cells #[.int .u8 op, .int .u8 n, .int .u8 hh, .int .u8 vv, .int .i64 b, .int .i64 a] 47 (0, 0)) ∧ W.heap[gC]? = some (.cells #[.int .u8 (8 + (k : Int)), .int .u8 2, .int .u8 0, .int .u8 1, .int .i64 a, .int .i64 b, .int .i64 0] 36 (0, 0))) (by kernel_rfl) (show w5.drew.heap[w.heap.size]? = _ ∧ w5.drew.heap[w.heap.size + 1 + 1]? = _ ∧ w5.drew.heap[gC]? = _ from ⟨HP.out, HU.out, HC7.out⟩) ?_
  intro hS
  have hZ0 : w5.drew.heap[w.heap.size + 1 + 1 + 1]? = _ := HZ.out
  have hM0 : w5.drew.heap[gM]? = _ := HM.out
  have hB0 : Below w.heap.size w w5.drew := below_drewN HB.out 1
  clear HP HU HC7 HZ HM HB
  generalize w5.drew = y0 at hS hZ0 hM0 hB0 ⊢
  refine tk (i := 0) (v := ?v0x70) (some 30) rfl rfl (Or.inl ⟨by kernel_rfl, ?h0x70⟩) ?r0x70
  case h0x70 => (intro w' hSw; obtain ⟨s1, s2, s3⟩ := hSw; obtain ⟨p0, p1, p2, p3, _⟩ := box4 s1; obtain ⟨x0, x1, x2, x3, x4, x5⟩ := box6 s2; have zp := lt_of_heap s1; have zf := lt_of_heap s2; go_simp; first | done | (with_reducible rfl))
  try simp only [Act.put, List.setIfInBounds_toArray, List.set_cons_succ, List.set_cons_zero]
  refine tk (i := 1) (v := ?v1x71) (some 31) rfl rfl (Or.inl ⟨by kernel_rfl, ?h1x71⟩) ?r1x71
  case h1x71 => (intro w' hSw; obtain ⟨s1, s2, s3⟩ := hSw; obtain ⟨p0, p1, p2, p3, _⟩ := box4 s1; obtain ⟨x0, x1, x2, x3, x4, x5⟩ := box6 s2; have zp := lt_of_heap s1; have zf := lt_of_heap s2; go_simp; first | done | (with_reducible rfl))
  try simp only [Act.put, List.setIfInBounds_toArray, List.set_cons_succ, List.set_cons_zero]
  refine tk (i := 2) (v := ?v2x72) (some 32) rfl rfl (Or.inl ⟨by kernel_rfl, ?h2x72⟩) ?r2x72
  case h2x72 => (intro w' hSw; obtain ⟨s1, s2, s3⟩ := hSw; obtain ⟨p0, p1, p2, p3, _⟩ := box4 s1; obtain ⟨x0, x1, x2, x3, x4, x5⟩ := box6 s2; have zp := lt_of_heap s1; have zf := lt_of_heap s2; go_simp; first | done | (with_reducible rfl))
  try simp only [Act.put, List.setIfInBounds_toArray, List.set_cons_succ, List.set_cons_zero]
  refine tk (i := 3) (v := ?v3x73) (some 33) rfl rfl (Or.inl ⟨by kernel_rfl, ?h3x73⟩) ?r3x73
  case h3x73 => (intro w' hSw; obtain ⟨s1, s2, s3⟩ := hSw; obtain ⟨p0, p1, p2, p3, _⟩ := box4 s1; obtain ⟨x0, x1, x2, x3, x4, x5⟩ := box6 s2; have zp := lt_of_heap s1; have zf := lt_of_heap s2; go_simp; first | done | (with_reducible rfl))
  try simp only [Act.put, List.setIfInBounds_toArray, List.set_cons_succ, List.set_cons_zero]
  refine tk (i := 5) (v := .agg #[.int .u8 (8 + (k : Int)), .int .u8 2, .int .u8 0, .int .u8 1, .int .i64 a, .int .i64 b, .int .i64 0]) (some 35) rfl rfl (yieldsIf_row16 (by kernel_rfl) 36 (.tmp 8) rfl gC rfl #[.int .u8 (8 + (k : Int)), .int .u8 2, .int .u8 0, .int .u8 1, .int .i64 a, .int .i64 b, .int .i64 0] (fun W' hW' => hW'.2.2) undCal7 rfl infoCal7) ?_
  try simp only [Act.put, List.setIfInBounds_toArray, List.set_cons_succ, List.set_cons_zero]
  refine wpAnyH_ready (rs := [4]) (by kernel_rfl) (by simp) ?_
  refine AllReadyH.cons rfl (fun K hK => ?_) AllReadyH.nil
  go_simp
  refine (HC _).out.mono ?_
  rintro e' y1 ⟨A, rfl, hE, hEn, hb⟩
  go_simp
  replace hZ0 := row_below hZ0 hb
  replace hM0 := row_below hM0 hb
  have hA : w.heap.size ≤ y0.heap.size := hB0.size
  replace hB0 := below_only hB0 hb
  refine hK.out _ _ (⟨row_below hS.1 hb, row_below hS.2.1 hb, row_below hS.2.2 hb⟩) (fun hS => ?_)
  clear hK K
  try simp only [Act.put, List.setIfInBounds_toArray, List.set_cons_succ, List.set_cons_zero]
  clear hb
  refine wpAnyH_ready (rs := [6]) (by kernel_rfl) (by simp) ?_
  refine AllReadyH.cons rfl (fun K hK => ?_) AllReadyH.nil
  go_simp
  have hO := rofC_any ⟨4, 2, 128, 512⟩ A 2 (chE16 m) ⟨8 + (k : Int), 2, 0, 1, a, b, 0⟩ (hC j) (hC v) 0 0 gM 0 4 _ (by rw [HL.out]; have := HM3.out; omega) (by rw [HL.out]; have := HM3.out; omega) hE (by decide) (by decide) HCal.out (by decide) (by have := hC_bd j HJ.out.1; omega) (by have := hC_bd v HJ.out.2; omega) (by decide) (by decide) (by rw [row_cell hM0]; rfl) (by rw [row_cell hM0]; rfl) (by rw [row_cell hM0]; rfl) (by rw [row_cell hM0]; rfl)
  rw [HL.out] at hO
  refine hO.mono ?_
  rintro e' y2 ⟨kc, cA, hkc2, rfl, hE2, hE2n, hb⟩
  have HKC := Lib.hid hkc2
  clear hkc2
  clear hO
  obtain ⟨R, HRq⟩ : ∃ R, Hid (R = beg16k m j v k a b ⟨cA, m, kc⟩) := ⟨_, Lib.hid rfl⟩
  rw [show rbeginRn _ _ _ (rregR (hC j) (hC v) 0 0 _) (rregR (hC j) (hC v) 0 0 _) _ = R from by rw [HRq.out]; rfl]
  have hz1 := lt_of_heap hZ0
  replace hZ0 := row_below hZ0 hb
  have hA2 : w.heap.size ≤ y1.heap.size := hB0.size
  replace hB0 := below_only hB0 hb
  refine hK.out _ _ (⟨row_below hS.1 hb, row_below hS.2.1 hb, row_below hS.2.2 hb⟩) (fun hS => ?_)
  clear hK K
  try simp only [Act.put, List.setIfInBounds_toArray, List.set_cons_succ, List.set_cons_zero]
  clear hb
  refine wpAnyH_ready (rs := [7]) (by kernel_rfl) (by simp) ?_
  refine AllReadyH.cons rfl (fun K hK => ?_) AllReadyH.nil
  refine step_store_row none rfl rfl 43 (.tmp 6) (.tmp 36) rfl (w.heap.size + 1 + 1 + 1) R.arr rfl rfl 43 ZRun hZ0 infoRun rfl (Rn.one _) ?_
  refine hK.out _ _ (⟨(setRow_other _ _ _ _ (by omega)).trans hS.1, (setRow_other _ _ _ _ (by omega)).trans hS.2.1, (setRow_other _ _ _ _ (by have := HgC.out; omega)).trans hS.2.2⟩) (fun hS => ?_)
  clear hK K
  try simp only [Act.put, List.setIfInBounds_toArray, List.set_cons_succ, List.set_cons_zero]
  refine wpAnyH_done (by kernel_rfl) ?_ _
  have HZ := Lib.hid hZ0
  have HB9 := Lib.hid hB0
  have HE := Lib.hid hE2
  clear hS hZ0 hM0
  go_wp2_with fail
  refine bodyPost_ret (results_cell_row (fn := Tryz.f12) rfl _ _ (w.heap.size + 1 + 1 + 1) 43 R.arr (0, 0) _ rfl (setRow_heap y2 _ _ _ _ (0, 0) HZ.out) undRun rfl infoRun) rfl ?_
  refine ⟨kc, cA, HKC.out, by rw [← HRq.out], ?_, fun x h0 hx => Nat.le_trans hA2 (hE2n x h0 hx), below_setRow HB9.out (by omega) _⟩
  exact ents_setRow HE.out (fun x h0 hx => by have h7 := hE2n x (by rw [HL.out] at h0; exact h0) hx; omega) _
end Go.Proofs.YtnimaajnlkbdaaaGreat

namespace Go.Proofs.YtnimaajnlkbdaaaGreat
open Go.RowKit
set_option linter.unusedVariables false
set_option linter.unusedSimpArgs false

theorem step_load_row16 {P : Program} {ops : Array Oper} {o : Oper} {a : Act} {w : World} {K : Act → World → Prop} {Q : Exit → Act → World → Prop} {E : Prop} (d : Option Tmp) (hd : o.dst = d) (hgd : o.guard = none) (ty : TypeId) (x : Operand) (ho : o.op = .load ty x)
  (g : Nat) (hx : a.eval x = .pointer (some ⟨g, 0, none⟩)) (t : TypeId) (cs : Array Value) (fr : Nat × Nat) (ds : TypeDesc) (hg : w.heap[g]? = some (.cells cs t fr))
  (hu : P.underlying ty = some ds) (hds : (match ds with | .struct _ | .array _ _ => true | _ => false) = true) (hi : (P.info? ty).map (·.size) = some cs.size)
  (h : K (a.put d (.agg cs)) w) : if Region.wanted o (yielded ops a.tmps) = true then Oper.wp P o a w K Q else E := by
 subst hd
 have hw : Region.wanted o (yielded ops a.tmps) = true := by simp [Region.wanted, hgd]
 rw [if_pos hw]
 exact wp_load_row ty x ho g hx t cs fr ds hg hu hds hi h
theorem sh_verd : verd c16 2 3 6 1 0 0 = 22 := by decide
theorem bnd16_le (k : Nat) : bnd16 k ≤ 5 := by unfold bnd16; split <;> (try split) <;> omega
set_option maxRecDepth 100000 in
set_option maxHeartbeats 8000000 in
theorem shown16_any (w : World) : Calls Tryz.prog 9 #[] w fun r w' => r = .returned (.bool true) ∧ Below w.heap.size w w' := by
 go_enter Tryz.func9, Tryz.ntmps9
 have B := Lib.hid (Below.refl w.heap.size w)
 go_wp2_with fail
 refine (laid_any _).mono ?_
 rintro r w1 ⟨p, b, X, q, d, rfl, hT, hb⟩
 have HT := Lib.hid hT
 clear hT
 have hsz := (hb).size
 replace B := Lib.hid (below_only B.out hb)
 clear hb hsz
 obtain ⟨WS, HWS⟩ : ∃ x, Hid (oW 9 = x) := ⟨_, Lib.hid rfl⟩
 have HLw : Hid (Lw c16 WS) := Lib.hid (by rw [← HWS.out]; exact laid_lw)
 rw [HWS.out] at HT
 go_upto_region 2 with (first | (refine allocTo16 rfl 32 rfl _ (allocH12 _) ?_; (try simp only [Act.put, List.setIfInBounds_toArray, List.set_cons_succ, List.set_cons_zero])) | (refine wpList_store_row rfl 32 (.tmp 3) (.tmp 10) rfl w1.heap.size (hAt 12) rfl rfl 32 (hAt 0) (row_new _ _ _) infoH12 rfl (hAt_one 12) ?_; (try simp only [Act.put, List.setIfInBounds_toArray, List.set_cons_succ, List.set_cons_zero])))
 refine alloc_set' w1 _ _ _ ?_
 intro w2 hr hb
 have hlB := B.out.size
 have hfr := HT.out.fresh (Nat.le_refl w1.heap.size)
 have hsz := (hb).size
 replace HT := Lib.hid (HT.out.below hb)
 replace B := Lib.hid (below_only B.out hb)
 clear hb hsz
 have H_h := Lib.hid (show w2.heap[w1.heap.size]? = some (.cells (hAt 12) 32 (0, 0)) from hr)
 clear hr
 obtain ⟨g_h, hg_h⟩ : ∃ x, x = w1.heap.size := ⟨_, rfl⟩
 rw [← hg_h] at H_h ⊢
 have N_h : Hid (g_h ∉ [p, b, X, q, d]) := Lib.hid (by rw [hg_h]; exact hfr)
 clear hfr
 have L_h : Hid (w.heap.size ≤ g_h) := Lib.hid (by omega)
 clear hg_h hlB
 go_wp2_with fail
 go_upto_region 4 with fail
 try simp only [Act.put]
 go_cut [4] from 4 to 16 (fun vd wx => ∃ gr cAr kcr, vd = .pointer (some ⟨gr, 0, none⟩) ∧ 2 ≤ kcr ∧ w2.heap.size ≤ gr ∧ wx.heap[gr]? = some (.cells (beg16k 2 3 6 1 0 0 ⟨cAr, 2, kcr⟩).arr 43 (0, 0)) ∧ Ents wx cAr (chE16 2) ∧ (∀ z, 0 < (chE16 2).length → cAr = some z → w2.heap.size ≤ z.block) ∧ (∀ z, 0 < (chE16 2).length → cAr = some z → z.block ≠ gr) ∧ Below w2.heap.size w2 wx)
 case first =>
  refine wp_region_held_drew (S := fun W' => W'.heap[g_h]? = some (.cells (hAt 12) 32 (0, 0))) (by kernel_rfl) (show w2.drew.heap[g_h]? = _ from H_h.out) ?_
  intro hS
  have hB0 : Below w2.heap.size w2 w2.drew := Below.drew (Below.refl _ _)
  generalize w2.drew = y0 at hS hB0 ⊢
  refine tk (i := 1) (v := .agg (hAt 12)) (some 14) rfl rfl (yieldsIf_row16 (by kernel_rfl) 32 (.tmp 3) rfl g_h rfl (hAt 12) (fun W' hW' => hW') undH12 rfl infoH12) ?_
  try simp only [Act.put, List.setIfInBounds_toArray, List.set_cons_succ, List.set_cons_zero]
  refine tk (i := 2) (v := ?v2x1) (some 15) rfl rfl (Or.inl ⟨by kernel_rfl, ?h2x1⟩) ?r2x1
  case h2x1 => (intro w hSw; (try dsimp only at hSw); go_simp; first | done | (with_reducible rfl))
  try simp only [Act.put, List.setIfInBounds_toArray, List.set_cons_succ, List.set_cons_zero]
  refine wpAnyH_ready (rs := [0, 4]) (by kernel_rfl) (by simp) ?_
  refine AllReadyH.cons rfl (fun K hK => ?_) (AllReadyH.cons rfl (fun K hK => ?_) AllReadyH.nil)
  ·skip
   go_simp
   refine (plan16_any _).mono ?_
   rintro e' yP ⟨rfl, hb⟩
   go_simp
   replace hB0 := below_only hB0 hb
   refine hK.out _ _ (row_below hS hb) (fun hS => ?_)
   clear hK K
   try simp only [Act.put, List.setIfInBounds_toArray, List.set_cons_succ, List.set_cons_zero]
   refine wpAnyH_ready (rs := [3, 4]) (by kernel_rfl) (by simp) ?_
   refine AllReadyH.cons rfl (fun K hK => ?_) (AllReadyH.cons rfl (fun K hK => ?_) AllReadyH.nil)
   ·skip
    go_simp
    refine (call16_any 1 2 3 6 0 0 1 2 3 6 _ (by decide) (by decide) (by decide) (by decide) (by decide) (by decide) rfl rfl rfl rfl).mono ?_
    rintro e' yC ⟨kcr, cAr, hkc, rfl, hE, hEn, hb⟩
    go_simp
    have hEl : ∀ z, 0 < (chE16 2).length → cAr = some z → w2.heap.size ≤ z.block := fun z h0 hz => Nat.le_trans hB0.size (hEn z (by decide) hz)
    clear hEn
    replace hB0 := below_only hB0 hb
    refine hK.out _ _ (row_below hS hb) (fun hS => ?_)
    clear hK K
    try simp only [Act.put, List.setIfInBounds_toArray, List.set_cons_succ, List.set_cons_zero]
    refine wpAnyH_ready (rs := [4]) (by kernel_rfl) (by simp) ?_
    refine AllReadyH.cons rfl (fun K hK => ?_) AllReadyH.nil
    refine step_alloc_run (some 4) rfl rfl rfl ?_
    refine k_alloc (fun yZ hZ hb => ?_)
    have hzZ : w2.heap.size ≤ yC.heap.size := hB0.size
    obtain ⟨gZ, HgZ⟩ : ∃ x, x = yC.heap.size := ⟨_, rfl⟩
    have hEZ : ∀ z, 0 < (chE16 2).length → cAr = some z → z.block ≠ gZ := by rw [HgZ]; exact ents_far hE (Nat.le_refl _)
    have hpz : g_h ≠ gZ := by have := lt_of_heap hS; omega
    rw [← HgZ] at hZ hzZ ⊢
    clear HgZ
    replace hB0 := below_only hB0 hb
    replace hE := Ents.below hE hb
    refine hK.out _ _ (row_below hS hb) (fun hS => ?_)
    clear hK K
    try simp only [Act.put, List.setIfInBounds_toArray, List.set_cons_succ, List.set_cons_zero]
    refine wpAnyH_ready (rs := [5]) (by kernel_rfl) (by simp) ?_
    refine AllReadyH.cons rfl (fun K hK => ?_) AllReadyH.nil
    refine step_store_row none rfl rfl 43 (.tmp 4) (.tmp 16) rfl gZ (beg16k 2 3 6 1 0 0 ⟨cAr, 2, kcr⟩).arr rfl rfl 43 ZRun hZ infoRun rfl (Rn.one _) ?_
    refine hK.out _ _ ((setRow_other _ _ _ _ hpz).trans hS) (fun hS => ?_)
    clear hK K
    try simp only [Act.put, List.setIfInBounds_toArray, List.set_cons_succ, List.set_cons_zero]
    refine wpAnyH_done (by kernel_rfl) ?_ _
    go_wp2_with fail
    go_meet
    exact ⟨gZ, cAr, kcr, rfl, hkc, hzZ, setRow_heap _ _ _ _ _ _ hZ, ents_setRow hE hEZ _, hEl, hEZ, below_setRow hB0 hzZ _⟩
   ·skip
    refine step_alloc_run (some 4) rfl rfl rfl ?_
    refine k_alloc (fun yZ hZ hb => ?_)
    have hzZ : w2.heap.size ≤ yP.heap.size := hB0.size
    obtain ⟨gZ, HgZ⟩ : ∃ x, x = yP.heap.size := ⟨_, rfl⟩
    have hpz : g_h ≠ gZ := by have := lt_of_heap hS; omega
    rw [← HgZ] at hZ hzZ ⊢
    clear HgZ
    replace hB0 := below_only hB0 hb
    refine hK.out _ _ (row_below hS hb) (fun hS => ?_)
    clear hK K
    try simp only [Act.put, List.setIfInBounds_toArray, List.set_cons_succ, List.set_cons_zero]
    refine wpAnyH_ready (rs := [3]) (by kernel_rfl) (by simp) ?_
    refine AllReadyH.cons rfl (fun K hK => ?_) AllReadyH.nil
    go_simp
    refine (call16_any 1 2 3 6 0 0 1 2 3 6 _ (by decide) (by decide) (by decide) (by decide) (by decide) (by decide) rfl rfl rfl rfl).mono ?_
    rintro e' yC ⟨kcr, cAr, hkc, rfl, hE, hEn, hb⟩
    go_simp
    have hEl : ∀ z, 0 < (chE16 2).length → cAr = some z → w2.heap.size ≤ z.block := fun z h0 hz => Nat.le_trans hB0.size (hEn z (by decide) hz)
    have hEZ : ∀ z, 0 < (chE16 2).length → cAr = some z → z.block ≠ gZ := fun z h0 hz => by have := hEn z (by decide) hz; have := lt_of_heap hZ; omega
    clear hEn
    replace hB0 := below_only hB0 hb
    replace hZ := row_below hZ hb
    refine hK.out _ _ (row_below hS hb) (fun hS => ?_)
    clear hK K
    try simp only [Act.put, List.setIfInBounds_toArray, List.set_cons_succ, List.set_cons_zero]
    refine wpAnyH_ready (rs := [5]) (by kernel_rfl) (by simp) ?_
    refine AllReadyH.cons rfl (fun K hK => ?_) AllReadyH.nil
    refine step_store_row none rfl rfl 43 (.tmp 4) (.tmp 16) rfl gZ (beg16k 2 3 6 1 0 0 ⟨cAr, 2, kcr⟩).arr rfl rfl 43 ZRun hZ infoRun rfl (Rn.one _) ?_
    refine hK.out _ _ ((setRow_other _ _ _ _ hpz).trans hS) (fun hS => ?_)
    clear hK K
    try simp only [Act.put, List.setIfInBounds_toArray, List.set_cons_succ, List.set_cons_zero]
    refine wpAnyH_done (by kernel_rfl) ?_ _
    go_wp2_with fail
    go_meet
    exact ⟨gZ, cAr, kcr, rfl, hkc, hzZ, setRow_heap _ _ _ _ _ _ hZ, ents_setRow hE hEZ _, hEl, hEZ, below_setRow hB0 hzZ _⟩
  ·skip
   refine step_alloc_run (some 4) rfl rfl rfl ?_
   refine k_alloc (fun yZ hZ hb => ?_)
   have hzZ : w2.heap.size ≤ y0.heap.size := hB0.size
   obtain ⟨gZ, HgZ⟩ : ∃ x, x = y0.heap.size := ⟨_, rfl⟩
   have hpz : g_h ≠ gZ := by have := lt_of_heap hS; omega
   rw [← HgZ] at hZ hzZ ⊢
   clear HgZ
   replace hB0 := below_only hB0 hb
   refine hK.out _ _ (row_below hS hb) (fun hS => ?_)
   clear hK K
   try simp only [Act.put, List.setIfInBounds_toArray, List.set_cons_succ, List.set_cons_zero]
   refine wpAnyH_ready (rs := [0]) (by kernel_rfl) (by simp) ?_
   refine AllReadyH.cons rfl (fun K hK => ?_) AllReadyH.nil
   go_simp
   refine (plan16_any _).mono ?_
   rintro e' yP ⟨rfl, hb⟩
   go_simp
   replace hB0 := below_only hB0 hb
   replace hZ := row_below hZ hb
   refine hK.out _ _ (row_below hS hb) (fun hS => ?_)
   clear hK K
   try simp only [Act.put, List.setIfInBounds_toArray, List.set_cons_succ, List.set_cons_zero]
   refine wpAnyH_ready (rs := [3]) (by kernel_rfl) (by simp) ?_
   refine AllReadyH.cons rfl (fun K hK => ?_) AllReadyH.nil
   go_simp
   refine (call16_any 1 2 3 6 0 0 1 2 3 6 _ (by decide) (by decide) (by decide) (by decide) (by decide) (by decide) rfl rfl rfl rfl).mono ?_
   rintro e' yC ⟨kcr, cAr, hkc, rfl, hE, hEn, hb⟩
   go_simp
   have hEl : ∀ z, 0 < (chE16 2).length → cAr = some z → w2.heap.size ≤ z.block := fun z h0 hz => Nat.le_trans hB0.size (hEn z (by decide) hz)
   have hEZ : ∀ z, 0 < (chE16 2).length → cAr = some z → z.block ≠ gZ := fun z h0 hz => by have := hEn z (by decide) hz; have := lt_of_heap hZ; omega
   clear hEn
   replace hB0 := below_only hB0 hb
   replace hZ := row_below hZ hb
   refine hK.out _ _ (row_below hS hb) (fun hS => ?_)
   clear hK K
   try simp only [Act.put, List.setIfInBounds_toArray, List.set_cons_succ, List.set_cons_zero]
   refine wpAnyH_ready (rs := [5]) (by kernel_rfl) (by simp) ?_
   refine AllReadyH.cons rfl (fun K hK => ?_) AllReadyH.nil
   refine step_store_row none rfl rfl 43 (.tmp 4) (.tmp 16) rfl gZ (beg16k 2 3 6 1 0 0 ⟨cAr, 2, kcr⟩).arr rfl rfl 43 ZRun hZ infoRun rfl (Rn.one _) ?_
   refine hK.out _ _ ((setRow_other _ _ _ _ hpz).trans hS) (fun hS => ?_)
   clear hK K
   try simp only [Act.put, List.setIfInBounds_toArray, List.set_cons_succ, List.set_cons_zero]
   refine wpAnyH_done (by kernel_rfl) ?_ _
   go_wp2_with fail
   go_meet
   exact ⟨gZ, cAr, kcr, rfl, hkc, hzZ, setRow_heap _ _ _ _ _ _ hZ, ents_setRow hE hEZ _, hEl, hEZ, below_setRow hB0 hzZ _⟩
 case rest =>
  obtain ⟨g_r, cAr, kcr, rfl, hkc, hlr, hr, hE, hEl, hEr, hb⟩ := hcut
  obtain ⟨w3, hwx⟩ : ∃ x, x = wc := ⟨_, rfl⟩
  subst hwx
  have hlB := B.out.size
  have HKCr := Lib.hid hkc
  clear hkc
  have N_r : Hid (g_r ∉ [p, b, X, q, d]) := Lib.hid (HT.out.fresh hlr)
  have M_h_r : Hid (g_h ≠ g_r) := Lib.hid (by have := lt_of_heap H_h.out; omega)
  have M_r_h : Hid (g_r ≠ g_h) := Lib.hid (by have := lt_of_heap H_h.out; omega)
  have F_cr : Hid (∀ z, 0 < (chE16 2).length → cAr = some z → z.block ∉ [p, b, X, q, d]) := Lib.hid (fun z h0 hz => HT.out.fresh (hEl z h0 hz))
  have F_cr_h : Hid (∀ z, 0 < (chE16 2).length → cAr = some z → z.block ≠ g_h) := Lib.hid (fun z h0 hz => by have := hEl z h0 hz; have := lt_of_heap H_h.out; omega)
  have F_cr_r : Hid (∀ z, 0 < (chE16 2).length → cAr = some z → z.block ≠ g_r) := Lib.hid hEr
  have L_r : Hid (w.heap.size ≤ g_r) := Lib.hid (by omega)
  have E_cr0 := Lib.hid hE
  clear hlr hlB hE hEl hEr
  have hsz := (hb).size
  replace H_h := Lib.hid (row_below H_h.out hb)
  replace HT := Lib.hid (HT.out.below hb)
  replace B := Lib.hid (below_only B.out hb)
  clear hb hsz
  have E_cr := E_cr0
  clear E_cr0
  have H_r := Lib.hid (show w3.heap[g_r]? = some (.cells (beg16k 2 3 6 1 0 0 ⟨cAr, 2, kcr⟩).arr 43 (0, 0)) from hr)
  clear hr
  have HLenr : Hid ((chE16 2).length = 2) := Lib.hid rfl
  have HMJr : Hid ((2 : Nat) < 3 ∧ (3 : Nat) < 12 ∧ (6 : Nat) < 12 ∧ (1 : Nat) < 4) := Lib.hid (by decide)
  obtain ⟨nr, hN1, hN2, hN3, hN4, hRun⟩ := beg16_run (C := c16) (ws := WS) (m := 2) (j := 3) (v := 6) (k := 1) (a := 0) (b := 0) (ch := ⟨cAr, 2, kcr⟩) HLw.out (by have := HMJr.out; omega) (by have := HMJr.out; omega) (by have := HMJr.out; omega) (by have := HMJr.out; omega) (by omega) (by omega)
  have HN_r := Lib.hid (And.intro hN1 (And.intro hN2 (And.intro hN3 hN4)))
  obtain ⟨r0r, Hr0r⟩ : ∃ x : Rn, Hid ((beg16k 2 3 6 1 0 0 ⟨cAr, 2, kcr⟩) = x) := ⟨_, Lib.hid rfl⟩
  have HChr : Hid (r0r.chain = ⟨cAr, 2, kcr⟩) := Lib.hid (by rw [← Hr0r.out]; rfl)
  rw [Hr0r.out] at H_r hRun
  have HRunr := Lib.hid hRun
  clear hN1 hN2 hN3 hN4 hRun
  obtain ⟨cr, Hcr⟩ : ∃ x, Hid (verd c16 2 3 6 1 0 0 = x) := ⟨_, Lib.hid rfl⟩
  rw [Hcr.out] at HN_r HRunr
  obtain ⟨xr, Hxr⟩ : ∃ x, Hid (endX WS 3 (cal16k 1 0 0) cr = x) := ⟨_, Lib.hid rfl⟩
  obtain ⟨wfr, Hwfr⟩ : ∃ x, Hid (endW WS 3 6 (cal16k 1 0 0) cr = x) := ⟨_, Lib.hid rfl⟩
  rw [Hxr.out, Hwfr.out] at HRunr
  have HBNr : Hid (nr ≤ 5) := Lib.hid (Nat.le_trans HN_r.out.1 (bnd16_le _))
  have Hc22 : Hid (cr = 22) := Lib.hid (by rw [← Hcr.out]; exact sh_verd)
  have HN0 : Hid (nr ≠ 0) := Lib.hid (fun e => (HN_r.out.2.2.2.1 e) (by decide))
  go_wp2_with fail
  go_loopw [5] (fun tt wr => ∃ (i : Nat) (rr : Rn) (wn : List Int), tt = .int .i64 i ∧ i ≤ 5 ∧ Run16 c16 (chE16 2) 3 6 WS cr xr wfr nr i rr wn ∧ rr.chain = ⟨cAr, 2, kcr⟩ ∧ wr.heap[g_h]? = some (.cells (hAt 12) 32 (0, 0)) ∧ wr.heap[g_r]? = some (.cells rr.arr 43 (0, 0)) ∧ Ents wr cAr (chE16 2) ∧ TwoW w.heap.size wr p b X q d 4 2 128 512 wn WS ∧ Below w.heap.size w wr) (fun t _ => (5 - intOf t).toNat)
  case atStart => exact ⟨0, r0r, _, rfl, by omega, HRunr.out, HChr.out, H_h.out, H_r.out, E_cr.out, HT.out, B.out⟩
  case round =>
   clear H_h H_r E_cr HT B HRunr HChr
   obtain ⟨i, rr, wn, rfl, hi5, hRun, hCh, hrel⟩ := hrel
   have HRun := Lib.hid hRun
   have HChr := Lib.hid hCh
   clear hRun hCh
   obtain ⟨hq_H_h, hq_H_r, hq_E_cr, hq_HT, hq_B⟩ := hrel
   replace H_h := Lib.hid hq_H_h
   replace H_r := Lib.hid hq_H_r
   replace E_cr := Lib.hid hq_E_cr
   replace HT := Lib.hid hq_HT
   replace B := Lib.hid hq_B
   clear hq_H_h hq_H_r hq_E_cr hq_HT hq_B
   by_cases hiN : i < nr
   ·skip
    obtain ⟨hI, hwn, hnext⟩ := run16_on HRun.out hiN
    rw [hwn] at HT
    clear hwn
    have HI := Lib.hid hI
    have HDn := Lib.hid hI.done
    have Hnext := Lib.hid hnext
    have hlimI : (i : Int) < 5 := by have := HBNr.out; omega
    have hlimB : decide ((i : Int) < 5) = true := decide_eq_true hlimI
    have HiN : Hid (i + 1 ≤ 5) := Lib.hid (by omega)
    clear hI hnext hiN HRun
    have r_21 : wr.cell? ⟨g_r, 21, none⟩ = some (.bool false) := by rw [row_cell H_r.out]; rw [← HDn.out]; rfl
    have z_r := lt_of_heap H_r.out
    go_upto_region 8 with fail
    clear r_21 z_r
    clear hlimI hlimB
    try simp only [Act.put]
    refine wp_region_held_drew (S := fun _ => True) (by kernel_rfl) trivial ?_
    intro hS
    have hT0 : TwoW w.heap.size wr.drew p b X q d 4 2 128 512 WS WS := HT.out.drew
    have hR : wr.drew.heap[g_r]? = some (.cells rr.arr 43 (0, 0)) := H_r.out
    have hH0 : wr.drew.heap[g_h]? = some (.cells (hAt 12) 32 (0, 0)) := H_h.out
    have hE0 : Ents wr.drew cAr (chE16 2) := Ents.below E_cr.out (Below.drew (Below.refl _ _))
    have hB0 : Below w.heap.size w wr.drew := below_drewN B.out 1
    clear HT H_r H_h E_cr B
    generalize wr.drew = y0 at hT0 hR hH0 hE0 hB0 ⊢
    refine tk (i := 1) (v := ?v1x2) (some 28) rfl rfl (Or.inl ⟨by kernel_rfl, ?h1x2⟩) ?r1x2
    case h1x2 => (intro w hSw; (try dsimp only at hSw); go_simp; first | done | (with_reducible rfl))
    try simp only [Act.put, List.setIfInBounds_toArray, List.set_cons_succ, List.set_cons_zero]
    refine wpAnyH_ready (rs := [0, 2]) (by kernel_rfl) (by simp) ?_
    refine AllReadyH.cons rfl (fun K hK => ?_) (AllReadyH.cons rfl (fun K hK => ?_) AllReadyH.nil)
    ·skip
     go_simp
     refine (plan16_any _).mono ?_
     rintro e' yP ⟨rfl, hb⟩
     go_simp
     replace hT0 := hT0.below hb
     replace hR := row_below hR hb
     replace hH0 := row_below hH0 hb
     replace hE0 := Ents.below hE0 hb
     replace hB0 := below_only hB0 hb
     clear hb
     refine hK.out _ _ (trivial) (fun hS => ?_)
     clear hK K
     try simp only [Act.put, List.setIfInBounds_toArray, List.set_cons_succ, List.set_cons_zero]
     refine wpAnyH_ready (rs := [2]) (by kernel_rfl) (by simp) ?_
     refine AllReadyH.cons rfl (fun K hK => ?_) AllReadyH.nil
     refine step_load_row16 (some 29) rfl rfl 43 (.tmp 4) rfl g_r rfl 43 rr.arr (0, 0) _ hR undRun rfl infoRun ?_
     refine hK.out _ _ (trivial) (fun hS => ?_)
     clear hK K
     try simp only [Act.put, List.setIfInBounds_toArray, List.set_cons_succ, List.set_cons_zero]
     refine wpAnyH_ready (rs := [3]) (by kernel_rfl) (by simp) ?_
     refine AllReadyH.cons rfl (fun K hK => ?_) AllReadyH.nil
     go_simp
     refine (slStep_any c16 (chE16 2) 3 6 p b WS rr _ hT0.a HLw.out HI.out (by decide) (by rw [HChr.out]; rfl) (by rw [HChr.out]; exact HKCr.out) (by rw [HChr.out]; exact hE0)).mono ?_
     rintro e' yS ⟨rfl, hA, hK⟩
     go_simp
     replace hR := hK.row hR (by simpa using (hT0.nb N_r.out).1)
     replace hH0 := hK.row hH0 (by simpa using (hT0.nb N_h.out).1)
     replace hE0 := ents_kept hE0 hK (fun z h0 hz => by simpa using (hT0.nb (F_cr.out z h0 hz)).1)
     replace hB0 := hT0.under hB0 hK (by simp)
     replace hT0 := hT0.onA hA hK
     clear hA hK
     refine hK.out _ _ (trivial) (fun hS => ?_)
     clear hK K
     try simp only [Act.put, List.setIfInBounds_toArray, List.set_cons_succ, List.set_cons_zero]
     refine tk (i := 4) (v := ?v4x3) (some 26) rfl rfl (Or.inl ⟨by kernel_rfl, ?h4x3⟩) ?r4x3
     case h4x3 => (intro w hSw; (try dsimp only at hSw); go_simp; first | done | (with_reducible rfl))
     try simp only [Act.put, List.setIfInBounds_toArray, List.set_cons_succ, List.set_cons_zero]
     refine tk (i := 5) (v := ?v5x4) (some 31) rfl rfl (Or.inl ⟨by kernel_rfl, ?h5x4⟩) ?r5x4
     case h5x4 => (intro w hSw; (try dsimp only at hSw); go_simp; first | done | (with_reducible rfl))
     try simp only [Act.put, List.setIfInBounds_toArray, List.set_cons_succ, List.set_cons_zero]
     refine tk (i := 6) (v := ?v6x5) (some 32) rfl rfl (Or.inl ⟨by kernel_rfl, ?h6x5⟩) ?r6x5
     case h6x5 => (intro w hSw; (try dsimp only at hSw); go_simp; first | done | (with_reducible rfl))
     try simp only [Act.put, List.setIfInBounds_toArray, List.set_cons_succ, List.set_cons_zero]
     refine wpAnyH_ready (rs := [7]) (by kernel_rfl) (by simp) ?_
     refine AllReadyH.cons rfl (fun K hK => ?_) AllReadyH.nil
     refine step_store_row none rfl rfl 43 (.tmp 4) (.tmp 31) rfl g_r (slR c16 (chE16 2) WS 3 6 rr).arr rfl rfl 43 rr.arr hR infoRun rfl (Rn.one _) ?_
     refine hK.out _ _ (trivial) (fun hS => ?_)
     clear hK K
     try simp only [Act.put, List.setIfInBounds_toArray, List.set_cons_succ, List.set_cons_zero]
     refine wpAnyH_done (by kernel_rfl) ?_ _
     refine set_row' yS g_r _ _ _ hR ?_
     intro y6 hr hK
     replace hH0 := hK.row hH0 (by simpa using M_h_r.out)
     replace hE0 := ents_kept hE0 hK (fun z h0 hz => by simpa using F_cr_r.out z h0 hz)
     replace hT0 := hT0.kept hK (fun j hj => by simp only [List.mem_singleton] at hj; subst hj; exact N_r.out)
     replace hB0 := Keep.under hB0 hK (by have := hB0.size; omega) (by simp; exact L_r.out)
     have hch2 : (slR c16 (chE16 2) WS 3 6 rr).chain = ⟨cAr, 2, kcr⟩ := by rw [(sl_stays HI.out).1]; exact HChr.out
     have HQ := Lib.hid (And.intro hH0 (And.intro hr (And.intro hE0 (And.intro hT0 (And.intro hB0 hch2)))))
     clear hR hH0 hr hE0 hT0 hB0 hch2 hK
     go_wp2_with fail
     go_roundw
     case rel => exact ⟨i + 1, _, _, by go_num, HiN.out, Hnext.out, HQ.out.2.2.2.2.2, HQ.out.1, HQ.out.2.1, HQ.out.2.2.1, HQ.out.2.2.2.1, HQ.out.2.2.2.2.1⟩
     case measure => have := HiN.out; simp [intOf]; omega
    ·skip
     refine step_load_row16 (some 29) rfl rfl 43 (.tmp 4) rfl g_r rfl 43 rr.arr (0, 0) _ hR undRun rfl infoRun ?_
     refine hK.out _ _ (trivial) (fun hS => ?_)
     clear hK K
     try simp only [Act.put, List.setIfInBounds_toArray, List.set_cons_succ, List.set_cons_zero]
     refine wpAnyH_ready (rs := [0]) (by kernel_rfl) (by simp) ?_
     refine AllReadyH.cons rfl (fun K hK => ?_) AllReadyH.nil
     go_simp
     refine (plan16_any _).mono ?_
     rintro e' yP ⟨rfl, hb⟩
     go_simp
     replace hT0 := hT0.below hb
     replace hR := row_below hR hb
     replace hH0 := row_below hH0 hb
     replace hE0 := Ents.below hE0 hb
     replace hB0 := below_only hB0 hb
     clear hb
     refine hK.out _ _ (trivial) (fun hS => ?_)
     clear hK K
     try simp only [Act.put, List.setIfInBounds_toArray, List.set_cons_succ, List.set_cons_zero]
     refine wpAnyH_ready (rs := [3]) (by kernel_rfl) (by simp) ?_
     refine AllReadyH.cons rfl (fun K hK => ?_) AllReadyH.nil
     go_simp
     refine (slStep_any c16 (chE16 2) 3 6 p b WS rr _ hT0.a HLw.out HI.out (by decide) (by rw [HChr.out]; rfl) (by rw [HChr.out]; exact HKCr.out) (by rw [HChr.out]; exact hE0)).mono ?_
     rintro e' yS ⟨rfl, hA, hK⟩
     go_simp
     replace hR := hK.row hR (by simpa using (hT0.nb N_r.out).1)
     replace hH0 := hK.row hH0 (by simpa using (hT0.nb N_h.out).1)
     replace hE0 := ents_kept hE0 hK (fun z h0 hz => by simpa using (hT0.nb (F_cr.out z h0 hz)).1)
     replace hB0 := hT0.under hB0 hK (by simp)
     replace hT0 := hT0.onA hA hK
     clear hA hK
     refine hK.out _ _ (trivial) (fun hS => ?_)
     clear hK K
     try simp only [Act.put, List.setIfInBounds_toArray, List.set_cons_succ, List.set_cons_zero]
     refine tk (i := 4) (v := ?v4x6) (some 26) rfl rfl (Or.inl ⟨by kernel_rfl, ?h4x6⟩) ?r4x6
     case h4x6 => (intro w hSw; (try dsimp only at hSw); go_simp; first | done | (with_reducible rfl))
     try simp only [Act.put, List.setIfInBounds_toArray, List.set_cons_succ, List.set_cons_zero]
     refine tk (i := 5) (v := ?v5x7) (some 31) rfl rfl (Or.inl ⟨by kernel_rfl, ?h5x7⟩) ?r5x7
     case h5x7 => (intro w hSw; (try dsimp only at hSw); go_simp; first | done | (with_reducible rfl))
     try simp only [Act.put, List.setIfInBounds_toArray, List.set_cons_succ, List.set_cons_zero]
     refine tk (i := 6) (v := ?v6x8) (some 32) rfl rfl (Or.inl ⟨by kernel_rfl, ?h6x8⟩) ?r6x8
     case h6x8 => (intro w hSw; (try dsimp only at hSw); go_simp; first | done | (with_reducible rfl))
     try simp only [Act.put, List.setIfInBounds_toArray, List.set_cons_succ, List.set_cons_zero]
     refine wpAnyH_ready (rs := [7]) (by kernel_rfl) (by simp) ?_
     refine AllReadyH.cons rfl (fun K hK => ?_) AllReadyH.nil
     refine step_store_row none rfl rfl 43 (.tmp 4) (.tmp 31) rfl g_r (slR c16 (chE16 2) WS 3 6 rr).arr rfl rfl 43 rr.arr hR infoRun rfl (Rn.one _) ?_
     refine hK.out _ _ (trivial) (fun hS => ?_)
     clear hK K
     try simp only [Act.put, List.setIfInBounds_toArray, List.set_cons_succ, List.set_cons_zero]
     refine wpAnyH_done (by kernel_rfl) ?_ _
     refine set_row' yS g_r _ _ _ hR ?_
     intro y6 hr hK
     replace hH0 := hK.row hH0 (by simpa using M_h_r.out)
     replace hE0 := ents_kept hE0 hK (fun z h0 hz => by simpa using F_cr_r.out z h0 hz)
     replace hT0 := hT0.kept hK (fun j hj => by simp only [List.mem_singleton] at hj; subst hj; exact N_r.out)
     replace hB0 := Keep.under hB0 hK (by have := hB0.size; omega) (by simp; exact L_r.out)
     have hch2 : (slR c16 (chE16 2) WS 3 6 rr).chain = ⟨cAr, 2, kcr⟩ := by rw [(sl_stays HI.out).1]; exact HChr.out
     have HQ := Lib.hid (And.intro hH0 (And.intro hr (And.intro hE0 (And.intro hT0 (And.intro hB0 hch2)))))
     clear hR hH0 hr hE0 hT0 hB0 hch2 hK
     go_wp2_with fail
     go_roundw
     case rel => exact ⟨i + 1, _, _, by go_num, HiN.out, Hnext.out, HQ.out.2.2.2.2.2, HQ.out.1, HQ.out.2.1, HQ.out.2.2.1, HQ.out.2.2.2.1, HQ.out.2.2.2.2.1⟩
     case measure => have := HiN.out; simp [intOf]; omega
   ·skip
    obtain ⟨hiE, hcd, hax, hwf, hdn⟩ := run16_end HRun.out hiN
    have hdn2 : rr.done = true := by
     rcases hdn with h | h
     ·exact h.1
     ·exact absurd h.2.2 HN0.out
    have HFin := Lib.hid (And.intro hdn2 (hcd.trans Hc22.out))
    clear hiE hcd hax hwf hdn hdn2 HRun hiN
    have r_21 : wr.cell? ⟨g_r, 21, none⟩ = some (.bool true) := by rw [row_cell H_r.out]; rw [← HFin.out.1]; rfl
    have r_23 : wr.cell? ⟨g_r, 23, none⟩ = some (.int .i64 22) := by rw [row_cell H_r.out]; rw [← HFin.out.2]; rfl
    have z_r := lt_of_heap H_r.out
    by_cases hi : (i : Int) < 5
    ·have hiB : decide ((i : Int) < 5) = true := decide_eq_true hi
     have B2 := B.out
     clear B
     go_wp2_with fail
     go_ret
     exact ⟨rfl, B2⟩
    ·have hiB : decide ((i : Int) < 5) = false := decide_eq_false hi
     have B2 := B.out
     clear B
     go_wp2_with fail
     go_ret
     exact ⟨rfl, B2⟩
end Go.Proofs.YtnimaajnlkbdaaaGreat
