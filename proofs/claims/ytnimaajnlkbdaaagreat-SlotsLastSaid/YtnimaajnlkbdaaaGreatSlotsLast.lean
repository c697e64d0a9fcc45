/- Layer 16: the walk of SlotsLast. (Printed.) -/
import Derived.Test.YtnimaajnlkbdaaaGreatMU
import Derived.Test.YtnimaajnlkbdaaaGreatMP
import Derived.Test.YtnimaajnlkbdaaaGreatSlL
import Derived.Test.YtnimaajnlkbdaaaGreatTwo
import Derived.BigQuiet
namespace Go.Proofs.YtnimaajnlkbdaaaGreat
open Go.RowKit
set_option linter.unusedVariables false
set_option linter.unusedSimpArgs false

theorem infoBy2 : (Tryz.prog.info? 68).map (·.size) = some 2 := by kernel_rfl
theorem two_cell {w : World} {g k : Nat} {t : TypeId} {va vb vk : Nat} {vx : Nat → Nat} (h : w.heap[g]? = some (.cells #[.int .u8 (va : Int), .int .u8 (vb : Int)] t (0, 0))) (hk : k < 2) (h0 : vx 0 = va) (h1 : vx 1 = vb) (hv : vx k = vk) : w.cell? ⟨g, k, none⟩ = some (.int .u8 (vk : Int)) := by
 rw [row_cell h]
 obtain rfl | rfl : k = 0 ∨ k = 1 := by omega
 ·rw [← hv, h0]; rfl
 ·rw [← hv, h1]; rfl
set_option maxRecDepth 100000 in
set_option maxHeartbeats 8000000 in
theorem slotsLast_walk (c0 c1 c2 c3 tn : Int) (w : World) (z0 : (Lit.int .u8 c0).wf = true) (z1 : (Lit.int .u8 c1).wf = true) (z2 : (Lit.int .u8 c2).wf = true) (z3 : (Lit.int .u8 c3).wf = true) (z4 : (Lit.int .u16 tn).wf = true) :
  Calls Tryz.prog 6 #[.agg #[.int .u8 c0, .int .u8 c1, .int .u8 c2, .int .u8 c3], .int .u16 tn] w fun r w' => r = .returned (.bool true) ∧ Below w.heap.size w w' := by
 have h0 := wf_u8 z0
 have h1 := wf_u8 z1
 have h2 := wf_u8 z2
 have h3 := wf_u8 z3
 have htn := wf_u16 z4
 clear z0 z1 z2 z3 z4
 obtain ⟨iN, Hi⟩ : ∃ s : Nat, Hid (c0 % 9 = (s : Int) ∧ s < 9) := ⟨(c0 % 9).toNat, Lib.hid (by omega)⟩
 obtain ⟨di, Hdi⟩ : ∃ s : Nat, Hid (iN / 3 = s) := ⟨_, Lib.hid rfl⟩
 have dib : di ≤ 2 := by have := Hdi.out; have := Hi.out; omega
 obtain ⟨mo, Hmo⟩ : ∃ s : Nat, Hid (3 * (di + 1) = s ∧ 3 ≤ s ∧ s ≤ 9) := ⟨_, Lib.hid ⟨rfl, by omega, by omega⟩⟩
 obtain ⟨va, Hva⟩ : ∃ s : Nat, Hid (c1 % (mo : Int) = (s : Int) ∧ s < mo) := ⟨(c1 % (mo : Int)).toNat, Lib.hid (by have := Hmo.out; have h4 := Int.emod_nonneg c1 (show (mo : Int) ≠ 0 by omega); have h5 := Int.emod_lt_of_pos c1 (show (0 : Int) < mo by omega); omega)⟩
 obtain ⟨vb, Hvb⟩ : ∃ s : Nat, Hid (c2 % (mo : Int) = (s : Int) ∧ s < mo) := ⟨(c2 % (mo : Int)).toNat, Lib.hid (by have := Hmo.out; have h4 := Int.emod_nonneg c2 (show (mo : Int) ≠ 0 by omega); have h5 := Int.emod_lt_of_pos c2 (show (0 : Int) < mo by omega); omega)⟩
 obtain ⟨bN, HbN⟩ : ∃ s : Nat, Hid (c3 % 2 = (s : Int) ∧ s < 2) := ⟨(c3 % 2).toNat, Lib.hid (by omega)⟩
 obtain ⟨vx, Hvx⟩ : ∃ f : Nat → Nat, Hid (f 0 = va ∧ f 1 = vb ∧ ∀ x, x < 2 → f x < 9 ∧ f x / 3 ≤ iN / 3) := ⟨fun x => if x = 0 then va else vb, Lib.hid ⟨rfl, rfl, fun x _ => by
  have := Hva.out; have := Hvb.out; have := Hmo.out; have := Hdi.out
  dsimp only
  split <;> omega⟩⟩
 have w3 : IntKind.i64.wrap c3 = c3 := IntWalk.i64_in _ (by omega)
 have e0 : c0.tmod 9 = (iN : Int) := by rw [Int.tmod_eq_emod_of_nonneg h0.1]; exact Hi.out.1
 have edi : ((iN : Int)).tdiv 3 = (di : Int) := by rw [Int.tdiv_eq_ediv_of_nonneg (by omega), ← Hdi.out]; omega
 have diw : IntKind.u8.wrap (di : Int) = (di : Int) := by rw [IntKind.wrap_u8]; omega
 have diw1 : IntKind.u8.wrap ((di : Int) + 1) = (di : Int) + 1 := by rw [IntKind.wrap_u8]; omega
 have emo : IntKind.u8.wrap (3 * ((di : Int) + 1)) = (mo : Int) := by rw [IntKind.wrap_u8]; have := Hmo.out; omega
 have eva : c1.tmod (mo : Int) = (va : Int) := by rw [Int.tmod_eq_emod_of_nonneg h1.1]; exact Hva.out.1
 have evb : c2.tmod (mo : Int) = (vb : Int) := by rw [Int.tmod_eq_emod_of_nonneg h2.1]; exact Hvb.out.1
 have e3 : c3.tmod 2 = (bN : Int) := by rw [Int.tmod_eq_emod_of_nonneg h3.1]; exact HbN.out.1
 have mo0 : ((mo : Int) == 0) = false := by have := Hmo.out; simp; omega
 have mo1 : decide ((mo : Int) = 0) = false := decide_eq_false (by have := Hmo.out; omega)
 have mo2 : decide (mo = 0) = false := decide_eq_false (by have := Hmo.out; omega)
 have mo3 : ¬ mo = 0 := by have := Hmo.out; omega
 obtain ⟨tn0, tn1⟩ := htn
 clear h0 h1 h2 h3
 go_enter Tryz.func6, Tryz.ntmps6
 have B := Lib.hid (Below.refl w.heap.size w)
 go_upto_region 1 with fail
 refine one_row w _ _ ?_
 intro w0 hr hb
 have hlB := B.out.size
 have hsz := (hb).size
 replace B := Lib.hid (below_only B.out hb)
 clear hb hsz
 have H_c := Lib.hid (show w0.heap[w.heap.size]? = some (.cells #[.int .u8 c0, .int .u8 c1, .int .u8 c2, .int .u8 c3] 64 (0, 0)) from hr)
 clear hr
 obtain ⟨g_c, hg_c⟩ : ∃ x, x = w.heap.size := ⟨_, rfl⟩
 rw [← hg_c] at H_c ⊢
 have L_c : Hid (w.heap.size ≤ g_c) := Lib.hid (by omega)
 clear hg_c hlB
 go_wp2_with fail
 refine (shown16_any _).mono ?_
 rintro r w1 ⟨rfl, hb⟩
 have hsz := (hb).size
 replace H_c := Lib.hid (row_below H_c.out hb)
 replace B := Lib.hid (below_only B.out hb)
 clear hb hsz
 go_wp2_with fail
 refine (plan16_any _).mono ?_
 rintro r w1a ⟨rfl, hb⟩
 have hsz := (hb).size
 replace H_c := Lib.hid (row_below H_c.out hb)
 replace B := Lib.hid (below_only B.out hb)
 clear hb hsz
 go_upto_region 3 with fail
 refine one_row w1a _ _ ?_
 intro w2 hr hb
 have hlB := B.out.size
 have hl_c := lt_of_heap H_c.out
 have hsz := (hb).size
 replace H_c := Lib.hid (row_below H_c.out hb)
 replace B := Lib.hid (below_only B.out hb)
 clear hb hsz
 have H_p := Lib.hid (show w2.heap[w1a.heap.size]? = some (.cells #[.int .i64 4, .int .i64 2, .int .i64 128, .int .i64 512] 28 (0, 0)) from hr)
 clear hr
 obtain ⟨g_p, hg_p⟩ : ∃ x, x = w1a.heap.size := ⟨_, rfl⟩
 rw [← hg_p] at H_p ⊢
 have M_c_p : Hid (g_c ≠ g_p) := Lib.hid (by omega)
 have M_p_c : Hid (g_p ≠ g_c) := Lib.hid (by omega)
 clear hl_c
 have L_p : Hid (w.heap.size ≤ g_p) := Lib.hid (by omega)
 clear hg_p hlB
 go_wp2_with fail
 refine (laid_any _).mono ?_
 rintro r w3 ⟨p, b, X, q, d, rfl, hT, hb⟩
 have HT0 := Lib.hid hT
 have HBB := Lib.hid B.out.size
 clear hT
 obtain ⟨wl, hwl⟩ : ∃ x, x = w2.heap.size := ⟨_, rfl⟩
 have hl_c := lt_of_heap H_c.out
 have hl_p := lt_of_heap H_p.out
 rw [← hwl] at HT0 HBB hl_c hl_p
 have hsz := (hb).size
 replace H_c := Lib.hid (row_below H_c.out hb)
 replace H_p := Lib.hid (row_below H_p.out hb)
 replace B := Lib.hid (below_only B.out hb)
 clear hb hsz
 have N_c : Hid (g_c ∉ [p, b, X, q, d]) := Lib.hid (HT0.out.elder hl_c)
 clear hl_c
 have N_p : Hid (g_p ∉ [p, b, X, q, d]) := Lib.hid (HT0.out.elder hl_p)
 clear hl_p
 have HT : Hid (TwoW w.heap.size w3 p b X q d 4 2 128 512 (oW 9) (oW 9)) := Lib.hid { HT0.out with low := by have := HT0.out.low; have := HBB.out; omega }
 clear HT0 hwl HBB
 obtain ⟨WS, HWS⟩ : ∃ x, Hid (oW 9 = x) := ⟨_, Lib.hid rfl⟩
 have HLw : Hid (Lw c16 WS) := Lib.hid (by rw [← HWS.out]; exact laid_lw)
 rw [HWS.out] at HT
 go_upto_region 4 with (first | (refine allocTo16 rfl 32 rfl _ (allocH12 _) ?_; (try simp only [Act.put, List.setIfInBounds_toArray, List.set_cons_succ, List.set_cons_zero])) | (refine wpList_store_row rfl 32 (.tmp 9) (.tmp 30) rfl w3.heap.size (hAt 12) rfl rfl 32 (hAt 0) (row_new _ _ _) infoH12 rfl (hAt_one 12) ?_; (try simp only [Act.put, List.setIfInBounds_toArray, List.set_cons_succ, List.set_cons_zero])))
 refine alloc_set' w3 _ _ _ ?_
 intro w4 hr hb
 have hlB := B.out.size
 have hfr := HT.out.fresh (Nat.le_refl w3.heap.size)
 have hl_c := lt_of_heap H_c.out
 have hl_p := lt_of_heap H_p.out
 have hsz := (hb).size
 replace H_c := Lib.hid (row_below H_c.out hb)
 replace H_p := Lib.hid (row_below H_p.out hb)
 replace HT := Lib.hid (HT.out.below hb)
 replace B := Lib.hid (below_only B.out hb)
 clear hb hsz
 have H_h := Lib.hid (show w4.heap[w3.heap.size]? = some (.cells (hAt 12) 32 (0, 0)) from hr)
 clear hr
 obtain ⟨g_h, hg_h⟩ : ∃ x, x = w3.heap.size := ⟨_, rfl⟩
 rw [← hg_h] at H_h ⊢
 have N_h : Hid (g_h ∉ [p, b, X, q, d]) := Lib.hid (by rw [hg_h]; exact hfr)
 clear hfr
 have M_c_h : Hid (g_c ≠ g_h) := Lib.hid (by omega)
 have M_h_c : Hid (g_h ≠ g_c) := Lib.hid (by omega)
 clear hl_c
 have M_p_h : Hid (g_p ≠ g_h) := Lib.hid (by omega)
 have M_h_p : Hid (g_h ≠ g_p) := Lib.hid (by omega)
 clear hl_p
 have L_h : Hid (w.heap.size ≤ g_h) := Lib.hid (by omega)
 clear hg_h hlB
 obtain ⟨c_0, c_1, c_2, c_3, c_f0, c_f1, c_f2, c_f3⟩ := box4 H_c.out
 have z_c := lt_of_heap H_c.out
 go_upto_region 8 with fail
 clear c_0 c_1 c_2 c_3 c_f0 c_f1 c_f2 c_f3 z_c
 try simp only [Act.put]
 go_cut [12] from 44 to 52 (fun vd wx => ∃ gv, vd = .pointer (some ⟨gv, 0, none⟩) ∧ w4.heap.size ≤ gv ∧ wx.heap[gv]? = some (.cells #[.int .u8 (va : Int), .int .u8 (vb : Int)] 68 (0, 0)) ∧ Below w4.heap.size w4 wx)
 case first =>
  refine wp_region_held_drew (S := fun W' => W'.heap[g_c]? = some (.cells #[.int .u8 c0, .int .u8 c1, .int .u8 c2, .int .u8 c3] 64 (0, 0))) (by kernel_rfl) (show w4.drew.heap[g_c]? = _ from H_c.out) ?_
  intro hS
  have hB0 : Below w4.heap.size w4 w4.drew := Below.drew (Below.refl _ _)
  generalize w4.drew = y0 at hS hB0 ⊢
  refine tk (i := 0) (v := ?v0x1) (some 44) rfl rfl (Or.inl ⟨by kernel_rfl, ?h0x1⟩) ?r0x1
  case h0x1 => (intro w' hSw; obtain ⟨x0, x1, x2, x3, _⟩ := box4 hSw; have zf := lt_of_heap hSw; go_simp; first | done | (with_reducible rfl))
  try simp only [Act.put, List.setIfInBounds_toArray, List.set_cons_succ, List.set_cons_zero]
  refine tk (i := 1) (v := ?v1x2) (some 45) rfl rfl (Or.inl ⟨by kernel_rfl, ?h1x2⟩) ?r1x2
  case h1x2 => (intro w' hSw; obtain ⟨x0, x1, x2, x3, _⟩ := box4 hSw; have zf := lt_of_heap hSw; go_simp; first | done | (with_reducible rfl))
  try simp only [Act.put, List.setIfInBounds_toArray, List.set_cons_succ, List.set_cons_zero]
  refine tk (i := 2) (v := ?v2x3) (some 46) rfl rfl (Or.inl ⟨by kernel_rfl, ?h2x3⟩) ?r2x3
  case h2x3 => (intro w' hSw; obtain ⟨x0, x1, x2, x3, _⟩ := box4 hSw; have zf := lt_of_heap hSw; go_simp; first | done | (with_reducible rfl))
  try simp only [Act.put, List.setIfInBounds_toArray, List.set_cons_succ, List.set_cons_zero]
  refine tk (i := 3) (v := ?v3x4) (some 47) rfl rfl (Or.inl ⟨by kernel_rfl, ?h3x4⟩) ?r3x4
  case h3x4 => (intro w' hSw; obtain ⟨x0, x1, x2, x3, _⟩ := box4 hSw; have zf := lt_of_heap hSw; go_simp; first | done | (with_reducible rfl))
  try simp only [Act.put, List.setIfInBounds_toArray, List.set_cons_succ, List.set_cons_zero]
  refine tk (i := 4) (v := ?v4x5) (some 48) rfl rfl (Or.inl ⟨by kernel_rfl, ?h4x5⟩) ?r4x5
  case h4x5 => (intro w' hSw; obtain ⟨x0, x1, x2, x3, _⟩ := box4 hSw; have zf := lt_of_heap hSw; go_simp; first | done | (with_reducible rfl))
  try simp only [Act.put, List.setIfInBounds_toArray, List.set_cons_succ, List.set_cons_zero]
  refine tk (i := 5) (v := ?v5x6) (some 49) rfl rfl (Or.inl ⟨by kernel_rfl, ?h5x6⟩) ?r5x6
  case h5x6 => (intro w' hSw; obtain ⟨x0, x1, x2, x3, _⟩ := box4 hSw; have zf := lt_of_heap hSw; go_simp; first | done | (with_reducible rfl))
  try simp only [Act.put, List.setIfInBounds_toArray, List.set_cons_succ, List.set_cons_zero]
  refine tk (i := 6) (v := ?v6x7) (some 50) rfl rfl (Or.inl ⟨by kernel_rfl, ?h6x7⟩) ?r6x7
  case h6x7 => (intro w' hSw; obtain ⟨x0, x1, x2, x3, _⟩ := box4 hSw; have zf := lt_of_heap hSw; go_simp; first | done | (with_reducible rfl))
  try simp only [Act.put, List.setIfInBounds_toArray, List.set_cons_succ, List.set_cons_zero]
  refine tk (i := 7) (v := ?v7x8) (some 51) rfl rfl (Or.inl ⟨by kernel_rfl, ?h7x8⟩) ?r7x8
  case h7x8 => (intro w' hSw; obtain ⟨x0, x1, x2, x3, _⟩ := box4 hSw; have zf := lt_of_heap hSw; go_simp; first | done | (with_reducible rfl))
  try simp only [Act.put, List.setIfInBounds_toArray, List.set_cons_succ, List.set_cons_zero]
  refine tk (i := 8) (v := ?v8x9) (some 52) rfl rfl (Or.inl ⟨by kernel_rfl, ?h8x9⟩) ?r8x9
  case h8x9 => (intro w' hSw; obtain ⟨x0, x1, x2, x3, _⟩ := box4 hSw; have zf := lt_of_heap hSw; go_simp; first | done | (with_reducible rfl))
  try simp only [Act.put, List.setIfInBounds_toArray, List.set_cons_succ, List.set_cons_zero]
  refine wpAnyH_ready (rs := [9]) (by kernel_rfl) (by simp) ?_
  refine AllReadyH.cons rfl (fun K hK => ?_) AllReadyH.nil
  go_simp
  refine k_alloc (fun yZ hZ hb => ?_)
  have hgZ : w4.heap.size ≤ y0.heap.size := hB0.size
  replace hB0 := below_only hB0 hb
  obtain ⟨gZ, HgZ⟩ : ∃ x, x = y0.heap.size := ⟨_, rfl⟩
  have hS1 := row_below hS hb
  have hne : g_c ≠ gZ := by have := lt_of_heap hS; omega
  rw [← HgZ] at hZ hgZ ⊢
  clear HgZ hb
  refine hK.out _ _ (hS1) (fun hS => ?_)
  clear hK K
  try simp only [Act.put, List.setIfInBounds_toArray, List.set_cons_succ, List.set_cons_zero]
  clear hS1
  refine wpAnyH_ready (rs := [10]) (by kernel_rfl) (by simp) ?_
  refine AllReadyH.cons rfl (fun K hK => ?_) AllReadyH.nil
  refine step_store_row none rfl rfl 68 (.tmp 12) (.tmp 52) rfl gZ #[.int .u8 (va : Int), .int .u8 (vb : Int)] rfl rfl 68 _ hZ infoBy2 rfl (by simp [Value.oneCell']) ?_
  refine hK.out _ _ ((setRow_other _ _ _ _ hne).trans hS) (fun hS => ?_)
  clear hK K
  try simp only [Act.put, List.setIfInBounds_toArray, List.set_cons_succ, List.set_cons_zero]
  refine wpAnyH_done (by kernel_rfl) ?_ _
  go_wp2_with fail
  go_meet
  exact ⟨gZ, rfl, hgZ, setRow_heap _ _ _ _ _ _ hZ, below_setRow hB0 hgZ _⟩
 case rest =>
  obtain ⟨g_v, rfl, hlv, hr, hb⟩ := hcut
  obtain ⟨w5, hwx⟩ : ∃ x, x = wc := ⟨_, rfl⟩
  subst hwx
  have hlB := B.out.size
  have N_v : Hid (g_v ∉ [p, b, X, q, d]) := Lib.hid (HT.out.fresh hlv)
  have L_v : Hid (w.heap.size ≤ g_v) := Lib.hid (by omega)
  have M_c_v : Hid (g_c ≠ g_v) := Lib.hid (by have := lt_of_heap H_c.out; omega)
  have M_v_c : Hid (g_v ≠ g_c) := Lib.hid (by have := lt_of_heap H_c.out; omega)
  have M_p_v : Hid (g_p ≠ g_v) := Lib.hid (by have := lt_of_heap H_p.out; omega)
  have M_v_p : Hid (g_v ≠ g_p) := Lib.hid (by have := lt_of_heap H_p.out; omega)
  have M_h_v : Hid (g_h ≠ g_v) := Lib.hid (by have := lt_of_heap H_h.out; omega)
  have M_v_h : Hid (g_v ≠ g_h) := Lib.hid (by have := lt_of_heap H_h.out; omega)
  clear hlv hlB
  have hsz := (hb).size
  replace H_c := Lib.hid (row_below H_c.out hb)
  replace H_p := Lib.hid (row_below H_p.out hb)
  replace H_h := Lib.hid (row_below H_h.out hb)
  replace HT := Lib.hid (HT.out.below hb)
  replace B := Lib.hid (below_only B.out hb)
  clear hb hsz
  have H_v := Lib.hid (show w5.heap[g_v]? = some (.cells #[.int .u8 (va : Int), .int .u8 (vb : Int)] 68 (0, 0)) from hr)
  clear hr
  go_upto_region 10 with (first | (refine wpList_build_to rfl 44 _ rfl (runsA [zRn, zRn]) (by simp only [List.map_toArray, List.map_nil]; exact built_z2) ?_; (try simp only [Act.put, List.setIfInBounds_toArray, List.set_cons_succ, List.set_cons_zero])) | (refine wpList_alloc_to rfl 44 rfl _ (alloc2R _) ?_; (try simp only [Act.put, List.setIfInBounds_toArray, List.set_cons_succ, List.set_cons_zero])) | (refine wpList_store_row rfl 44 (.tmp 13) (.tmp 53) rfl w5.heap.size (runsA [zRn, zRn]) rfl rfl 44 _ (row_new _ _ _) info2R rfl (runs_one _) ?_; (try simp only [Act.put, List.setIfInBounds_toArray, List.set_cons_succ, List.set_cons_zero])))
  refine alloc_set' w5 _ _ _ ?_
  intro w6 hr hb
  have hlB := B.out.size
  have hfr := HT.out.fresh (Nat.le_refl w5.heap.size)
  have hl_c := lt_of_heap H_c.out
  have hl_p := lt_of_heap H_p.out
  have hl_h := lt_of_heap H_h.out
  have hl_v := lt_of_heap H_v.out
  have hsz := (hb).size
  replace H_c := Lib.hid (row_below H_c.out hb)
  replace H_p := Lib.hid (row_below H_p.out hb)
  replace H_h := Lib.hid (row_below H_h.out hb)
  replace H_v := Lib.hid (row_below H_v.out hb)
  replace HT := Lib.hid (HT.out.below hb)
  replace B := Lib.hid (below_only B.out hb)
  clear hb hsz
  have H_g := Lib.hid (show w6.heap[w5.heap.size]? = some (.cells (runsA [zRn, zRn]) 44 (0, 0)) from hr)
  clear hr
  obtain ⟨g_g, hg_g⟩ : ∃ x, x = w5.heap.size := ⟨_, rfl⟩
  rw [← hg_g] at H_g ⊢
  have N_g : Hid (g_g ∉ [p, b, X, q, d]) := Lib.hid (by rw [hg_g]; exact hfr)
  clear hfr
  have M_c_g : Hid (g_c ≠ g_g) := Lib.hid (by omega)
  have M_g_c : Hid (g_g ≠ g_c) := Lib.hid (by omega)
  clear hl_c
  have M_p_g : Hid (g_p ≠ g_g) := Lib.hid (by omega)
  have M_g_p : Hid (g_g ≠ g_p) := Lib.hid (by omega)
  clear hl_p
  have M_h_g : Hid (g_h ≠ g_g) := Lib.hid (by omega)
  have M_g_h : Hid (g_g ≠ g_h) := Lib.hid (by omega)
  clear hl_h
  have M_v_g : Hid (g_v ≠ g_g) := Lib.hid (by omega)
  have M_g_v : Hid (g_g ≠ g_v) := Lib.hid (by omega)
  clear hl_v
  have L_g : Hid (w.heap.size ≤ g_g) := Lib.hid (by omega)
  clear hg_g hlB
  obtain ⟨FF, HFF⟩ : ∃ x, Hid (x = [b, g_g]) := ⟨_, Lib.hid rfl⟩
  have HS0 : Hid (AllS iN (bN : Int) vx (fun _ => 0) 0 w6 FF [zRn, zRn]) := Lib.hid ⟨rfl, fun x hx => by omega⟩
  go_wp2_with fail
  go_loopw [14] (fun tt wr => ∃ (k : Nat) (l : List Rn), k ≤ 2 ∧ tt = .int .i64 k ∧ AllS iN (bN : Int) vx (fun _ => 0) k wr FF l ∧ wr.heap[g_g]? = some (.cells (runsA l) 44 (0, 0)) ∧ wr.heap[g_c]? = some (.cells #[.int .u8 c0, .int .u8 c1, .int .u8 c2, .int .u8 c3] 64 (0, 0)) ∧ wr.heap[g_p]? = some (.cells #[.int .i64 4, .int .i64 2, .int .i64 128, .int .i64 512] 28 (0, 0)) ∧ wr.heap[g_h]? = some (.cells (hAt 12) 32 (0, 0)) ∧ wr.heap[g_v]? = some (.cells #[.int .u8 (va : Int), .int .u8 (vb : Int)] 68 (0, 0)) ∧ TwoW w.heap.size wr p b X q d 4 2 128 512 WS WS ∧ Below w.heap.size w wr) (fun t _ => (2 - intOf t).toNat)
  case atStart => exact ⟨0, _, by omega, rfl, HS0.out, H_g.out, H_c.out, H_p.out, H_h.out, H_v.out, HT.out, B.out⟩
  case round =>
   clear H_c H_p H_h H_v HT B H_g HS0
   obtain ⟨k, l, hk2, rfl, hS, hg, hrel⟩ := hrel
   have HAl := Lib.hid hS
   have H_g := Lib.hid hg
   clear hS hg
   obtain ⟨hq_H_c, hq_H_p, hq_H_h, hq_H_v, hq_HT, hq_B⟩ := hrel
   replace H_c := Lib.hid hq_H_c
   replace H_p := Lib.hid hq_H_p
   replace H_h := Lib.hid hq_H_h
   replace H_v := Lib.hid hq_H_v
   replace HT := Lib.hid hq_HT
   replace B := Lib.hid hq_B
   clear hq_H_c hq_H_p hq_H_h hq_H_v hq_HT hq_B
   by_cases hlt : k < 2
   ·skip
    have hkI : (k : Int) < 2 := by omega
    have hkI0 : (0 : Int) ≤ (k : Int) := by omega
    have hkB : decide ((2 : Int) ≤ (k : Int)) = false := decide_eq_false (by omega)
    have Hk := Lib.hid hlt
    obtain ⟨vk, Hvk⟩ : ∃ s : Nat, Hid (vx k = s ∧ s < 9 ∧ s / 3 ≤ iN / 3) := ⟨vx k, Lib.hid ⟨rfl, Hvx.out.2.2 k hlt⟩⟩
    go_upto_region 13 with fail
    try simp only [Act.put]
    refine wp_region_held_drew (S := fun W' => W'.heap[g_p]? = some (.cells #[.int .i64 4, .int .i64 2, .int .i64 128, .int .i64 512] 28 (0, 0)) ∧ W'.heap[g_h]? = some (.cells (hAt 12) 32 (0, 0)) ∧ W'.heap[g_v]? = some (.cells #[.int .u8 (va : Int), .int .u8 (vb : Int)] 68 (0, 0)) ∧ W'.heap[g_c]? = some (.cells #[.int .u8 c0, .int .u8 c1, .int .u8 c2, .int .u8 c3] 64 (0, 0))) (by kernel_rfl) (show wr.drew.heap[g_p]? = _ ∧ wr.drew.heap[g_h]? = _ ∧ wr.drew.heap[g_v]? = _ ∧ wr.drew.heap[g_c]? = _ from ⟨H_p.out, H_h.out, H_v.out, H_c.out⟩) ?_
    intro hS
    have hG0 : wr.drew.heap[g_g]? = some (.cells (runsA l) 44 (0, 0)) := H_g.out
    have hK0 : Keep [g_g] wr wr.drew := (Keep.refl _ _).drew
    have hT0 : TwoW w.heap.size wr.drew p b X q d 4 2 128 512 WS WS := HT.out.drew
    generalize wr.drew = y0 at hS hG0 hK0 hT0 ⊢
    refine tk (i := 0) (v := ?v0x10) (some 58) rfl rfl (Or.inl ⟨by kernel_rfl, ?h0x10⟩) ?r0x10
    case h0x10 => (intro w' hSw; obtain ⟨s1, s2, s3, s4⟩ := hSw; obtain ⟨p0, p1, p2, p3, _⟩ := box4 s1; have zp := lt_of_heap s1; have cv := two_cell s3 Hk.out Hvx.out.1 Hvx.out.2.1 Hvk.out.1; obtain ⟨x0, x1, x2, x3, _⟩ := box4 s4; have zf := lt_of_heap s4; have zv := lt_of_heap s3; go_simp; first | done | (with_reducible rfl))
    try simp only [Act.put, List.setIfInBounds_toArray, List.set_cons_succ, List.set_cons_zero]
    refine tk (i := 1) (v := ?v1x11) (some 59) rfl rfl (Or.inl ⟨by kernel_rfl, ?h1x11⟩) ?r1x11
    case h1x11 => (intro w' hSw; obtain ⟨s1, s2, s3, s4⟩ := hSw; obtain ⟨p0, p1, p2, p3, _⟩ := box4 s1; have zp := lt_of_heap s1; have cv := two_cell s3 Hk.out Hvx.out.1 Hvx.out.2.1 Hvk.out.1; obtain ⟨x0, x1, x2, x3, _⟩ := box4 s4; have zf := lt_of_heap s4; have zv := lt_of_heap s3; go_simp; first | done | (with_reducible rfl))
    try simp only [Act.put, List.setIfInBounds_toArray, List.set_cons_succ, List.set_cons_zero]
    refine tk (i := 2) (v := .agg (hAt 12)) (some 60) rfl rfl (yieldsIf_row16 (by kernel_rfl) 32 (.tmp 9) rfl g_h rfl (hAt 12) (fun W' hW' => hW'.2.1) undH12 rfl infoH12) ?_
    try simp only [Act.put, List.setIfInBounds_toArray, List.set_cons_succ, List.set_cons_zero]
    refine tk (i := 3) (v := ?v3x12) (some 61) rfl rfl (Or.inl ⟨by kernel_rfl, ?h3x12⟩) ?r3x12
    case h3x12 => (intro w' hSw; obtain ⟨s1, s2, s3, s4⟩ := hSw; obtain ⟨p0, p1, p2, p3, _⟩ := box4 s1; have zp := lt_of_heap s1; have cv := two_cell s3 Hk.out Hvx.out.1 Hvx.out.2.1 Hvk.out.1; obtain ⟨x0, x1, x2, x3, _⟩ := box4 s4; have zf := lt_of_heap s4; have zv := lt_of_heap s3; go_simp; first | done | (with_reducible rfl))
    try simp only [Act.put, List.setIfInBounds_toArray, List.set_cons_succ, List.set_cons_zero]
    refine tk (i := 4) (v := ?v4x13) (some 62) rfl rfl (Or.inl ⟨by kernel_rfl, ?h4x13⟩) ?r4x13
    case h4x13 => (intro w' hSw; obtain ⟨s1, s2, s3, s4⟩ := hSw; obtain ⟨p0, p1, p2, p3, _⟩ := box4 s1; have zp := lt_of_heap s1; have cv := two_cell s3 Hk.out Hvx.out.1 Hvx.out.2.1 Hvk.out.1; obtain ⟨x0, x1, x2, x3, _⟩ := box4 s4; have zf := lt_of_heap s4; have zv := lt_of_heap s3; go_simp; first | done | (with_reducible rfl))
    try simp only [Act.put, List.setIfInBounds_toArray, List.set_cons_succ, List.set_cons_zero]
    refine tk (i := 5) (v := ?v5x14) (some 63) rfl rfl (Or.inl ⟨by kernel_rfl, ?h5x14⟩) ?r5x14
    case h5x14 => (intro w' hSw; obtain ⟨s1, s2, s3, s4⟩ := hSw; obtain ⟨p0, p1, p2, p3, _⟩ := box4 s1; have zp := lt_of_heap s1; have cv := two_cell s3 Hk.out Hvx.out.1 Hvx.out.2.1 Hvk.out.1; obtain ⟨x0, x1, x2, x3, _⟩ := box4 s4; have zf := lt_of_heap s4; have zv := lt_of_heap s3; go_simp; first | done | (with_reducible rfl))
    try simp only [Act.put, List.setIfInBounds_toArray, List.set_cons_succ, List.set_cons_zero]
    refine tk (i := 6) (v := ?v6x15) (some 64) rfl rfl (Or.inl ⟨by kernel_rfl, ?h6x15⟩) ?r6x15
    case h6x15 => (intro w' hSw; obtain ⟨s1, s2, s3, s4⟩ := hSw; obtain ⟨p0, p1, p2, p3, _⟩ := box4 s1; have zp := lt_of_heap s1; have cv := two_cell s3 Hk.out Hvx.out.1 Hvx.out.2.1 Hvk.out.1; obtain ⟨x0, x1, x2, x3, _⟩ := box4 s4; have zf := lt_of_heap s4; have zv := lt_of_heap s3; go_simp; first | done | (with_reducible rfl))
    try simp only [Act.put, List.setIfInBounds_toArray, List.set_cons_succ, List.set_cons_zero]
    refine tk (i := 7) (v := ?v7x16) (some 65) rfl rfl (Or.inl ⟨by kernel_rfl, ?h7x16⟩) ?r7x16
    case h7x16 => (intro w' hSw; obtain ⟨s1, s2, s3, s4⟩ := hSw; obtain ⟨p0, p1, p2, p3, _⟩ := box4 s1; have zp := lt_of_heap s1; have cv := two_cell s3 Hk.out Hvx.out.1 Hvx.out.2.1 Hvk.out.1; obtain ⟨x0, x1, x2, x3, _⟩ := box4 s4; have zf := lt_of_heap s4; have zv := lt_of_heap s3; go_simp; first | done | (with_reducible rfl))
    try simp only [Act.put, List.setIfInBounds_toArray, List.set_cons_succ, List.set_cons_zero]
    refine tk (i := 8) (v := ?v8x17) (some 66) rfl rfl (Or.inl ⟨by kernel_rfl, ?h8x17⟩) ?r8x17
    case h8x17 => (intro w' hSw; obtain ⟨s1, s2, s3, s4⟩ := hSw; obtain ⟨p0, p1, p2, p3, _⟩ := box4 s1; have zp := lt_of_heap s1; have cv := two_cell s3 Hk.out Hvx.out.1 Hvx.out.2.1 Hvk.out.1; obtain ⟨x0, x1, x2, x3, _⟩ := box4 s4; have zf := lt_of_heap s4; have zv := lt_of_heap s3; go_simp; first | done | (with_reducible rfl))
    try simp only [Act.put, List.setIfInBounds_toArray, List.set_cons_succ, List.set_cons_zero]
    refine tk (i := 9) (v := ?v9x18) (some 67) rfl rfl (Or.inl ⟨by kernel_rfl, ?h9x18⟩) ?r9x18
    case h9x18 => (intro w' hSw; obtain ⟨s1, s2, s3, s4⟩ := hSw; obtain ⟨p0, p1, p2, p3, _⟩ := box4 s1; have zp := lt_of_heap s1; have cv := two_cell s3 Hk.out Hvx.out.1 Hvx.out.2.1 Hvk.out.1; obtain ⟨x0, x1, x2, x3, _⟩ := box4 s4; have zf := lt_of_heap s4; have zv := lt_of_heap s3; go_simp; first | done | (with_reducible rfl))
    try simp only [Act.put, List.setIfInBounds_toArray, List.set_cons_succ, List.set_cons_zero]
    refine tk (i := 10) (v := ?v10x19) (some 68) rfl rfl (Or.inl ⟨by kernel_rfl, ?h10x19⟩) ?r10x19
    case h10x19 => (intro w' hSw; obtain ⟨s1, s2, s3, s4⟩ := hSw; obtain ⟨p0, p1, p2, p3, _⟩ := box4 s1; have zp := lt_of_heap s1; have cv := two_cell s3 Hk.out Hvx.out.1 Hvx.out.2.1 Hvk.out.1; obtain ⟨x0, x1, x2, x3, _⟩ := box4 s4; have zf := lt_of_heap s4; have zv := lt_of_heap s3; go_simp; first | done | (with_reducible rfl))
    try simp only [Act.put, List.setIfInBounds_toArray, List.set_cons_succ, List.set_cons_zero]
    refine tk (i := 11) (v := ?v11x20) (some 69) rfl rfl (Or.inl ⟨by kernel_rfl, ?h11x20⟩) ?r11x20
    case h11x20 => (intro w' hSw; obtain ⟨s1, s2, s3, s4⟩ := hSw; obtain ⟨p0, p1, p2, p3, _⟩ := box4 s1; have zp := lt_of_heap s1; have cv := two_cell s3 Hk.out Hvx.out.1 Hvx.out.2.1 Hvk.out.1; obtain ⟨x0, x1, x2, x3, _⟩ := box4 s4; have zf := lt_of_heap s4; have zv := lt_of_heap s3; go_simp; first | done | (with_reducible rfl))
    try simp only [Act.put, List.setIfInBounds_toArray, List.set_cons_succ, List.set_cons_zero]
    refine wpAnyH_ready (rs := [12]) (by kernel_rfl) (by simp) ?_
    refine AllReadyH.cons rfl (fun K hK => ?_) AllReadyH.nil
    go_simp
    refine (call16_any 1 2 (iN : Int) (vk : Int) (bN : Int) 0 1 2 iN vk _ (by decide) (by decide) (by have := Hi.out; omega) (by have := Hvk.out; omega) (by decide) (by have := HbN.out; omega) rfl rfl (by have := Hi.out; omega) (by have := Hvk.out; omega)).mono ?_
    rintro e' y1 ⟨kc, cA, hkc, rfl, hE, hEn, hb⟩
    obtain ⟨R, HRq⟩ : ∃ R, Hid (R = beg16k 2 iN vk 1 0 (bN : Int) ⟨cA, 2, kc⟩) := ⟨_, Lib.hid rfl⟩
    rw [← HRq.out]
    go_simp
    have hFz : ∀ z, 0 < (chE16 2).length → cA = some z → z.block ∉ FF := fun z _ hz => by
     have h1 := hEn z (by decide) hz
     have h2 := hT0.lt b (by simp)
     have h3 := lt_of_heap hG0
     rw [HFF.out]
     simp
     omega
    replace hG0 := row_below hG0 hb
    replace hK0 := hK0.call hb
    refine hK.out _ _ (⟨row_below hS.1 hb, row_below hS.2.1 hb, row_below hS.2.2.1 hb, row_below hS.2.2.2 hb⟩) (fun hS => ?_)
    clear hK K
    try simp only [Act.put, List.setIfInBounds_toArray, List.set_cons_succ, List.set_cons_zero]
    clear hb
    refine tk (i := 13) (v := ?v13x21) (some 71) rfl rfl (Or.inl ⟨by kernel_rfl, ?h13x21⟩) ?r13x21
    case h13x21 => (intro w' hSw; obtain ⟨s1, s2, s3, s4⟩ := hSw; obtain ⟨p0, p1, p2, p3, _⟩ := box4 s1; have zp := lt_of_heap s1; have cv := two_cell s3 Hk.out Hvx.out.1 Hvx.out.2.1 Hvk.out.1; obtain ⟨x0, x1, x2, x3, _⟩ := box4 s4; have zf := lt_of_heap s4; have zv := lt_of_heap s3; go_simp; first | done | (with_reducible rfl))
    try simp only [Act.put, List.setIfInBounds_toArray, List.set_cons_succ, List.set_cons_zero]
    refine wpAnyH_ready (rs := [14]) (by kernel_rfl) (by simp) ?_
    refine AllReadyH.cons rfl (fun K hK => ?_) AllReadyH.nil
    refine step_store_sub none rfl rfl 43 (.tmp 71) (.tmp 70) rfl g_g (k * 26) R.arr (by first | rfl | (simp)) rfl 44 _ hG0 infoRun (by rw [runs_size]; have h1 := HAl.out.1; have h3 := Hk.out; have h2 : R.arr.size = 26 := rfl; omega) (Rn.one _) ?_
    rw [runs_set (by rw [HAl.out.1]; exact Hk.out) R]
    have hks := (Keep.refl [g_g] y1).setRow (g := g_g) (.inl (by simp)) (runsA (l.set k R))
    refine hK.out _ _ (⟨hks.row hS.1 (by simpa using M_p_g.out), hks.row hS.2.1 (by simpa using M_h_g.out), hks.row hS.2.2.1 (by simpa using M_v_g.out), hks.row hS.2.2.2 (by simpa using M_c_g.out)⟩) (fun hS => ?_)
    clear hK K
    try simp only [Act.put, List.setIfInBounds_toArray, List.set_cons_succ, List.set_cons_zero]
    refine wpAnyH_done (by kernel_rfl) ?_ _
    clear hks
    refine set_row' y1 g_g _ _ _ hG0 ?_
    intro x1 hg hK1
    have hK := hK0.trans hK1
    have hCh : ChOk x1 FF ⟨cA, 2, kc⟩ := ⟨rfl, hkc, ents_kept hE hK1 (fun z h0 hz hm => hFz z h0 hz (by rw [HFF.out]; simp at hm; simp [hm])), hFz⟩
    rw [HRq.out] at hg
    clear hK0 hK1 hE hFz hG0 hT0 hS hkc hEn HRq
    have hAl2 := (HAl.out.kept hK (by rw [HFF.out]; simp)).next Hk.out hCh rfl
    replace HAl := Lib.hid hAl2
    replace H_g := Lib.hid hg
    clear hAl2 hCh hg
    have hszK := hK.size
    replace H_c := Lib.hid (hK.row H_c.out (by simpa using M_c_g.out))
    replace H_p := Lib.hid (hK.row H_p.out (by simpa using M_p_g.out))
    replace H_h := Lib.hid (hK.row H_h.out (by simpa using M_h_g.out))
    replace H_v := Lib.hid (hK.row H_v.out (by simpa using M_v_g.out))
    replace HT := Lib.hid (HT.out.kept hK (fun j hj => by simp only [List.mem_singleton] at hj; subst hj; exact N_g.out))
    replace B := Lib.hid (Keep.under B.out hK (by have := B.out.size; omega) (by simp; exact L_g.out))
    clear hK hszK
    go_wp2_with fail
    go_roundw
    case rel => exact ⟨k + 1, l.set k (stR iN (vx k) (bN : Int) ⟨cA, 2, kc⟩ 0), by have := Hk.out; omega, by go_num, HAl.out, by rw [show stR iN (vx k) (bN : Int) ⟨cA, 2, kc⟩ 0 = beg16k 2 iN vk 1 0 (bN : Int) ⟨cA, 2, kc⟩ from by rw [Hvk.out.1]; rfl]; exact H_g.out, H_c.out, H_p.out, H_h.out, H_v.out, HT.out, B.out⟩
    case measure => have := Hk.out; simp [intOf]; omega
   have hk2' : k = 2 := by omega
   subst hk2'
   clear hlt hk2
   have HSt : Hid (StL iN bN vx WS 0 (fun _ => 0) 0) := Lib.hid ⟨HLw.out, fun _ _ => by omega, fun x _ => .inr (by omega), by decide, fun h => by cases h⟩
   go_wp2_with fail
   go_loopw [15, 16] (fun t15 t16 wr => ∃ (n s : Nat) (px : Nat → Nat) (ws : List Int) (l : List Rn), n ≤ 32 ∧ t15 = .int .i64 s ∧ t16 = .int .i64 n ∧ StL iN bN vx ws n px s ∧ AllS iN (bN : Int) vx px 2 wr FF l ∧ wr.heap[g_g]? = some (.cells (runsA l) 44 (0, 0)) ∧ wr.heap[g_c]? = some (.cells #[.int .u8 c0, .int .u8 c1, .int .u8 c2, .int .u8 c3] 64 (0, 0)) ∧ wr.heap[g_p]? = some (.cells #[.int .i64 4, .int .i64 2, .int .i64 128, .int .i64 512] 28 (0, 0)) ∧ wr.heap[g_h]? = some (.cells (hAt 12) 32 (0, 0)) ∧ wr.heap[g_v]? = some (.cells #[.int .u8 (va : Int), .int .u8 (vb : Int)] 68 (0, 0)) ∧ TwoW w.heap.size wr p b X q d 4 2 128 512 ws WS ∧ Below w.heap.size w wr) (fun _ t _ => (32 - intOf t).toNat)
   case atStart => exact ⟨0, 0, _, WS, l, by omega, rfl, rfl, HSt.out, HAl.out, H_g.out, H_c.out, H_p.out, H_h.out, H_v.out, HT.out, B.out⟩
   case round =>
    clear H_c H_p H_h H_v HT B H_g HAl HSt
    clear l
    obtain ⟨n, s, px, ws, l, hn, rfl, rfl, hSt, hAl, hg, hrel⟩ := hrel
    have HSt := Lib.hid hSt
    have HAl := Lib.hid hAl
    have H_g := Lib.hid hg
    clear hSt hAl hg
    obtain ⟨hq_H_c, hq_H_p, hq_H_h, hq_H_v, hq_HT, hq_B⟩ := hrel
    replace H_c := Lib.hid hq_H_c
    replace H_p := Lib.hid hq_H_p
    replace H_h := Lib.hid hq_H_h
    replace H_v := Lib.hid hq_H_v
    replace HT := Lib.hid hq_HT
    replace B := Lib.hid hq_B
    clear hq_H_c hq_H_p hq_H_h hq_H_v hq_HT hq_B
    by_cases hlt : n < 32
    ·skip
     have hnI : (n : Int) < 32 := by omega
     have hnB : decide ((n : Int) < 32) = true := decide_eq_true hnI
     have hnI0 : (0 : Int) ≤ (n : Int) := by omega
     go_upto_region 18 with fail
     try simp only [Act.put]
     go_cut [17] from 76 to 81 (fun vv wx => ∃ kn : Nat, kn < 2 ∧ vv = .int .i64 kn ∧ wr = wx)
     case first =>
      have m1 : bits .and .i64 (n : Int) 15 = (n : Int) % 16 := mask15 _
      go_wp2_with fail
      go_meet
      exact (bit_ex _).imp fun kn h => ⟨h.1, h.2, rfl⟩
     case rest =>
      obtain ⟨k0, hk0, rfl, hwx⟩ := hcut
      subst hwx
      go_upto_if 83 with fail
      try simp only [Act.put]
      go_cut [17] from 82 to 85 (fun vv wx => ∃ kn : Nat, kn < 2 ∧ vv = .int .i64 kn ∧ (16 ≤ n → n % 2 = kn) ∧ wr = wx)
      case first =>
       have m2 : bits .and .i64 (n : Int) 1 = (n : Int) % 2 := mask1 _
       by_cases h16 : 16 ≤ n
       ·have hb1 : decide ((16 : Int) ≤ (n : Int)) = true := decide_eq_true (by omega)
        have hb2 : decide (16 ≤ n) = true := decide_eq_true h16
        go_wp2_with fail
        go_meet
        exact ⟨n % 2, by omega, by first | rfl | simp | (rw [m2]; simp), fun _ => rfl, rfl⟩
       ·have hb1 : decide ((16 : Int) ≤ (n : Int)) = false := decide_eq_false (by omega)
        have hb2 : decide (16 ≤ n) = false := decide_eq_false h16
        go_wp2_with fail
        go_meet
        exact ⟨k0, hk0, rfl, fun h => absurd h h16, rfl⟩
      case rest =>
       obtain ⟨kn, hkn2, rfl, hkp, hwx⟩ := hcut
       subst hwx
       have Hkp := Lib.hid (And.intro hkn2 hkp)
       clear hkp
       have hkI : (kn : Int) < 2 := by omega
       have hkI0 : (0 : Int) ≤ (kn : Int) := by omega
       have hkB : decide ((2 : Int) ≤ (kn : Int)) = false := decide_eq_false (by omega)
       obtain ⟨ch, hch, hlk⟩ := HAl.out.2 kn hkn2
       have HCh := Lib.hid hch
       have Hlk := Lib.hid hlk
       obtain ⟨pk, Hpk⟩ : ∃ x, Hid (px kn = x ∧ x ≤ 5) := ⟨_, Lib.hid ⟨rfl, HSt.out.le kn hkn2⟩⟩
       have HlG : Hid (kn < l.length) := Lib.hid (by rw [HAl.out.1]; exact hkn2)
       clear hch hlk hkn2
       by_cases hp5 : pk = 5
       ·skip
        have d8 : wr.cell? ⟨g_g, kn * 26 + 21, none⟩ = some (.bool true) := runs_cell H_g.out Hlk.out (by rw [Hpk.out.1, hp5]; rfl)
        have zg := lt_of_heap H_g.out
        have HSt2 := Lib.hid (HSt.out.skip Hkp.out.1 Hkp.out.2 (by rw [Hpk.out.1, hp5]))
        have Hlt := Lib.hid hlt
        clear hp5 hlt
        go_wp2_with fail
        go_roundw
        case rel => exact ⟨n + 1, s, px, ws, l, by have := Hlt.out; omega, rfl, by go_num, HSt2.out, HAl.out, H_g.out, H_c.out, H_p.out, H_h.out, H_v.out, HT.out, B.out⟩
        case measure => have := Hlt.out; simp [intOf]; omega
       ·skip
        have hp5' : pk < 5 := by have := Hpk.out.2; omega
        have Hp5 := Lib.hid hp5'
        have Hlt := Lib.hid hlt
        have hvk := Hvx.out.2.2 kn Hkp.out.1
        obtain ⟨vk, Hvk⟩ : ∃ s : Nat, Hid (vx kn = s ∧ s < 9 ∧ s / 3 ≤ iN / 3) := ⟨vx kn, Lib.hid ⟨rfl, hvk⟩⟩
        have HIn : Hid (SlIn c16 (chE16 2) iN vk (stR iN vk (bN : Int) ch pk)) := Lib.hid (st_in Hi.out.2 Hvk.out.2.1 HbN.out.2 hp5')
        have Hnx : Hid (slR c16 (chE16 2) ws iN vk (stR iN vk (bN : Int) ch pk) = stR iN vk (bN : Int) ch (pk + 1)) := Lib.hid (st_next Hi.out.2 Hvk.out.2.1 HbN.out.2 Hvk.out.2.2 hp5')
        have HSt2 := Lib.hid (HSt.out.step (ch := ch) Hi.out.2 (fun x hx => (Hvx.out.2.2 x hx).1) HbN.out.2 Hkp.out.1 Hkp.out.2 (by rw [Hpk.out.1]; exact hp5'))
        have HAl2 := fun (w' : World) (h : AllS iN (bN : Int) vx px 2 w' FF l) (hc : ChOk w' FF ch) => Lib.hid (h.step Hkp.out.1 hc (n := px kn + 1))
        have Hcd : Hid ((stR iN vk (bN : Int) ch (pk + 1)).done = true ∧ (stR iN vk (bN : Int) ch (pk + 1)).code = 0 ∨ (stR iN vk (bN : Int) ch (pk + 1)).done = false) := Lib.hid (by
         by_cases h4 : pk = 4
         ·rw [h4]; exact .inl st_done
         ·exact .inr (st_not (by omega)))
        have Hd8 : Hid ((stR iN vk (bN : Int) ch pk).done = false) := Lib.hid (st_not hp5')
        have HChc : Hid ((stR iN vk (bN : Int) ch pk).chain = ch) := Lib.hid st_chain
        rw [Hvk.out.1, Hpk.out.1] at Hlk HSt2 HAl2
        obtain ⟨r2, Hr2⟩ : ∃ x, Hid (stR iN vk (bN : Int) ch pk = x) := ⟨_, Lib.hid rfl⟩
        obtain ⟨R3, HR3⟩ : ∃ x, Hid (stR iN vk (bN : Int) ch (pk + 1) = x) := ⟨_, Lib.hid rfl⟩
        rw [Hr2.out] at Hlk HIn Hnx HSt2 Hd8 HChc
        rw [HR3.out] at Hnx Hcd HAl2
        obtain ⟨W3, HW3⟩ : ∃ x, Hid (slW ws r2 = x) := ⟨_, Lib.hid rfl⟩
        rw [HW3.out] at HSt2
        have d8 : wr.cell? ⟨g_g, kn * 26 + 21, none⟩ = some (.bool false) := runs_cell H_g.out Hlk.out (by rw [← Hd8.out]; rfl)
        have zg := lt_of_heap H_g.out
        clear hp5 hp5' hlt hvk
        go_upto_region 22 with fail
        clear d8 zg
        try simp only [Act.put]
        go_cut [18, 19] from 90 to 98 (fun vd ve wx => ∃ gZ, vd = .pointer (some ⟨gZ, 0, none⟩) ∧ ve = .int .i64 0 ∧ wr.heap.size ≤ gZ ∧ wx.heap[gZ]? = some (.cells R3.arr 43 (0, 0)) ∧ Arn wx p b W3 ∧ Keep [b] wr wx)
        case first =>
         as_aux_lemma =>
          refine wp_region_held_drew (S := fun W' => W'.heap[g_p]? = some (.cells #[.int .i64 4, .int .i64 2, .int .i64 128, .int .i64 512] 28 (0, 0)) ∧ W'.heap[g_g]? = some (.cells (runsA l) 44 (0, 0))) (by kernel_rfl) (show wr.drew.heap[g_p]? = _ ∧ wr.drew.heap[g_g]? = _ from ⟨H_p.out, H_g.out⟩) ?_
          intro hS
          have hA : Arn wr.drew p b ws := HT.out.a.drew
          have hK0 : Keep [b] wr wr.drew := (Keep.refl _ _).drew
          have hC0 := HCh.out.below (show Below wr.heap.size wr wr.drew from Below.drew (Below.refl _ _))
          generalize wr.drew = y0 at hS hA hK0 hC0 ⊢
          refine tk (i := 0) (v := ?v0x22) (some 91) rfl rfl (Or.inl ⟨by kernel_rfl, ?h0x22⟩) ?r0x22
          case h0x22 => (intro w' hSw; obtain ⟨s1, s2⟩ := hSw; obtain ⟨p0, p1, p2, p3, _⟩ := box4 s1; have zp := lt_of_heap s1; have zg := lt_of_heap s2; go_simp; first | done | (with_reducible rfl))
          try simp only [Act.put, List.setIfInBounds_toArray, List.set_cons_succ, List.set_cons_zero]
          refine tk (i := 1) (v := ?v1x23) (some 92) rfl rfl (Or.inl ⟨by kernel_rfl, ?h1x23⟩) ?r1x23
          case h1x23 => (intro w' hSw; obtain ⟨s1, s2⟩ := hSw; obtain ⟨p0, p1, p2, p3, _⟩ := box4 s1; have zp := lt_of_heap s1; have zg := lt_of_heap s2; go_simp; first | done | (with_reducible rfl))
          try simp only [Act.put, List.setIfInBounds_toArray, List.set_cons_succ, List.set_cons_zero]
          refine tk (i := 2) (v := ?v2x24) (some 93) rfl rfl (Or.inl ⟨by kernel_rfl, ?h2x24⟩) ?r2x24
          case h2x24 => (intro w' hSw; obtain ⟨s1, s2⟩ := hSw; obtain ⟨p0, p1, p2, p3, _⟩ := box4 s1; have zp := lt_of_heap s1; have zg := lt_of_heap s2; go_simp; first | done | (with_reducible rfl))
          try simp only [Act.put, List.setIfInBounds_toArray, List.set_cons_succ, List.set_cons_zero]
          refine tk (i := 3) (v := ?v3x25) (some 94) rfl rfl (Or.inl ⟨by kernel_rfl, ?h3x25⟩) ?r3x25
          case h3x25 => (intro w' hSw; obtain ⟨s1, s2⟩ := hSw; obtain ⟨p0, p1, p2, p3, _⟩ := box4 s1; have zp := lt_of_heap s1; have zg := lt_of_heap s2; go_simp; first | done | (with_reducible rfl))
          try simp only [Act.put, List.setIfInBounds_toArray, List.set_cons_succ, List.set_cons_zero]
          refine tk (i := 4) (v := .agg (Rn.arr r2)) (some 95) rfl rfl (yieldsIf_load_sub (by kernel_rfl) 43 (.tmp 94) rfl g_g (kn * 26) rfl (runsA l) (Rn.arr r2) (fun W' hW' => hW'.2) (fun j v hv => runs_get Hlk.out hv) undRun rfl infoRun) ?_
          try simp only [Act.put, List.setIfInBounds_toArray, List.set_cons_succ, List.set_cons_zero]
          refine wpAnyH_ready (rs := [5, 9]) (by kernel_rfl) (by simp) ?_
          refine AllReadyH.cons rfl (fun K hK => ?_) (AllReadyH.cons rfl (fun K hK => ?_) AllReadyH.nil)
          ·skip
           go_simp
           refine (slStep_any c16 (chE16 2) iN vk p b ws r2 _ hA HSt.out.lw HIn.out (by decide) (by rw [HChc.out]; exact hC0.n) (by rw [HChc.out]; exact hC0.c) (by rw [HChc.out]; exact hC0.e)).mono ?_
           rintro e' yS ⟨rfl, hA1, hK1⟩
           rw [Hnx.out]
           rw [HW3.out] at hA1
           go_simp
           replace hK0 := hK0.trans hK1
           clear hA hC0
           have hA := hA1
           clear hA1
           refine hK.out _ _ (⟨hK1.row hS.1 (by simpa using (HT.out.nb N_p.out).1), hK1.row hS.2 (by simpa using (HT.out.nb N_g.out).1)⟩) (fun hS => ?_)
           clear hK K
           try simp only [Act.put, List.setIfInBounds_toArray, List.set_cons_succ, List.set_cons_zero]
           refine tk (i := 6) (v := ?v6x26) (some 90) rfl rfl (Or.inl ⟨by kernel_rfl, ?h6x26⟩) ?r6x26
           case h6x26 => (intro w' hSw; obtain ⟨s1, s2⟩ := hSw; obtain ⟨p0, p1, p2, p3, _⟩ := box4 s1; have zp := lt_of_heap s1; have zg := lt_of_heap s2; go_simp; first | done | (with_reducible rfl))
           try simp only [Act.put, List.setIfInBounds_toArray, List.set_cons_succ, List.set_cons_zero]
           refine tk (i := 7) (v := ?v7x27) (some 97) rfl rfl (Or.inl ⟨by kernel_rfl, ?h7x27⟩) ?r7x27
           case h7x27 => (intro w' hSw; obtain ⟨s1, s2⟩ := hSw; obtain ⟨p0, p1, p2, p3, _⟩ := box4 s1; have zp := lt_of_heap s1; have zg := lt_of_heap s2; go_simp; first | done | (with_reducible rfl))
           try simp only [Act.put, List.setIfInBounds_toArray, List.set_cons_succ, List.set_cons_zero]
           refine tk (i := 8) (v := ?v8x28) (some 98) rfl rfl (Or.inl ⟨by kernel_rfl, ?h8x28⟩) ?r8x28
           case h8x28 => (intro w' hSw; obtain ⟨s1, s2⟩ := hSw; obtain ⟨p0, p1, p2, p3, _⟩ := box4 s1; have zp := lt_of_heap s1; have zg := lt_of_heap s2; go_simp; first | done | (with_reducible rfl))
           try simp only [Act.put, List.setIfInBounds_toArray, List.set_cons_succ, List.set_cons_zero]
           refine wpAnyH_ready (rs := [9]) (by kernel_rfl) (by simp) ?_
           refine AllReadyH.cons rfl (fun K hK => ?_) AllReadyH.nil
           refine step_alloc_run (some 18) rfl rfl rfl ?_
           refine k_alloc (fun yZ hZ hb => ?_)
           have hz1 := lt_of_heap hA.box
           have hz2 := lt_of_heap hA.row
           have hz3 := lt_of_heap hS.1
           have hz5 := lt_of_heap hS.2
           have hz4 := hK0.size
           obtain ⟨gZ, HgZ⟩ : ∃ x, x = yS.heap.size := ⟨_, rfl⟩
           rw [← HgZ] at hZ hz1 hz2 hz3 hz4 hz5 ⊢
           clear HgZ
           have hq1 : p ≠ gZ := by omega
           have hq2 : gZ ≠ b := by omega
           have hq3 : g_p ≠ gZ := by omega
           have hq4 : g_g ≠ gZ := by omega
           clear hz1 hz2 hz3 hz5
           replace hA := hA.below hb
           replace hK0 := hK0.call hb
           refine hK.out _ _ (⟨row_below hS.1 hb, row_below hS.2 hb⟩) (fun hS => ?_)
           clear hK K
           try simp only [Act.put, List.setIfInBounds_toArray, List.set_cons_succ, List.set_cons_zero]
           refine wpAnyH_ready (rs := [10]) (by kernel_rfl) (by simp) ?_
           refine AllReadyH.cons rfl (fun K hK => ?_) AllReadyH.nil
           refine step_store_row none rfl rfl 43 (.tmp 18) (.tmp 97) rfl gZ R3.arr rfl rfl 43 ZRun hZ infoRun rfl (Rn.one _) ?_
           refine hK.out _ _ (⟨(setRow_other _ _ _ _ hq3).trans hS.1, (setRow_other _ _ _ _ hq4).trans hS.2⟩) (fun hS => ?_)
           clear hK K
           try simp only [Act.put, List.setIfInBounds_toArray, List.set_cons_succ, List.set_cons_zero]
           refine tk (i := 11) (v := ?v11x29) (some 19) rfl rfl (Or.inl ⟨by kernel_rfl, ?h11x29⟩) ?r11x29
           case h11x29 => (intro w' hSw; obtain ⟨s1, s2⟩ := hSw; obtain ⟨p0, p1, p2, p3, _⟩ := box4 s1; have zp := lt_of_heap s1; have zg := lt_of_heap s2; go_simp; first | done | (with_reducible rfl))
           try simp only [Act.put, List.setIfInBounds_toArray, List.set_cons_succ, List.set_cons_zero]
           refine wpAnyH_done (by kernel_rfl) ?_ _
           go_wp2_with fail
           go_meet
           have hks := (Keep.refl [gZ] yZ).setRow (g := gZ) (.inl (by simp)) R3.arr
           exact ⟨gZ, rfl, rfl, hz4, setRow_heap _ _ _ _ _ _ hZ, hA.kept hks (by simpa using hq1) (by simpa using fun e => hq2 e.symm), hK0.setRow (.inr hz4) _⟩
          ·skip
           refine step_alloc_run (some 18) rfl rfl rfl ?_
           refine k_alloc (fun yZ hZ hb => ?_)
           have hz1 := lt_of_heap hA.box
           have hz2 := lt_of_heap hA.row
           have hz3 := lt_of_heap hS.1
           have hz5 := lt_of_heap hS.2
           have hz4 := hK0.size
           obtain ⟨gZ, HgZ⟩ : ∃ x, x = y0.heap.size := ⟨_, rfl⟩
           rw [← HgZ] at hZ hz1 hz2 hz3 hz4 hz5 ⊢
           clear HgZ
           have hq1 : p ≠ gZ := by omega
           have hq2 : gZ ≠ b := by omega
           have hq3 : g_p ≠ gZ := by omega
           have hq4 : g_g ≠ gZ := by omega
           clear hz1 hz2 hz3 hz5
           replace hA := hA.below hb
           replace hK0 := hK0.call hb
           replace hC0 := hC0.below hb
           refine hK.out _ _ (⟨row_below hS.1 hb, row_below hS.2 hb⟩) (fun hS => ?_)
           clear hK K
           try simp only [Act.put, List.setIfInBounds_toArray, List.set_cons_succ, List.set_cons_zero]
           refine wpAnyH_ready (rs := [5]) (by kernel_rfl) (by simp) ?_
           refine AllReadyH.cons rfl (fun K hK => ?_) AllReadyH.nil
           go_simp
           refine (slStep_any c16 (chE16 2) iN vk p b ws r2 _ hA HSt.out.lw HIn.out (by decide) (by rw [HChc.out]; exact hC0.n) (by rw [HChc.out]; exact hC0.c) (by rw [HChc.out]; exact hC0.e)).mono ?_
           rintro e' yS ⟨rfl, hA1, hK1⟩
           rw [Hnx.out]
           rw [HW3.out] at hA1
           go_simp
           replace hK0 := hK0.trans hK1
           replace hZ := hK1.row hZ (by simpa using hq2)
           clear hA hC0
           have hA := hA1
           clear hA1
           refine hK.out _ _ (⟨hK1.row hS.1 (by simpa using (HT.out.nb N_p.out).1), hK1.row hS.2 (by simpa using (HT.out.nb N_g.out).1)⟩) (fun hS => ?_)
           clear hK K
           try simp only [Act.put, List.setIfInBounds_toArray, List.set_cons_succ, List.set_cons_zero]
           refine tk (i := 6) (v := ?v6x30) (some 90) rfl rfl (Or.inl ⟨by kernel_rfl, ?h6x30⟩) ?r6x30
           case h6x30 => (intro w' hSw; obtain ⟨s1, s2⟩ := hSw; obtain ⟨p0, p1, p2, p3, _⟩ := box4 s1; have zp := lt_of_heap s1; have zg := lt_of_heap s2; go_simp; first | done | (with_reducible rfl))
           try simp only [Act.put, List.setIfInBounds_toArray, List.set_cons_succ, List.set_cons_zero]
           refine tk (i := 7) (v := ?v7x31) (some 97) rfl rfl (Or.inl ⟨by kernel_rfl, ?h7x31⟩) ?r7x31
           case h7x31 => (intro w' hSw; obtain ⟨s1, s2⟩ := hSw; obtain ⟨p0, p1, p2, p3, _⟩ := box4 s1; have zp := lt_of_heap s1; have zg := lt_of_heap s2; go_simp; first | done | (with_reducible rfl))
           try simp only [Act.put, List.setIfInBounds_toArray, List.set_cons_succ, List.set_cons_zero]
           refine tk (i := 8) (v := ?v8x32) (some 98) rfl rfl (Or.inl ⟨by kernel_rfl, ?h8x32⟩) ?r8x32
           case h8x32 => (intro w' hSw; obtain ⟨s1, s2⟩ := hSw; obtain ⟨p0, p1, p2, p3, _⟩ := box4 s1; have zp := lt_of_heap s1; have zg := lt_of_heap s2; go_simp; first | done | (with_reducible rfl))
           try simp only [Act.put, List.setIfInBounds_toArray, List.set_cons_succ, List.set_cons_zero]
           refine wpAnyH_ready (rs := [10]) (by kernel_rfl) (by simp) ?_
           refine AllReadyH.cons rfl (fun K hK => ?_) AllReadyH.nil
           refine step_store_row none rfl rfl 43 (.tmp 18) (.tmp 97) rfl gZ R3.arr rfl rfl 43 ZRun hZ infoRun rfl (Rn.one _) ?_
           refine hK.out _ _ (⟨(setRow_other _ _ _ _ hq3).trans hS.1, (setRow_other _ _ _ _ hq4).trans hS.2⟩) (fun hS => ?_)
           clear hK K
           try simp only [Act.put, List.setIfInBounds_toArray, List.set_cons_succ, List.set_cons_zero]
           refine tk (i := 11) (v := ?v11x33) (some 19) rfl rfl (Or.inl ⟨by kernel_rfl, ?h11x33⟩) ?r11x33
           case h11x33 => (intro w' hSw; obtain ⟨s1, s2⟩ := hSw; obtain ⟨p0, p1, p2, p3, _⟩ := box4 s1; have zp := lt_of_heap s1; have zg := lt_of_heap s2; go_simp; first | done | (with_reducible rfl))
           try simp only [Act.put, List.setIfInBounds_toArray, List.set_cons_succ, List.set_cons_zero]
           refine wpAnyH_done (by kernel_rfl) ?_ _
           go_wp2_with fail
           go_meet
           have hks := (Keep.refl [gZ] yS).setRow (g := gZ) (.inl (by simp)) R3.arr
           exact ⟨gZ, rfl, rfl, hz4, setRow_heap _ _ _ _ _ _ hZ, hA.kept hks (by simpa using hq1) (by simpa using fun e => hq2 e.symm), hK0.setRow (.inr hz4) _⟩
        case rest =>
         obtain ⟨g_o, rfl, rfl, hgo, hro, hA, hK⟩ := hcut
         obtain ⟨x5, hwx⟩ : ∃ x, x = wc := ⟨_, rfl⟩
         subst hwx
         have M_o_g : Hid (g_o ≠ g_g) := Lib.hid (by have := lt_of_heap H_g.out; omega)
         have N_o : Hid (g_o ∉ [p, b, X, q, d]) := Lib.hid (HT.out.fresh hgo)
         replace HCh := Lib.hid (HCh.out.kept hK (by rw [HFF.out]; simp))
         replace HAl := Lib.hid (HAl.out.kept hK (by rw [HFF.out]; simp))
         clear hgo
         have hszK := hK.size
         replace H_c := Lib.hid (hK.row H_c.out (by simpa using (HT.out.nb N_c.out).1))
         replace H_p := Lib.hid (hK.row H_p.out (by simpa using (HT.out.nb N_p.out).1))
         replace H_h := Lib.hid (hK.row H_h.out (by simpa using (HT.out.nb N_h.out).1))
         replace H_v := Lib.hid (hK.row H_v.out (by simpa using (HT.out.nb N_v.out).1))
         replace H_g := Lib.hid (hK.row H_g.out (by simpa using (HT.out.nb N_g.out).1))
         replace B := Lib.hid (HT.out.under B.out hK (by simp))
         replace HT := Lib.hid (HT.out.onA hA hK)
         clear hA hK hszK
         have H_o := Lib.hid (show x5.heap[g_o]? = some (.cells R3.arr 43 (0, 0)) from hro)
         clear hro
         go_upto_region 24 with (first | (refine wpList_load_row rfl 43 (.tmp 18) rfl g_o rfl 43 R3.arr (0, 0) _ H_o.out undRun rfl infoRun ?_; (try simp only [Act.put, List.setIfInBounds_toArray, List.set_cons_succ, List.set_cons_zero])) | (refine wpList_store_sub rfl 43 (.tmp 101) (.tmp 100) rfl g_g (kn * 26) (Rn.arr R3) rfl rfl 44 _ H_g.out infoRun (by rw [runs_size]; have h1 := HlG.out; have h2 : (Rn.arr R3).size = 26 := rfl; omega) (Rn.one _) ?_; (try simp only [Act.put, List.setIfInBounds_toArray, List.set_cons_succ, List.set_cons_zero])))
         rw [runs_set HlG.out R3]
         refine set_row' x5 g_g _ _ _ H_g.out ?_
         intro x6 hr hK
         replace HCh := Lib.hid (HCh.out.kept hK (by rw [HFF.out]; simp))
         replace HAl := Lib.hid (HAl2 x6 (HAl.out.kept hK (by rw [HFF.out]; simp)) HCh.out).out
         have hszK := hK.size
         replace H_c := Lib.hid (hK.row H_c.out (by simpa using M_c_g.out))
         replace H_p := Lib.hid (hK.row H_p.out (by simpa using M_p_g.out))
         replace H_h := Lib.hid (hK.row H_h.out (by simpa using M_h_g.out))
         replace H_v := Lib.hid (hK.row H_v.out (by simpa using M_v_g.out))
         replace H_o := Lib.hid (hK.row H_o.out (by simpa using M_o_g.out))
         replace HT := Lib.hid (HT.out.kept hK (fun j hj => by simp only [List.mem_singleton] at hj; subst hj; exact N_g.out))
         replace B := Lib.hid (Keep.under B.out hK (by have := B.out.size; omega) (by simp; exact L_g.out))
         replace H_g := Lib.hid hr
         clear hr hK hszK
         rcases Hcd.out with hcd | hcd
         ·skip
          have HCd := Lib.hid hcd
          clear hcd Hcd
          have o_21 : x6.cell? ⟨g_o, 21, none⟩ = some (.bool true) := by rw [row_cell H_o.out]; rw [← HCd.out.1]; rfl
          have o_23 : x6.cell? ⟨g_o, 23, none⟩ = some (.int .i64 0) := by rw [row_cell H_o.out]; rw [← HCd.out.2]; rfl
          have z_o := lt_of_heap H_o.out
          go_wp2_with fail
          go_roundw
          case rel => exact ⟨n + 1, kn, updN px kn (pk + 1), W3, _, by have := Hlt.out; omega, rfl, by go_num, HSt2.out, HAl.out, H_g.out, H_c.out, H_p.out, H_h.out, H_v.out, HT.out, B.out⟩
          case measure => have := Hlt.out; simp [intOf]; omega
         ·skip
          have HCd := Lib.hid hcd
          clear hcd Hcd
          have o_21 : x6.cell? ⟨g_o, 21, none⟩ = some (.bool false) := by rw [row_cell H_o.out]; rw [← HCd.out]; rfl
          have z_o := lt_of_heap H_o.out
          go_wp2_with fail
          go_roundw
          case rel => exact ⟨n + 1, kn, updN px kn (pk + 1), W3, _, by have := Hlt.out; omega, rfl, by go_num, HSt2.out, HAl.out, H_g.out, H_c.out, H_p.out, H_h.out, H_v.out, HT.out, B.out⟩
          case measure => have := Hlt.out; simp [intOf]; omega
    have hn32 : n = 32 := by omega
    subst hn32
    clear hlt hn
    obtain ⟨hpa, hpb⟩ := HSt.out.end_
    have HEnd := Lib.hid (HSt.out.last hpa hpb)
    obtain ⟨ch0, hc0, hl0⟩ := HAl.out.2 0 (by decide)
    obtain ⟨ch1, hc1, hl1⟩ := HAl.out.2 1 (by decide)
    rw [hpa] at hl0
    rw [hpb] at hl1
    have d0 : wr.cell? ⟨g_g, 21, none⟩ = some (.bool true) := runs_cell H_g.out hl0 (j := 21) rfl
    have d1 : wr.cell? ⟨g_g, 47, none⟩ = some (.bool true) := runs_cell H_g.out hl1 (j := 21) rfl
    have D0 := Lib.hid d0
    have D1 := Lib.hid d1
    clear hc0 hl0 hc1 hl1 d0 d1 hpa hpb
    have h_i : wr.cell? ⟨g_h, iN, none⟩ = some (.int .u64 (hC iN)) := h12_cell H_h.out (by have := Hi.out; omega)
    have z_h := lt_of_heap H_h.out
    have iI : (iN : Int) < 12 := by have := Hi.out; omega
    have iI0 : (0 : Int) ≤ (iN : Int) := by omega
    have i12 : decide ((12 : Int) ≤ (iN : Int)) = false := decide_eq_false (by omega)
    have hbd := hC_bd iN (by have := Hi.out; omega)
    go_wp2_with fail
    refine (runpackR_any (hC iN) _ (by omega) (by omega)).mono ?_
    rintro r yu ⟨rfl, hb⟩
    rw [hC_unpack iN (by have := Hi.out; omega)]
    try dsimp only
    clear h_i z_h iI iI0 i12 hbd
    replace D0 := Lib.hid (hb.cell (by have := lt_of_heap H_g.out; exact this) |>.trans D0.out)
    replace D1 := Lib.hid (hb.cell (by have := lt_of_heap H_g.out; exact this) |>.trans D1.out)
    have hsz := (hb).size
    replace H_c := Lib.hid (row_below H_c.out hb)
    replace H_p := Lib.hid (row_below H_p.out hb)
    replace H_h := Lib.hid (row_below H_h.out hb)
    replace H_v := Lib.hid (row_below H_v.out hb)
    replace H_g := Lib.hid (row_below H_g.out hb)
    replace HT := Lib.hid (HT.out.below hb)
    replace B := Lib.hid (below_only B.out hb)
    clear hb hsz
    go_upto_region 28 with fail
    refine one_row yu _ _ ?_
    intro yv hr hb
    have hru := hr
    replace D0 := Lib.hid (hb.cell (by have := lt_of_heap H_g.out; exact this) |>.trans D0.out)
    replace D1 := Lib.hid (hb.cell (by have := lt_of_heap H_g.out; exact this) |>.trans D1.out)
    have HY := Lib.hid hr
    clear hr hru
    have hsz := (hb).size
    replace H_c := Lib.hid (row_below H_c.out hb)
    replace H_p := Lib.hid (row_below H_p.out hb)
    replace H_h := Lib.hid (row_below H_h.out hb)
    replace H_v := Lib.hid (row_below H_v.out hb)
    replace H_g := Lib.hid (row_below H_g.out hb)
    replace HT := Lib.hid (HT.out.below hb)
    replace B := Lib.hid (below_only B.out hb)
    clear hb hsz
    obtain ⟨c_0, c_1, c_2, c_3, c_f0, c_f1, c_f2, c_f3⟩ := box4 H_c.out
    have z_c := lt_of_heap H_c.out
    obtain ⟨f0, f1, f2, _, _, _⟩ := box3 HY.out
    have zy := lt_of_heap HY.out
    have hkb : kC iN = oK iN := by unfold kC; rw [if_pos Hi.out.2]
    have hko : oK iN ≤ 100 := by unfold oK; have := Hi.out; omega
    have Hst : Hid (8 * (kC iN : Int) + 16 + 8 * (bN : Int) = ((stK iN bN * 8 : Nat) : Int)) := Lib.hid (by unfold stK; rw [hkb]; omega)
    have hw1 : IntKind.i64.wrap (8 * (kC iN : Int) + 16) = 8 * (kC iN : Int) + 16 := IntWalk.i64_in _ (by rw [hkb]; omega)
    have hw2 : IntKind.i64.wrap (8 * (bN : Int)) = 8 * (bN : Int) := IntWalk.i64_in _ (by have := HbN.out; omega)
    have hw3 : IntKind.i64.wrap (8 * (kC iN : Int) + 16 + 8 * (bN : Int)) = 8 * (kC iN : Int) + 16 + 8 * (bN : Int) := IntWalk.i64_in _ (by rw [hkb]; have := HbN.out; omega)
    have hkk : (kC iN : Int) ≤ 100 := by rw [hkb]; omega
    have hbb : (bN : Int) ≤ 1 := by have := HbN.out; omega
    clear hkb hko
    go_wp2_with fail
    clear c_0 c_1 c_2 c_3 c_f0 c_f1 c_f2 c_f3 z_c
    first | rw [Hst.out] | rw [hw3, Hst.out] | (rw [hw1, hw2, hw3, Hst.out])
    refine (arnWord_any p b ws (stK iN bN) (hC (vx s)) _ HT.out.a HEnd.out).mono ?_
    rintro r za ⟨rfl, e2⟩
    rw [e2]
    clear e2 za f0 f1 f2 zy hw1 hw2 hw3 hkk hbb
    obtain ⟨vs, Hvs⟩ : ∃ x : Nat, Hid (vx s = x ∧ x < 9) := ⟨vx s, Lib.hid ⟨rfl, (Hvx.out.2.2 s HSt.out.s2).1⟩⟩
    rw [Hvs.out.1]
    have v_s := two_cell H_v.out HSt.out.s2 Hvx.out.1 Hvx.out.2.1 Hvs.out.1
    have z_v := lt_of_heap H_v.out
    have h_v : yv.cell? ⟨g_h, vs, none⟩ = some (.int .u64 (hC vs)) := h12_cell H_h.out (by have := Hvs.out; omega)
    have z_h := lt_of_heap H_h.out
    have z_g := lt_of_heap H_g.out
    have d0 := D0.out
    have d1 := D1.out
    have sI : (s : Int) < 2 := by have := HSt.out.s2; omega
    have sI0 : (0 : Int) ≤ (s : Int) := by omega
    have sB : decide ((2 : Int) ≤ (s : Int)) = false := decide_eq_false (by omega)
    have vI : (vs : Int) < 12 := by have := Hvs.out; omega
    have vI0 : (0 : Int) ≤ (vs : Int) := by omega
    have v12 : decide ((12 : Int) ≤ (vs : Int)) = false := decide_eq_false (by omega)
    have B2 := B.out
    clear B
    go_wp2_with fail
    go_ret
    exact ⟨rfl, B2⟩
end Go.Proofs.YtnimaajnlkbdaaaGreat
