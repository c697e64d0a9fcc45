/- Layer 13: the walk of BeginStarts. -/
import Derived.Test.YtaneokplagdcfaaBeginLaw
import Derived.Test.YtaneokplagdcfaaBeginOpen
import Derived.Test.YtaneokplagdcfaaOrderPlain
namespace Go.Proofs.Ytaneokplagdcfaa
open Go.RowKit
set_option linter.unusedVariables false
set_option linter.unusedSimpArgs false
set_option maxRecDepth 100000 in
set_option maxHeartbeats 2000000 in
theorem beginStarts_walk (ps pt pi ph q0 q1 q2 q3 : Int) (A : Option Addr) (k : Nat) (l : List Ent) (c : Cal) (co n : Int) (w : World) (w0 : (Lit.int .i64 ps).wf = true) (w1 : (Lit.int .i64 pt).wf = true) (w2 : (Lit.int .i64 pi).wf = true) (w3 : (Lit.int .i64 ph).wf = true)
    (w4 : (Lit.int .u64 q0).wf = true) (w5 : (Lit.int .u64 q1).wf = true) (w6 : (Lit.int .u64 q2).wf = true) (w7 : (Lit.int .u64 q3).wf = true) (hl : l.length ≤ k ∧ k ≤ maxLen ∧ Ents w A l) (hc : CalOk c) :
    Calls Try.prog 6 #[.agg #[.int .i64 ps, .int .i64 pt, .int .i64 pi, .int .i64 ph], .agg #[.int .u64 q0, .int .u64 q1, .int .u64 q2, .int .u64 q3], .agg #[.slice A l.length k, .int .u8 c.op, .int .u8 c.r, .int .u8 c.h, .int .u8 c.v, .int .i64 c.a, .int .i64 c.b, .int .i64 c.c, .int .i64 co, .int .i64 n]] w fun r w' => r = .returned (.bool true) ∧ Below w.heap.size w w' := by
  obtain ⟨hlk, hkm, he⟩ := hl
  have hlm : l.length ≤ 9223372036854775807 := by unfold maxLen at hkm; omega
  have Hcal := Lib.hid hc
  have Hq : Hid (Regs4 q0 q1 q2 q3) := Lib.hid ⟨wf_u64 w4, wf_u64 w5, wf_u64 w6, wf_u64 w7⟩
  obtain ⟨Pf, HPf⟩ : ∃ x, Hid (fitP ⟨ps, pt, pi, ph⟩ = x) := ⟨_, Lib.hid rfl⟩
  have Hs : Hid (1 ≤ Pf.s ∧ Pf.s ≤ 8) := Lib.hid (by rw [← HPf.out]; exact ⟨(fitP_ok _).1, (fitP_ok _).2.1⟩)
  obtain ⟨L, HL⟩ : ∃ x, Hid (fit l = x) := ⟨_, Lib.hid rfl⟩
  have hl1 : L.length ≤ 1048576 := by rw [← HL.out]; have := (fit_good l).2; omega
  obtain ⟨hv, Hhv⟩ : ∃ x, Hid (regR q0 q1 q2 q3 c.h = x) := ⟨_, Lib.hid rfl⟩
  obtain ⟨vv, Hvv⟩ : ∃ x, Hid (regR q0 q1 q2 q3 c.v = x) := ⟨_, Lib.hid rfl⟩
  have He := Lib.hid he
  clear he hc w0 w1 w2 w3 w4 w5 w6 w7 hkm
  go_enter Try.func6, Try.ntmps6
  go_upto_region 1 with fail
  refine three_rows w _ _ _ _ _ _ ?_
  intro W hR0 hR1 hR2 hB
  have B_W := Lib.hid (hB)
  have H_P := Lib.hid (show W.heap[w.heap.size]? = some (.cells #[.int .i64 ps, .int .i64 pt, .int .i64 pi, .int .i64 ph] 23 (0, 0)) from hR0)
  have H_r := Lib.hid (show W.heap[(w.heap.size + 1)]? = some (.cells #[.int .u64 q0, .int .u64 q1, .int .u64 q2, .int .u64 q3] 25 (0, 0)) from hR1)
  have H_c := Lib.hid (show W.heap[(w.heap.size + 1 + 1)]? = some (.cells #[.slice A l.length k, .int .u8 c.op, .int .u8 c.r, .int .u8 c.h, .int .u8 c.v, .int .i64 c.a, .int .i64 c.b, .int .i64 c.c, .int .i64 co, .int .i64 n] 31 (0, 0)) from hR2)
  have E_0 := Lib.hid (Cells.below He.out hB)
  clear hR0 hR1 hR2 hB
  have BB := B_W
  go_wp2_with fail
  refine (shown13_any _).mono ?_
  rintro r w1 ⟨rfl, hb⟩
  have B_w1 := Lib.hid (BB.out.trans (hb.mono BB.out.size))
  replace H_P := Lib.hid (row_below H_P.out hb)
  replace H_r := Lib.hid (row_below H_r.out hb)
  replace H_c := Lib.hid (row_below H_c.out hb)
  replace E_0 := Lib.hid (Cells.below E_0.out hb)
  clear BB hb B_W
  have z_P := lt_of_heap H_P.out
  obtain ⟨P_0, P_1, P_2, P_3, P_f0, P_f1, P_f2, P_f3⟩ := box4 H_P.out
  go_wp2_with fail
  have BB := B_w1
  clear z_P P_0 P_1 P_2 P_3 P_f0 P_f1 P_f2 P_f3
  refine (fit_plan ⟨ps, pt, pi, ph⟩ _).mono ?_
  rintro r w2 ⟨rfl, hb⟩
  rw [HPf.out]
  have B_w2 := Lib.hid (BB.out.trans (hb.mono BB.out.size))
  replace H_P := Lib.hid (row_below H_P.out hb)
  replace H_r := Lib.hid (row_below H_r.out hb)
  replace H_c := Lib.hid (row_below H_c.out hb)
  replace E_0 := Lib.hid (Cells.below E_0.out hb)
  clear BB hb B_w1
  have z_c := lt_of_heap H_c.out
  obtain ⟨c_0, c_1, c_2, c_3, c_4, c_5, c_6, c_7, c_8, c_9⟩ := box10 H_c.out
  go_wp2_with fail
  have BB := Lib.hid (show Below w.heap.size w (w2.alloc (.cells #[.int .i64 Pf.s, .int .i64 Pf.t, .int .i64 Pf.i, .int .i64 Pf.h] 23)) by have hb0 := B_w2.out; have hz0 := hb0.size; go_grown)
  replace H_r := Lib.hid (row_alloc (o' := .cells #[.int .i64 Pf.s, .int .i64 Pf.t, .int .i64 Pf.i, .int .i64 Pf.h] 23) (H_r.out))
  replace H_c := Lib.hid (row_alloc (o' := .cells #[.int .i64 Pf.s, .int .i64 Pf.t, .int .i64 Pf.i, .int .i64 Pf.h] 23) (H_c.out))
  have H_p := Lib.hid (show (w2.alloc (.cells #[.int .i64 Pf.s, .int .i64 Pf.t, .int .i64 Pf.i, .int .i64 Pf.h] 23)).heap[w2.heap.size]? = some (.cells #[.int .i64 Pf.s, .int .i64 Pf.t, .int .i64 Pf.i, .int .i64 Pf.h] 23 (0, 0)) from row_new _ _ _)
  obtain ⟨g_p, hg_p⟩ : ∃ x, x = w2.heap.size := ⟨_, rfl⟩
  replace E_0 := Lib.hid (Cells.alloc (E_0.out) (.cells #[.int .i64 Pf.s, .int .i64 Pf.t, .int .i64 Pf.i, .int .i64 Pf.h] 23))
  clear z_c c_0 c_1 c_2 c_3 c_4 c_5 c_6 c_7 c_8 c_9
  refine (fit_any A k l _ hlm E_0.out).mono ?_
  rintro r w3 ⟨v1, rfl, A1, k1, rfl, hk1, hcs1, hfr1, hb⟩
  rw [HL.out] at hk1 hcs1 ⊢
  have B_w3 := Lib.hid (BB.out.trans (hb.mono BB.out.size))
  replace H_r := Lib.hid (row_below H_r.out hb)
  replace H_c := Lib.hid (row_below H_c.out hb)
  replace H_p := Lib.hid (row_below H_p.out hb)
  replace E_0 := Lib.hid (Cells.below E_0.out hb)
  clear BB hb B_w2
  rw [← hg_p] at H_p ⊢
  clear hg_p
  have E_l := Lib.hid (hcs1)
  clear hcs1 hfr1 H_P
  have z_c := lt_of_heap H_c.out
  obtain ⟨c_0, c_1, c_2, c_3, c_4, c_5, c_6, c_7, c_8, c_9⟩ := box10 H_c.out
  go_wp2_with fail
  have BB := B_w3
  clear z_c c_0 c_1 c_2 c_3 c_4 c_5 c_6 c_7 c_8 c_9
  refine (fit_any A k l _ hlm E_0.out).mono ?_
  rintro r w4 ⟨v2, rfl, A2, k2, rfl, hk2, hcs2, hfr2, hb⟩
  rw [HL.out] at hk2 hcs2 ⊢
  have B_w4 := Lib.hid (BB.out.trans (hb.mono BB.out.size))
  replace H_r := Lib.hid (row_below H_r.out hb)
  replace H_c := Lib.hid (row_below H_c.out hb)
  replace H_p := Lib.hid (row_below H_p.out hb)
  replace E_0 := Lib.hid (Cells.below E_0.out hb)
  replace E_l := Lib.hid (Cells.below E_l.out hb)
  clear BB hb B_w3
  have E_m := Lib.hid (hcs2)
  clear E_0 hcs2 hfr2
  have z_p := lt_of_heap H_p.out
  obtain ⟨p_0, p_1, p_2, p_3, p_f0, p_f1, p_f2, p_f3⟩ := box4 H_p.out
  have z_r := lt_of_heap H_r.out
  obtain ⟨r_0, r_1, r_2, r_3, r_f0, r_f1, r_f2, r_f3⟩ := box4 H_r.out
  have z_c := lt_of_heap H_c.out
  obtain ⟨c_0, c_1, c_2, c_3, c_4, c_5, c_6, c_7, c_8, c_9⟩ := box10 H_c.out
  go_upto_region 5 with fail
  go_cut [11] from 11 to 35 (fun v wx => ∃ (g kc : Nat) (cA : Option Addr), v = .pointer (some ⟨g, 0, none⟩) ∧ w4.heap.size ≤ g ∧ wx.heap[g]? = some (.cells (Rn.arr (beginRn Pf.s L c hv vv ⟨cA, L.length, kc⟩)) 39 (0, 0)) ∧ Ents wx cA L ∧ Below w4.heap.size w4 wx)
  case first =>
    refine wp_region_held_drew (S := Old w4) (by kernel_rfl) (old_of (by go_grown)) ?_
    intro hS
    generalize w4.drew = y0 at hS ⊢
    refine wpAnyH_take_at (i := 0) (v := ?v0x23) (some 30) rfl rfl (by kernel_rfl) (by kernel_rfl) (by kernel_rfl) (fun _ _ _ h => h) (Or.inl ⟨by kernel_rfl, ?h0x23⟩) (by assumption) ?r0x23
    case h0x23 => (intro w hSw; (try dsimp only at hSw); go_simp; first | done | (with_reducible rfl))
    try simp only [Act.put]
    try simp only [List.setIfInBounds_toArray]
    try simp only [List.set_cons_succ]
    try simp only [List.set_cons_zero]
    refine wpAnyH_take_at (i := 1) (v := ?v1x24) (some 31) rfl rfl (by kernel_rfl) (by kernel_rfl) (by kernel_rfl) (fun _ _ _ h => h) (Or.inl ⟨by kernel_rfl, ?h1x24⟩) (by assumption) ?r1x24
    case h1x24 => (intro w hSw; (try dsimp only at hSw); go_simp; first | done | (with_reducible rfl))
    try simp only [Act.put]
    try simp only [List.setIfInBounds_toArray]
    try simp only [List.set_cons_succ]
    try simp only [List.set_cons_zero]
    refine wpAnyH_take_at (i := 2) (v := ?v2x25) (some 32) rfl rfl (by kernel_rfl) (by kernel_rfl) (by kernel_rfl) (fun _ _ _ h => h) (Or.inl ⟨by kernel_rfl, ?h2x25⟩) (by assumption) ?r2x25
    case h2x25 => (intro w hSw; (try dsimp only at hSw); go_simp; first | done | (with_reducible rfl))
    try simp only [Act.put]
    try simp only [List.setIfInBounds_toArray]
    try simp only [List.set_cons_succ]
    try simp only [List.set_cons_zero]
    refine wpAnyH_take_at (i := 3) (v := ?v3x26) (some 33) rfl rfl (by kernel_rfl) (by kernel_rfl) (by kernel_rfl) (fun _ _ _ h => h) (Or.inl ⟨by kernel_rfl, ?h3x26⟩) (by assumption) ?r3x26
    case h3x26 => (intro w hSw; (try dsimp only at hSw); go_simp; first | done | (with_reducible rfl))
    try simp only [Act.put]
    try simp only [List.setIfInBounds_toArray]
    try simp only [List.set_cons_succ]
    try simp only [List.set_cons_zero]
    refine wpAnyH_take_at (i := 4) (v := ?v4x27) (some 34) rfl rfl (by kernel_rfl) (by kernel_rfl) (by kernel_rfl) (fun _ _ _ h => h) (Or.inl ⟨by kernel_rfl, ?h4x27⟩) (by assumption) ?r4x27
    case h4x27 => (intro w hSw; (try dsimp only at hSw); go_simp; first | done | (with_reducible rfl))
    try simp only [Act.put]
    try simp only [List.setIfInBounds_toArray]
    try simp only [List.set_cons_succ]
    try simp only [List.set_cons_zero]
    refine wpAnyH_ready (rs := [5, 6]) (by kernel_rfl) (by simp) ?_
    refine AllReadyH.cons rfl (fun K hK => ?_) (AllReadyH.cons rfl (fun K hK => ?_) AllReadyH.nil)
    · skip
      go_simp
      refine (of_any_at Pf A1 k1 L c q0 q1 q2 q3 hv vv (w.heap.size + 1) _ hk1 hl1 (Cells.below E_l.out hS.1) Hs.out.1 Hs.out.2 Hcal.out Hq.out Hhv.out Hvv.out ?_).mono ?_
      exact ⟨cell_later hS.1 r_0, cell_later hS.1 r_1, cell_later hS.1 r_2, cell_later hS.1 r_3⟩
      rintro r yC ⟨kc, cA, rfl, hcs, hC⟩
      go_simp
      have oC := below_only hS.1 hC
      refine hK.out _ _ (old_of oC) (fun hS => ?_)
      clear hK K
      try simp only [Act.put]
      try simp only [List.setIfInBounds_toArray]
      try simp only [List.set_cons_succ]
      try simp only [List.set_cons_zero]
      refine wpAnyH_ready (rs := [6]) (by kernel_rfl) (by simp) ?_
      refine AllReadyH.cons rfl (fun K hK => ?_) AllReadyH.nil
      refine step_alloc_run (some 11) rfl rfl rfl ?_
      refine k_alloc (fun yA hZ hA => ?_)
      have oA := below_only hS.1 hA
      have hgZ : w4.heap.size ≤ yC.heap.size := hS.1.size
      have hfar : ∀ a, 0 < L.length → cA = some a → a.block ≠ yC.heap.size := ents_far hcs.1 (Nat.le_refl _)
      replace hcs : Ents yA cA L ∧ True := ⟨Cells.below hcs.1 hA, trivial⟩
      obtain ⟨gZ, HgZ⟩ : ∃ x, x = yC.heap.size := ⟨_, rfl⟩
      rw [← HgZ] at hZ hgZ hfar ⊢
      clear HgZ
      refine hK.out _ _ (old_of oA) (fun hS => ?_)
      clear hK K
      try simp only [Act.put]
      try simp only [List.setIfInBounds_toArray]
      try simp only [List.set_cons_succ]
      try simp only [List.set_cons_zero]
      refine wpAnyH_ready (rs := [7]) (by kernel_rfl) (by simp) ?_
      refine AllReadyH.cons rfl (fun K hK => ?_) AllReadyH.nil
      refine step_store_row none rfl rfl 39 (.tmp 11) (.tmp 35) rfl gZ _ rfl rfl 39 ZRun hZ infoRun rfl (Rn.one _) ?_
      refine hK.out _ _ (old_of (below_setRow hS.1 hgZ _)) (fun hS => ?_)
      clear hK K
      try simp only [Act.put]
      try simp only [List.setIfInBounds_toArray]
      try simp only [List.set_cons_succ]
      try simp only [List.set_cons_zero]
      refine wpAnyH_done (by kernel_rfl) ?_ _
      go_wp2_with fail
      go_meet
      exact ⟨gZ, kc, cA, rfl, hgZ, setRow_heap _ _ _ _ _ _ hZ, ents_setRow hcs.1 hfar _, below_setRow (by assumption) hgZ _⟩
    · skip
      refine step_alloc_run (some 11) rfl rfl rfl ?_
      refine k_alloc (fun yA hZ hA => ?_)
      have oA := below_only hS.1 hA
      have hgZ : w4.heap.size ≤ y0.heap.size := hS.1.size
      obtain ⟨gZ, HgZ⟩ : ∃ x, x = y0.heap.size := ⟨_, rfl⟩
      rw [← HgZ] at hZ hgZ ⊢
      clear HgZ
      refine hK.out _ _ (old_of oA) (fun hS => ?_)
      clear hK K
      try simp only [Act.put]
      try simp only [List.setIfInBounds_toArray]
      try simp only [List.set_cons_succ]
      try simp only [List.set_cons_zero]
      refine wpAnyH_ready (rs := [5]) (by kernel_rfl) (by simp) ?_
      refine AllReadyH.cons rfl (fun K hK => ?_) AllReadyH.nil
      go_simp
      refine (of_any_at Pf A1 k1 L c q0 q1 q2 q3 hv vv (w.heap.size + 1) _ hk1 hl1 (Cells.below E_l.out hS.1) Hs.out.1 Hs.out.2 Hcal.out Hq.out Hhv.out Hvv.out ?_).mono ?_
      exact ⟨cell_later hS.1 r_0, cell_later hS.1 r_1, cell_later hS.1 r_2, cell_later hS.1 r_3⟩
      rintro r yC ⟨kc, cA, rfl, hcs, hC⟩
      go_simp
      have oC := below_only hS.1 hC
      have hZ0 := hZ
      replace hZ := row_below hZ hC
      have hfar : ∀ a, 0 < L.length → cA = some a → a.block ≠ gZ := fun a h0 ha => by have := hcs.2 a h0 ha; have := lt_of_heap hZ0; omega
      clear hZ0
      refine hK.out _ _ (old_of oC) (fun hS => ?_)
      clear hK K
      try simp only [Act.put]
      try simp only [List.setIfInBounds_toArray]
      try simp only [List.set_cons_succ]
      try simp only [List.set_cons_zero]
      refine wpAnyH_ready (rs := [7]) (by kernel_rfl) (by simp) ?_
      refine AllReadyH.cons rfl (fun K hK => ?_) AllReadyH.nil
      refine step_store_row none rfl rfl 39 (.tmp 11) (.tmp 35) rfl gZ _ rfl rfl 39 ZRun hZ infoRun rfl (Rn.one _) ?_
      refine hK.out _ _ (old_of (below_setRow hS.1 hgZ _)) (fun hS => ?_)
      clear hK K
      try simp only [Act.put]
      try simp only [List.setIfInBounds_toArray]
      try simp only [List.set_cons_succ]
      try simp only [List.set_cons_zero]
      refine wpAnyH_done (by kernel_rfl) ?_ _
      go_wp2_with fail
      go_meet
      exact ⟨gZ, kc, cA, rfl, hgZ, setRow_heap _ _ _ _ _ _ hZ, ents_setRow hcs.1 hfar _, below_setRow (by assumption) hgZ _⟩
  case rest =>
    obtain ⟨g_x, k_x, A_x, rfl, hg_x, hR, hE, hb⟩ := hcut
    obtain ⟨wX, hwn⟩ : ∃ x, x = wc := ⟨_, rfl⟩
    subst hwn
    have BB := B_w4
    clear z_p p_0 p_1 p_2 p_3 p_f0 p_f1 p_f2 p_f3 z_r r_0 r_1 r_2 r_3 r_f0 r_f1 r_f2 r_f3 z_c c_0 c_1 c_2 c_3 c_4 c_5 c_6 c_7 c_8 c_9
    have B_wX := Lib.hid (BB.out.trans (hb.mono BB.out.size))
    replace H_r := Lib.hid (row_below H_r.out hb)
    replace H_c := Lib.hid (row_below H_c.out hb)
    replace H_p := Lib.hid (row_below H_p.out hb)
    replace E_l := Lib.hid (Cells.below E_l.out hb)
    replace E_m := Lib.hid (Cells.below E_m.out hb)
    clear BB hb B_w4
    have H_x := Lib.hid (show wX.heap[g_x]? = some (.cells (Rn.arr (beginRn Pf.s L c hv vv ⟨A_x, L.length, k_x⟩)) 39 (0, 0)) from hR)
    have E_x := Lib.hid (hE)
    clear hR hE
    obtain ⟨cov, Hcov⟩ : ∃ x, Hid ((beginS Pf.s L c hv vv).1 = x) := ⟨_, Lib.hid rfl⟩
    obtain ⟨pcv, Hpcv⟩ : ∃ x, Hid ((if (beginS Pf.s L c hv vv).1 = 0 then (beginS Pf.s L c hv vv).2 else 0) = x) := ⟨_, Lib.hid rfl⟩
    have Hor : Hid (pcv = 0 ∨ cov = 0) := Lib.hid (by
      rw [← Hpcv.out, ← Hcov.out]
      by_cases h : (beginS Pf.s L c hv vv).1 = 0
      · exact .inr h
      · exact .inl (if_neg h))
    have e2 : beginRn Pf.s L c hv vv ⟨A_x, L.length, k_x⟩ = ⟨c, pcv, area L, hv, vv, ⟨A_x, L.length, k_x⟩, 0, 0, 0, 0, noS, 0, noS, 0, false, false, false, cov, 0, noS⟩ := by simp only [beginRn]; rw [Hpcv.out, Hcov.out]
    have hx' := H_x.out
    rw [e2] at hx'
    clear H_x e2
    have H_x := Lib.hid hx'
    clear hx'
    have z_c := lt_of_heap H_c.out
    obtain ⟨c_0, c_1, c_2, c_3, c_4, c_5, c_6, c_7, c_8, c_9⟩ := box10 H_c.out
    go_wp2_with (first | refine wpList_load_row rfl 39 (.tmp 11) rfl g_x rfl 39 (Rn.arr ⟨c, pcv, area L, hv, vv, ⟨A_x, L.length, k_x⟩, 0, 0, 0, 0, noS, 0, noS, 0, false, false, false, cov, 0, noS⟩) (0, 0) _ H_x.out undRun rfl infoRun ?_)
    have BB := B_wX
    clear z_c c_0 c_1 c_2 c_3 c_4 c_5 c_6 c_7 c_8 c_9
    refine (tell_any ⟨c, pcv, area L, hv, vv, ⟨A_x, L.length, k_x⟩, 0, 0, 0, 0, noS, 0, noS, 0, false, false, false, cov, 0, noS⟩ co n _ rfl).mono ?_
    rintro r w9 ⟨rfl, hb⟩
    have B_w9 := Lib.hid (BB.out.trans (hb.mono BB.out.size))
    replace H_r := Lib.hid (row_below H_r.out hb)
    replace H_c := Lib.hid (row_below H_c.out hb)
    replace H_p := Lib.hid (row_below H_p.out hb)
    replace H_x := Lib.hid (row_below H_x.out hb)
    replace E_l := Lib.hid (Cells.below E_l.out hb)
    replace E_m := Lib.hid (Cells.below E_m.out hb)
    replace E_x := Lib.hid (Cells.below E_x.out hb)
    clear BB hb B_wX
    go_upto_region 7 with (first | refine wpList_store_row rfl 39 (.tmp 12) (.tmp 41) rfl w9.heap.size _ rfl rfl 39 _ (row_new _ _ _) infoRun rfl (Rn.one _) ?_)
    refine alloc_set w9 _ _ _ ?_
    intro w10 hR hb
    have BB := B_w9
    have B_w10 := Lib.hid (BB.out.trans (hb.mono BB.out.size))
    replace H_r := Lib.hid (row_below H_r.out hb)
    replace H_c := Lib.hid (row_below H_c.out hb)
    replace H_p := Lib.hid (row_below H_p.out hb)
    replace H_x := Lib.hid (row_below H_x.out hb)
    replace E_l := Lib.hid (Cells.below E_l.out hb)
    replace E_m := Lib.hid (Cells.below E_m.out hb)
    replace E_x := Lib.hid (Cells.below E_x.out hb)
    clear BB hb B_w9
    have H_t := Lib.hid (show w10.heap[w9.heap.size]? = some (.cells (Rn.arr ⟨c, pcv, area L, hv, vv, ⟨A_x, L.length, k_x⟩, 0, 0, 0, 0, noS, 0, noS, 0, false, true, true, co, n, noS⟩) 39 (0, 0)) from hR)
    clear hR
    obtain ⟨g_t, hg_t⟩ : ∃ x, x = w9.heap.size := ⟨_, rfl⟩
    rw [← hg_t] at H_t ⊢
    clear hg_t
    have z_x := lt_of_heap H_x.out
    obtain ⟨x_0, x_1, x_2, x_3, x_4, x_5, x_6, x_7, x_8, x_9, x_10, x_11, x_12, x_13, x_14, x_15, x_16, x_17, x_18, x_19, x_20, x_21, x_22, x_23, x_24, x_25⟩ := run_box H_x.out
    go_wp2_with fail
    have BB := B_w10
    clear z_x x_0 x_1 x_2 x_3 x_4 x_5 x_6 x_7 x_8 x_9 x_10 x_11 x_12 x_13 x_14 x_15 x_16 x_17 x_18 x_19 x_20 x_21 x_22 x_23 x_24 x_25
    refine (same_any A_x A2 k_x k2 L L _ (by omega) (by omega) E_x.out E_m.out).mono ?_
    rintro r w11 ⟨rfl, hb⟩
    rw [show decide (L = L) = true from decide_eq_true rfl]
    have B_w11 := Lib.hid (BB.out.trans (hb.mono BB.out.size))
    replace H_r := Lib.hid (row_below H_r.out hb)
    replace H_c := Lib.hid (row_below H_c.out hb)
    replace H_p := Lib.hid (row_below H_p.out hb)
    replace H_x := Lib.hid (row_below H_x.out hb)
    replace H_t := Lib.hid (row_below H_t.out hb)
    replace E_l := Lib.hid (Cells.below E_l.out hb)
    replace E_m := Lib.hid (Cells.below E_m.out hb)
    replace E_x := Lib.hid (Cells.below E_x.out hb)
    clear BB hb B_w10
    go_wp2_with fail
    have BB := B_w11
    refine (same_any A1 A2 k1 k2 L L _ (by omega) (by omega) E_l.out E_m.out).mono ?_
    rintro r w12 ⟨rfl, hb⟩
    rw [show decide (L = L) = true from decide_eq_true rfl]
    have B_w12 := Lib.hid (BB.out.trans (hb.mono BB.out.size))
    replace H_r := Lib.hid (row_below H_r.out hb)
    replace H_c := Lib.hid (row_below H_c.out hb)
    replace H_p := Lib.hid (row_below H_p.out hb)
    replace H_x := Lib.hid (row_below H_x.out hb)
    replace H_t := Lib.hid (row_below H_t.out hb)
    replace E_l := Lib.hid (Cells.below E_l.out hb)
    replace E_m := Lib.hid (Cells.below E_m.out hb)
    replace E_x := Lib.hid (Cells.below E_x.out hb)
    clear BB hb B_w11
    have z_t := lt_of_heap H_t.out
    obtain ⟨t_0, t_1, t_2, t_3, t_4, t_5, t_6, t_7, t_8, t_9, t_10, t_11, t_12, t_13, t_14, t_15, t_16, t_17, t_18, t_19, t_20, t_21, t_22, t_23, t_24, t_25⟩ := run_box H_t.out
    go_wp2_with fail
    have BB := B_w12
    clear z_t t_0 t_1 t_2 t_3 t_4 t_5 t_6 t_7 t_8 t_9 t_10 t_11 t_12 t_13 t_14 t_15 t_16 t_17 t_18 t_19 t_20 t_21 t_22 t_23 t_24 t_25
    refine (same_any A_x A2 k_x k2 L L _ (by omega) (by omega) E_x.out E_m.out).mono ?_
    rintro r w13 ⟨rfl, hb⟩
    rw [show decide (L = L) = true from decide_eq_true rfl]
    have B_w13 := Lib.hid (BB.out.trans (hb.mono BB.out.size))
    replace H_r := Lib.hid (row_below H_r.out hb)
    replace H_c := Lib.hid (row_below H_c.out hb)
    replace H_p := Lib.hid (row_below H_p.out hb)
    replace H_x := Lib.hid (row_below H_x.out hb)
    replace H_t := Lib.hid (row_below H_t.out hb)
    replace E_l := Lib.hid (Cells.below E_l.out hb)
    replace E_m := Lib.hid (Cells.below E_m.out hb)
    replace E_x := Lib.hid (Cells.below E_x.out hb)
    clear BB hb B_w12
    have z_x := lt_of_heap H_x.out
    obtain ⟨x_0, x_1, x_2, x_3, x_4, x_5, x_6, x_7, x_8, x_9, x_10, x_11, x_12, x_13, x_14, x_15, x_16, x_17, x_18, x_19, x_20, x_21, x_22, x_23, x_24, x_25⟩ := run_box H_x.out
    have z_t := lt_of_heap H_t.out
    obtain ⟨t_0, t_1, t_2, t_3, t_4, t_5, t_6, t_7, t_8, t_9, t_10, t_11, t_12, t_13, t_14, t_15, t_16, t_17, t_18, t_19, t_20, t_21, t_22, t_23, t_24, t_25⟩ := run_box H_t.out
    have z_c := lt_of_heap H_c.out
    obtain ⟨c_0, c_1, c_2, c_3, c_4, c_5, c_6, c_7, c_8, c_9⟩ := box10 H_c.out
    have z_r := lt_of_heap H_r.out
    obtain ⟨r_0, r_1, r_2, r_3, r_f0, r_f1, r_f2, r_f3⟩ := box4 H_r.out
    obtain ⟨ch0, ch1⟩ := Hcal.out.h
    obtain ⟨cv0, cv1⟩ := Hcal.out.v
    go_upto_if 111 with fail
    go_cut [17] from 17 to 116 (fun v wx => v = .int .u64 hv ∧ w13 = wx)
    case first =>
      by_cases h4 : 4 ≤ c.h
      · have h0 : hv = 0 := by
          rw [← Hhv.out]
          unfold regR
          rw [if_neg (by omega), if_neg (by omega), if_neg (by omega), if_neg (by omega)]
        have H0 := Lib.hid h0
        clear h0
        go_wp2_with fail
        all_goals first | omega | (go_meet; exact ⟨by rw [H0.out], rfl⟩)
      · obtain h | h | h | h : c.h = 0 ∨ c.h = 1 ∨ c.h = 2 ∨ c.h = 3 := by omega
        · have hq : hv = q0 := by rw [← Hhv.out, h]; rfl
          have HQ := Lib.hid hq
          rw [h] at c_3
          have hle : c.h ≤ 0 := by omega
          have hge : 0 ≤ c.h := by omega
          clear h4 hq h
          go_wp2_with fail
          all_goals first | omega | (go_meet; exact ⟨by rw [HQ.out], rfl⟩)
        · have hq : hv = q1 := by rw [← Hhv.out, h]; rfl
          have HQ := Lib.hid hq
          rw [h] at c_3
          have hle : c.h ≤ 1 := by omega
          have hge : 1 ≤ c.h := by omega
          clear h4 hq h
          go_wp2_with fail
          all_goals first | omega | (go_meet; exact ⟨by rw [HQ.out], rfl⟩)
        · have hq : hv = q2 := by rw [← Hhv.out, h]; rfl
          have HQ := Lib.hid hq
          rw [h] at c_3
          have hle : c.h ≤ 2 := by omega
          have hge : 2 ≤ c.h := by omega
          clear h4 hq h
          go_wp2_with fail
          all_goals first | omega | (go_meet; exact ⟨by rw [HQ.out], rfl⟩)
        · have hq : hv = q3 := by rw [← Hhv.out, h]; rfl
          have HQ := Lib.hid hq
          rw [h] at c_3
          have hle : c.h ≤ 3 := by omega
          have hge : 3 ≤ c.h := by omega
          clear h4 hq h
          go_wp2_with fail
          all_goals first | omega | (go_meet; exact ⟨by rw [HQ.out], rfl⟩)
    case rest =>
      obtain ⟨rfl, rfl⟩ := hcut
      go_upto_if 120 with fail
      go_cut [18] from 18 to 125 (fun v wx => v = .int .u64 vv ∧ w13 = wx)
      case first =>
        by_cases h4 : 4 ≤ c.v
        · have h0 : vv = 0 := by
            rw [← Hvv.out]
            unfold regR
            rw [if_neg (by omega), if_neg (by omega), if_neg (by omega), if_neg (by omega)]
          have H0 := Lib.hid h0
          clear h0
          go_wp2_with fail
          all_goals first | omega | (go_meet; exact ⟨by rw [H0.out], rfl⟩)
        · obtain h | h | h | h : c.v = 0 ∨ c.v = 1 ∨ c.v = 2 ∨ c.v = 3 := by omega
          · have hq : vv = q0 := by rw [← Hvv.out, h]; rfl
            have HQ := Lib.hid hq
            rw [h] at c_4
            have hle : c.v ≤ 0 := by omega
            have hge : 0 ≤ c.v := by omega
            clear h4 hq h
            go_wp2_with fail
            all_goals first | omega | (go_meet; exact ⟨by rw [HQ.out], rfl⟩)
          · have hq : vv = q1 := by rw [← Hvv.out, h]; rfl
            have HQ := Lib.hid hq
            rw [h] at c_4
            have hle : c.v ≤ 1 := by omega
            have hge : 1 ≤ c.v := by omega
            clear h4 hq h
            go_wp2_with fail
            all_goals first | omega | (go_meet; exact ⟨by rw [HQ.out], rfl⟩)
          · have hq : vv = q2 := by rw [← Hvv.out, h]; rfl
            have HQ := Lib.hid hq
            rw [h] at c_4
            have hle : c.v ≤ 2 := by omega
            have hge : 2 ≤ c.v := by omega
            clear h4 hq h
            go_wp2_with fail
            all_goals first | omega | (go_meet; exact ⟨by rw [HQ.out], rfl⟩)
          · have hq : vv = q3 := by rw [← Hvv.out, h]; rfl
            have HQ := Lib.hid hq
            rw [h] at c_4
            have hle : c.v ≤ 3 := by omega
            have hge : 3 ≤ c.v := by omega
            clear h4 hq h
            go_wp2_with fail
            all_goals first | omega | (go_meet; exact ⟨by rw [HQ.out], rfl⟩)
      case rest =>
        obtain ⟨rfl, rfl⟩ := hcut
        by_cases hpc : pcv = 0
        · have d1 : (pcv == 0) = true := by simpa using hpc
          have Hpc0 := Lib.hid hpc
          clear hpc
          go_wp2_with fail
          go_quiet ((go_at_call 20; exact Calls.quiet_of_same (rarea_any A2 k2 L _ (by omega) (by first | exact E_m.out | exact Cells.drewN E_m.out _ | exact Cells.drew E_m.out)))) 
          have B := B_w13.out
          clear B_w13
          go_wp2_with fail
          go_ret
          exact ⟨by first | rfl | simp, by first | exact B | exact below_drewN B _ | (repeat (first | exact B | refine below_drewN ?_ _ | refine Below.drew ?_))⟩
        · have d1 : (pcv == 0) = false := by simpa using hpc
          have hz : cov = 0 := Hor.out.resolve_left hpc
          have d2 : (cov == 0) = true := by simpa using hz
          have Hz := Lib.hid hz
          clear hz hpc
          go_wp2_with fail
          go_quiet ((go_at_call 20; exact Calls.quiet_of_same (rarea_any A2 k2 L _ (by omega) (by first | exact E_m.out | exact Cells.drewN E_m.out _ | exact Cells.drew E_m.out)))) 
          have B := B_w13.out
          clear B_w13
          go_wp2_with fail
          go_ret
          exact ⟨by first | rfl | simp, by first | exact B | exact below_drewN B _ | (repeat (first | exact B | refine below_drewN ?_ _ | refine Below.drew ?_))⟩

end Go.Proofs.Ytaneokplagdcfaa
