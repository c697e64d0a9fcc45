/- Layer 13: the walk of BeginAll. -/
import Derived.Test.YtaneokplagdcfaaBeginLaw
import Derived.Test.YtaneokplagdcfaaBeginOpen
import Derived.Test.YtaneokplagdcfaaOrderPlain
namespace Go.Proofs.Ytaneokplagdcfaa
open Go.RowKit
set_option linter.unusedVariables false
set_option linter.unusedSimpArgs false
set_option maxRecDepth 100000 in
set_option maxHeartbeats 2000000 in
theorem beginAll_walk (ps pt pi ph q0 q1 q2 q3 : Int) (A : Option Addr) (k : Nat) (l : List Ent) (c : Cal) (co n : Int) (w : World) (w0 : (Lit.int .i64 ps).wf = true) (w1 : (Lit.int .i64 pt).wf = true) (w2 : (Lit.int .i64 pi).wf = true) (w3 : (Lit.int .i64 ph).wf = true)
    (w4 : (Lit.int .u64 q0).wf = true) (w5 : (Lit.int .u64 q1).wf = true) (w6 : (Lit.int .u64 q2).wf = true) (w7 : (Lit.int .u64 q3).wf = true) (hl : l.length ≤ k ∧ k ≤ maxLen ∧ Ents w A l) (hc : CalOk c) :
    Calls Try.prog 3 #[.agg #[.int .i64 ps, .int .i64 pt, .int .i64 pi, .int .i64 ph], .agg #[.int .u64 q0, .int .u64 q1, .int .u64 q2, .int .u64 q3], .agg #[.slice A l.length k, .int .u8 c.op, .int .u8 c.r, .int .u8 c.h, .int .u8 c.v, .int .i64 c.a, .int .i64 c.b, .int .i64 c.c, .int .i64 co, .int .i64 n]] w fun r w' => r = .returned (.bool true) ∧ Below w.heap.size w w' := by
  obtain ⟨hlk, hkm, he⟩ := hl
  have hlm : l.length ≤ 9223372036854775807 := by unfold maxLen at hkm; omega
  have Hcal := Lib.hid hc
  have Hq : Hid (Regs4 q0 q1 q2 q3) := Lib.hid ⟨wf_u64 w4, wf_u64 w5, wf_u64 w6, wf_u64 w7⟩
  obtain ⟨Pf, HPf⟩ : ∃ x, Hid (fitP ⟨ps, pt, pi, ph⟩ = x) := ⟨_, Lib.hid rfl⟩
  have Hs : Hid (1 ≤ Pf.s ∧ Pf.s ≤ 8) := Lib.hid (by rw [← HPf.out]; exact ⟨(fitP_ok _).1, (fitP_ok _).2.1⟩)
  obtain ⟨L, HL⟩ : ∃ x, Hid (fit l = x) := ⟨_, Lib.hid rfl⟩
  have hl1 : L.length ≤ 1048576 := by rw [← HL.out]; have := (fit_good l).2; omega
  obtain ⟨hv, Hhv⟩ : ∃ x, Hid (regR q0 q1 q2 q3 c.h = x) := ⟨_, Lib.hid rfl⟩
  obtain ⟨vv, Hvv⟩ : ∃ x, Hid (regR q0 q1 q2 q3 c.v = x) := ⟨_, Lib.hid rfl⟩
  have He := Lib.hid he
  clear he hc w0 w1 w2 w3 w4 w5 w6 w7 hkm
  go_enter Try.func3, Try.ntmps3
  go_upto_region 1 with fail
  refine three_rows w _ _ _ _ _ _ ?_
  intro W hR0 hR1 hR2 hB
  have B_W := Lib.hid (hB)
  have H_P := Lib.hid (show W.heap[w.heap.size]? = some (.cells #[.int .i64 ps, .int .i64 pt, .int .i64 pi, .int .i64 ph] 23 (0, 0)) from hR0)
  have H_r := Lib.hid (show W.heap[(w.heap.size + 1)]? = some (.cells #[.int .u64 q0, .int .u64 q1, .int .u64 q2, .int .u64 q3] 25 (0, 0)) from hR1)
  have H_c := Lib.hid (show W.heap[(w.heap.size + 1 + 1)]? = some (.cells #[.slice A l.length k, .int .u8 c.op, .int .u8 c.r, .int .u8 c.h, .int .u8 c.v, .int .i64 c.a, .int .i64 c.b, .int .i64 c.c, .int .i64 co, .int .i64 n] 31 (0, 0)) from hR2)
  have E_0 := Lib.hid (Cells.below He.out hB)
  clear hR0 hR1 hR2 hB
  have BB := B_W
  go_wp2_with fail
  refine (shown13_any _).mono ?_
  rintro r w1 ⟨rfl, hb⟩
  have B_w1 := Lib.hid (BB.out.trans (hb.mono BB.out.size))
  replace H_P := Lib.hid (row_below H_P.out hb)
  replace H_r := Lib.hid (row_below H_r.out hb)
  replace H_c := Lib.hid (row_below H_c.out hb)
  replace E_0 := Lib.hid (Cells.below E_0.out hb)
  clear BB hb B_W
  have z_P := lt_of_heap H_P.out
  obtain ⟨P_0, P_1, P_2, P_3, P_f0, P_f1, P_f2, P_f3⟩ := box4 H_P.out
  go_wp2_with fail
  have BB := B_w1
  clear z_P P_0 P_1 P_2 P_3 P_f0 P_f1 P_f2 P_f3
  refine (fit_plan ⟨ps, pt, pi, ph⟩ _).mono ?_
  rintro r w2 ⟨rfl, hb⟩
  rw [HPf.out]
  have B_w2 := Lib.hid (BB.out.trans (hb.mono BB.out.size))
  replace H_P := Lib.hid (row_below H_P.out hb)
  replace H_r := Lib.hid (row_below H_r.out hb)
  replace H_c := Lib.hid (row_below H_c.out hb)
  replace E_0 := Lib.hid (Cells.below E_0.out hb)
  clear BB hb B_w1
  have z_c := lt_of_heap H_c.out
  obtain ⟨c_0, c_1, c_2, c_3, c_4, c_5, c_6, c_7, c_8, c_9⟩ := box10 H_c.out
  go_wp2_with fail
  have BB := Lib.hid (show Below w.heap.size w (w2.alloc (.cells #[.int .i64 Pf.s, .int .i64 Pf.t, .int .i64 Pf.i, .int .i64 Pf.h] 23)) by have hb0 := B_w2.out; have hz0 := hb0.size; go_grown)
  replace H_r := Lib.hid (row_alloc (o' := .cells #[.int .i64 Pf.s, .int .i64 Pf.t, .int .i64 Pf.i, .int .i64 Pf.h] 23) (H_r.out))
  replace H_c := Lib.hid (row_alloc (o' := .cells #[.int .i64 Pf.s, .int .i64 Pf.t, .int .i64 Pf.i, .int .i64 Pf.h] 23) (H_c.out))
  have H_p := Lib.hid (show (w2.alloc (.cells #[.int .i64 Pf.s, .int .i64 Pf.t, .int .i64 Pf.i, .int .i64 Pf.h] 23)).heap[w2.heap.size]? = some (.cells #[.int .i64 Pf.s, .int .i64 Pf.t, .int .i64 Pf.i, .int .i64 Pf.h] 23 (0, 0)) from row_new _ _ _)
  obtain ⟨g_p, hg_p⟩ : ∃ x, x = w2.heap.size := ⟨_, rfl⟩
  replace E_0 := Lib.hid (Cells.alloc (E_0.out) (.cells #[.int .i64 Pf.s, .int .i64 Pf.t, .int .i64 Pf.i, .int .i64 Pf.h] 23))
  clear z_c c_0 c_1 c_2 c_3 c_4 c_5 c_6 c_7 c_8 c_9
  refine (fit_any A k l _ hlm E_0.out).mono ?_
  rintro r w3 ⟨v1, rfl, A1, k1, rfl, hk1, hcs1, hfr1, hb⟩
  rw [HL.out] at hk1 hcs1 ⊢
  have B_w3 := Lib.hid (BB.out.trans (hb.mono BB.out.size))
  replace H_r := Lib.hid (row_below H_r.out hb)
  replace H_c := Lib.hid (row_below H_c.out hb)
  replace H_p := Lib.hid (row_below H_p.out hb)
  replace E_0 := Lib.hid (Cells.below E_0.out hb)
  clear BB hb B_w2
  rw [← hg_p] at H_p ⊢
  clear hg_p
  have E_l := Lib.hid (hcs1)
  clear E_0 hcs1 hfr1 H_P
  have z_p := lt_of_heap H_p.out
  obtain ⟨p_0, p_1, p_2, p_3, p_f0, p_f1, p_f2, p_f3⟩ := box4 H_p.out
  have z_r := lt_of_heap H_r.out
  obtain ⟨r_0, r_1, r_2, r_3, r_f0, r_f1, r_f2, r_f3⟩ := box4 H_r.out
  have z_c := lt_of_heap H_c.out
  obtain ⟨c_0, c_1, c_2, c_3, c_4, c_5, c_6, c_7, c_8, c_9⟩ := box10 H_c.out
  go_upto_region 4 with fail
  go_cut [10] from 10 to 31 (fun v wx => ∃ (g kc : Nat) (cA : Option Addr), v = .pointer (some ⟨g, 0, none⟩) ∧ w3.heap.size ≤ g ∧ wx.heap[g]? = some (.cells (Rn.arr (beginRn Pf.s L c hv vv ⟨cA, L.length, kc⟩)) 39 (0, 0)) ∧ Ents wx cA L ∧ Below w3.heap.size w3 wx)
  case first =>
    refine wp_region_held_drew (S := Old w3) (by kernel_rfl) (old_of (by go_grown)) ?_
    intro hS
    generalize w3.drew = y0 at hS ⊢
    refine wpAnyH_take_at (i := 0) (v := ?v0x3) (some 26) rfl rfl (by kernel_rfl) (by kernel_rfl) (by kernel_rfl) (fun _ _ _ h => h) (Or.inl ⟨by kernel_rfl, ?h0x3⟩) (by assumption) ?r0x3
    case h0x3 => (intro w hSw; (try dsimp only at hSw); go_simp; first | done | (with_reducible rfl))
    try simp only [Act.put]
    try simp only [List.setIfInBounds_toArray]
    try simp only [List.set_cons_succ]
    try simp only [List.set_cons_zero]
    refine wpAnyH_take_at (i := 1) (v := ?v1x4) (some 27) rfl rfl (by kernel_rfl) (by kernel_rfl) (by kernel_rfl) (fun _ _ _ h => h) (Or.inl ⟨by kernel_rfl, ?h1x4⟩) (by assumption) ?r1x4
    case h1x4 => (intro w hSw; (try dsimp only at hSw); go_simp; first | done | (with_reducible rfl))
    try simp only [Act.put]
    try simp only [List.setIfInBounds_toArray]
    try simp only [List.set_cons_succ]
    try simp only [List.set_cons_zero]
    refine wpAnyH_take_at (i := 2) (v := ?v2x5) (some 28) rfl rfl (by kernel_rfl) (by kernel_rfl) (by kernel_rfl) (fun _ _ _ h => h) (Or.inl ⟨by kernel_rfl, ?h2x5⟩) (by assumption) ?r2x5
    case h2x5 => (intro w hSw; (try dsimp only at hSw); go_simp; first | done | (with_reducible rfl))
    try simp only [Act.put]
    try simp only [List.setIfInBounds_toArray]
    try simp only [List.set_cons_succ]
    try simp only [List.set_cons_zero]
    refine wpAnyH_take_at (i := 3) (v := ?v3x6) (some 29) rfl rfl (by kernel_rfl) (by kernel_rfl) (by kernel_rfl) (fun _ _ _ h => h) (Or.inl ⟨by kernel_rfl, ?h3x6⟩) (by assumption) ?r3x6
    case h3x6 => (intro w hSw; (try dsimp only at hSw); go_simp; first | done | (with_reducible rfl))
    try simp only [Act.put]
    try simp only [List.setIfInBounds_toArray]
    try simp only [List.set_cons_succ]
    try simp only [List.set_cons_zero]
    refine wpAnyH_take_at (i := 4) (v := ?v4x7) (some 30) rfl rfl (by kernel_rfl) (by kernel_rfl) (by kernel_rfl) (fun _ _ _ h => h) (Or.inl ⟨by kernel_rfl, ?h4x7⟩) (by assumption) ?r4x7
    case h4x7 => (intro w hSw; (try dsimp only at hSw); go_simp; first | done | (with_reducible rfl))
    try simp only [Act.put]
    try simp only [List.setIfInBounds_toArray]
    try simp only [List.set_cons_succ]
    try simp only [List.set_cons_zero]
    refine wpAnyH_ready (rs := [5, 6]) (by kernel_rfl) (by simp) ?_
    refine AllReadyH.cons rfl (fun K hK => ?_) (AllReadyH.cons rfl (fun K hK => ?_) AllReadyH.nil)
    · skip
      go_simp
      refine (of_any_at Pf A1 k1 L c q0 q1 q2 q3 hv vv (w.heap.size + 1) _ hk1 hl1 (Cells.below E_l.out hS.1) Hs.out.1 Hs.out.2 Hcal.out Hq.out Hhv.out Hvv.out ?_).mono ?_
      exact ⟨cell_later hS.1 r_0, cell_later hS.1 r_1, cell_later hS.1 r_2, cell_later hS.1 r_3⟩
      rintro r yC ⟨kc, cA, rfl, hcs, hC⟩
      go_simp
      have oC := below_only hS.1 hC
      refine hK.out _ _ (old_of oC) (fun hS => ?_)
      clear hK K
      try simp only [Act.put]
      try simp only [List.setIfInBounds_toArray]
      try simp only [List.set_cons_succ]
      try simp only [List.set_cons_zero]
      refine wpAnyH_ready (rs := [6]) (by kernel_rfl) (by simp) ?_
      refine AllReadyH.cons rfl (fun K hK => ?_) AllReadyH.nil
      refine step_alloc_run (some 10) rfl rfl rfl ?_
      refine k_alloc (fun yA hZ hA => ?_)
      have oA := below_only hS.1 hA
      have hgZ : w3.heap.size ≤ yC.heap.size := hS.1.size
      have hfar : ∀ a, 0 < L.length → cA = some a → a.block ≠ yC.heap.size := ents_far hcs.1 (Nat.le_refl _)
      replace hcs : Ents yA cA L ∧ True := ⟨Cells.below hcs.1 hA, trivial⟩
      obtain ⟨gZ, HgZ⟩ : ∃ x, x = yC.heap.size := ⟨_, rfl⟩
      rw [← HgZ] at hZ hgZ hfar ⊢
      clear HgZ
      refine hK.out _ _ (old_of oA) (fun hS => ?_)
      clear hK K
      try simp only [Act.put]
      try simp only [List.setIfInBounds_toArray]
      try simp only [List.set_cons_succ]
      try simp only [List.set_cons_zero]
      refine wpAnyH_ready (rs := [7]) (by kernel_rfl) (by simp) ?_
      refine AllReadyH.cons rfl (fun K hK => ?_) AllReadyH.nil
      refine step_store_row none rfl rfl 39 (.tmp 10) (.tmp 31) rfl gZ _ rfl rfl 39 ZRun hZ infoRun rfl (Rn.one _) ?_
      refine hK.out _ _ (old_of (below_setRow hS.1 hgZ _)) (fun hS => ?_)
      clear hK K
      try simp only [Act.put]
      try simp only [List.setIfInBounds_toArray]
      try simp only [List.set_cons_succ]
      try simp only [List.set_cons_zero]
      refine wpAnyH_done (by kernel_rfl) ?_ _
      go_wp2_with fail
      go_meet
      exact ⟨gZ, kc, cA, rfl, hgZ, setRow_heap _ _ _ _ _ _ hZ, ents_setRow hcs.1 hfar _, below_setRow (by assumption) hgZ _⟩
    · skip
      refine step_alloc_run (some 10) rfl rfl rfl ?_
      refine k_alloc (fun yA hZ hA => ?_)
      have oA := below_only hS.1 hA
      have hgZ : w3.heap.size ≤ y0.heap.size := hS.1.size
      obtain ⟨gZ, HgZ⟩ : ∃ x, x = y0.heap.size := ⟨_, rfl⟩
      rw [← HgZ] at hZ hgZ ⊢
      clear HgZ
      refine hK.out _ _ (old_of oA) (fun hS => ?_)
      clear hK K
      try simp only [Act.put]
      try simp only [List.setIfInBounds_toArray]
      try simp only [List.set_cons_succ]
      try simp only [List.set_cons_zero]
      refine wpAnyH_ready (rs := [5]) (by kernel_rfl) (by simp) ?_
      refine AllReadyH.cons rfl (fun K hK => ?_) AllReadyH.nil
      go_simp
      refine (of_any_at Pf A1 k1 L c q0 q1 q2 q3 hv vv (w.heap.size + 1) _ hk1 hl1 (Cells.below E_l.out hS.1) Hs.out.1 Hs.out.2 Hcal.out Hq.out Hhv.out Hvv.out ?_).mono ?_
      exact ⟨cell_later hS.1 r_0, cell_later hS.1 r_1, cell_later hS.1 r_2, cell_later hS.1 r_3⟩
      rintro r yC ⟨kc, cA, rfl, hcs, hC⟩
      go_simp
      have oC := below_only hS.1 hC
      have hZ0 := hZ
      replace hZ := row_below hZ hC
      have hfar : ∀ a, 0 < L.length → cA = some a → a.block ≠ gZ := fun a h0 ha => by have := hcs.2 a h0 ha; have := lt_of_heap hZ0; omega
      clear hZ0
      refine hK.out _ _ (old_of oC) (fun hS => ?_)
      clear hK K
      try simp only [Act.put]
      try simp only [List.setIfInBounds_toArray]
      try simp only [List.set_cons_succ]
      try simp only [List.set_cons_zero]
      refine wpAnyH_ready (rs := [7]) (by kernel_rfl) (by simp) ?_
      refine AllReadyH.cons rfl (fun K hK => ?_) AllReadyH.nil
      refine step_store_row none rfl rfl 39 (.tmp 10) (.tmp 31) rfl gZ _ rfl rfl 39 ZRun hZ infoRun rfl (Rn.one _) ?_
      refine hK.out _ _ (old_of (below_setRow hS.1 hgZ _)) (fun hS => ?_)
      clear hK K
      try simp only [Act.put]
      try simp only [List.setIfInBounds_toArray]
      try simp only [List.set_cons_succ]
      try simp only [List.set_cons_zero]
      refine wpAnyH_done (by kernel_rfl) ?_ _
      go_wp2_with fail
      go_meet
      exact ⟨gZ, kc, cA, rfl, hgZ, setRow_heap _ _ _ _ _ _ hZ, ents_setRow hcs.1 hfar _, below_setRow (by assumption) hgZ _⟩
  case rest =>
    obtain ⟨g_x, k_x, A_x, rfl, hg_x, hR, hE, hb⟩ := hcut
    obtain ⟨wX, hwn⟩ : ∃ x, x = wc := ⟨_, rfl⟩
    subst hwn
    have BB := B_w3
    clear z_p p_0 p_1 p_2 p_3 p_f0 p_f1 p_f2 p_f3 z_r r_0 r_1 r_2 r_3 r_f0 r_f1 r_f2 r_f3 z_c c_0 c_1 c_2 c_3 c_4 c_5 c_6 c_7 c_8 c_9
    have B_wX := Lib.hid (BB.out.trans (hb.mono BB.out.size))
    replace H_r := Lib.hid (row_below H_r.out hb)
    replace H_c := Lib.hid (row_below H_c.out hb)
    replace H_p := Lib.hid (row_below H_p.out hb)
    replace E_l := Lib.hid (Cells.below E_l.out hb)
    clear BB hb B_w3
    have H_x := Lib.hid (show wX.heap[g_x]? = some (.cells (Rn.arr (beginRn Pf.s L c hv vv ⟨A_x, L.length, k_x⟩)) 39 (0, 0)) from hR)
    have E_x := Lib.hid (hE)
    clear hR hE
    have z_p := lt_of_heap H_p.out
    obtain ⟨p_0, p_1, p_2, p_3, p_f0, p_f1, p_f2, p_f3⟩ := box4 H_p.out
    have z_r := lt_of_heap H_r.out
    obtain ⟨r_0, r_1, r_2, r_3, r_f0, r_f1, r_f2, r_f3⟩ := box4 H_r.out
    have z_c := lt_of_heap H_c.out
    obtain ⟨c_0, c_1, c_2, c_3, c_4, c_5, c_6, c_7, c_8, c_9⟩ := box10 H_c.out
    go_upto_region 5 with fail
    go_cut [11] from 11 to 37 (fun v wx => ∃ (g kc : Nat) (cA : Option Addr), v = .pointer (some ⟨g, 0, none⟩) ∧ wX.heap.size ≤ g ∧ wx.heap[g]? = some (.cells (Rn.arr (beginRn Pf.s L c hv vv ⟨cA, L.length, kc⟩)) 39 (0, 0)) ∧ Ents wx cA L ∧ Below wX.heap.size wX wx)
    case first =>
      refine wp_region_held_drew (S := Old wX) (by kernel_rfl) (old_of (by go_grown)) ?_
      intro hS
      generalize wX.drew = y0 at hS ⊢
      refine wpAnyH_take_at (i := 0) (v := ?v0x8) (some 32) rfl rfl (by kernel_rfl) (by kernel_rfl) (by kernel_rfl) (fun _ _ _ h => h) (Or.inl ⟨by kernel_rfl, ?h0x8⟩) (by assumption) ?r0x8
      case h0x8 => (intro w hSw; (try dsimp only at hSw); go_simp; first | done | (with_reducible rfl))
      try simp only [Act.put]
      try simp only [List.setIfInBounds_toArray]
      try simp only [List.set_cons_succ]
      try simp only [List.set_cons_zero]
      refine wpAnyH_take_at (i := 1) (v := ?v1x9) (some 33) rfl rfl (by kernel_rfl) (by kernel_rfl) (by kernel_rfl) (fun _ _ _ h => h) (Or.inl ⟨by kernel_rfl, ?h1x9⟩) (by assumption) ?r1x9
      case h1x9 => (intro w hSw; (try dsimp only at hSw); go_simp; first | done | (with_reducible rfl))
      try simp only [Act.put]
      try simp only [List.setIfInBounds_toArray]
      try simp only [List.set_cons_succ]
      try simp only [List.set_cons_zero]
      refine wpAnyH_take_at (i := 2) (v := ?v2x10) (some 34) rfl rfl (by kernel_rfl) (by kernel_rfl) (by kernel_rfl) (fun _ _ _ h => h) (Or.inl ⟨by kernel_rfl, ?h2x10⟩) (by assumption) ?r2x10
      case h2x10 => (intro w hSw; (try dsimp only at hSw); go_simp; first | done | (with_reducible rfl))
      try simp only [Act.put]
      try simp only [List.setIfInBounds_toArray]
      try simp only [List.set_cons_succ]
      try simp only [List.set_cons_zero]
      refine wpAnyH_take_at (i := 3) (v := ?v3x11) (some 35) rfl rfl (by kernel_rfl) (by kernel_rfl) (by kernel_rfl) (fun _ _ _ h => h) (Or.inl ⟨by kernel_rfl, ?h3x11⟩) (by assumption) ?r3x11
      case h3x11 => (intro w hSw; (try dsimp only at hSw); go_simp; first | done | (with_reducible rfl))
      try simp only [Act.put]
      try simp only [List.setIfInBounds_toArray]
      try simp only [List.set_cons_succ]
      try simp only [List.set_cons_zero]
      refine wpAnyH_take_at (i := 4) (v := ?v4x12) (some 36) rfl rfl (by kernel_rfl) (by kernel_rfl) (by kernel_rfl) (fun _ _ _ h => h) (Or.inl ⟨by kernel_rfl, ?h4x12⟩) (by assumption) ?r4x12
      case h4x12 => (intro w hSw; (try dsimp only at hSw); go_simp; first | done | (with_reducible rfl))
      try simp only [Act.put]
      try simp only [List.setIfInBounds_toArray]
      try simp only [List.set_cons_succ]
      try simp only [List.set_cons_zero]
      refine wpAnyH_ready (rs := [5, 6]) (by kernel_rfl) (by simp) ?_
      refine AllReadyH.cons rfl (fun K hK => ?_) (AllReadyH.cons rfl (fun K hK => ?_) AllReadyH.nil)
      · skip
        go_simp
        refine (rof_any_at Pf A1 k1 L c q0 q1 q2 q3 hv vv (w.heap.size + 1) _ hk1 hl1 (Cells.below E_l.out hS.1) Hs.out.1 Hs.out.2 Hcal.out Hq.out Hhv.out Hvv.out ?_).mono ?_
        exact ⟨cell_later hS.1 r_0, cell_later hS.1 r_1, cell_later hS.1 r_2, cell_later hS.1 r_3⟩
        rintro r yC ⟨kc, cA, rfl, hcs, hC⟩
        go_simp
        have oC := below_only hS.1 hC
        refine hK.out _ _ (old_of oC) (fun hS => ?_)
        clear hK K
        try simp only [Act.put]
        try simp only [List.setIfInBounds_toArray]
        try simp only [List.set_cons_succ]
        try simp only [List.set_cons_zero]
        refine wpAnyH_ready (rs := [6]) (by kernel_rfl) (by simp) ?_
        refine AllReadyH.cons rfl (fun K hK => ?_) AllReadyH.nil
        refine step_alloc_run (some 11) rfl rfl rfl ?_
        refine k_alloc (fun yA hZ hA => ?_)
        have oA := below_only hS.1 hA
        have hgZ : wX.heap.size ≤ yC.heap.size := hS.1.size
        have hfar : ∀ a, 0 < L.length → cA = some a → a.block ≠ yC.heap.size := ents_far hcs.1 (Nat.le_refl _)
        replace hcs : Ents yA cA L ∧ True := ⟨Cells.below hcs.1 hA, trivial⟩
        obtain ⟨gZ, HgZ⟩ : ∃ x, x = yC.heap.size := ⟨_, rfl⟩
        rw [← HgZ] at hZ hgZ hfar ⊢
        clear HgZ
        refine hK.out _ _ (old_of oA) (fun hS => ?_)
        clear hK K
        try simp only [Act.put]
        try simp only [List.setIfInBounds_toArray]
        try simp only [List.set_cons_succ]
        try simp only [List.set_cons_zero]
        refine wpAnyH_ready (rs := [7]) (by kernel_rfl) (by simp) ?_
        refine AllReadyH.cons rfl (fun K hK => ?_) AllReadyH.nil
        refine step_store_row none rfl rfl 39 (.tmp 11) (.tmp 37) rfl gZ _ rfl rfl 39 ZRun hZ infoRun rfl (Rn.one _) ?_
        refine hK.out _ _ (old_of (below_setRow hS.1 hgZ _)) (fun hS => ?_)
        clear hK K
        try simp only [Act.put]
        try simp only [List.setIfInBounds_toArray]
        try simp only [List.set_cons_succ]
        try simp only [List.set_cons_zero]
        refine wpAnyH_done (by kernel_rfl) ?_ _
        go_wp2_with fail
        go_meet
        exact ⟨gZ, kc, cA, rfl, hgZ, setRow_heap _ _ _ _ _ _ hZ, ents_setRow hcs.1 hfar _, below_setRow (by assumption) hgZ _⟩
      · skip
        refine step_alloc_run (some 11) rfl rfl rfl ?_
        refine k_alloc (fun yA hZ hA => ?_)
        have oA := below_only hS.1 hA
        have hgZ : wX.heap.size ≤ y0.heap.size := hS.1.size
        obtain ⟨gZ, HgZ⟩ : ∃ x, x = y0.heap.size := ⟨_, rfl⟩
        rw [← HgZ] at hZ hgZ ⊢
        clear HgZ
        refine hK.out _ _ (old_of oA) (fun hS => ?_)
        clear hK K
        try simp only [Act.put]
        try simp only [List.setIfInBounds_toArray]
        try simp only [List.set_cons_succ]
        try simp only [List.set_cons_zero]
        refine wpAnyH_ready (rs := [5]) (by kernel_rfl) (by simp) ?_
        refine AllReadyH.cons rfl (fun K hK => ?_) AllReadyH.nil
        go_simp
        refine (rof_any_at Pf A1 k1 L c q0 q1 q2 q3 hv vv (w.heap.size + 1) _ hk1 hl1 (Cells.below E_l.out hS.1) Hs.out.1 Hs.out.2 Hcal.out Hq.out Hhv.out Hvv.out ?_).mono ?_
        exact ⟨cell_later hS.1 r_0, cell_later hS.1 r_1, cell_later hS.1 r_2, cell_later hS.1 r_3⟩
        rintro r yC ⟨kc, cA, rfl, hcs, hC⟩
        go_simp
        have oC := below_only hS.1 hC
        have hZ0 := hZ
        replace hZ := row_below hZ hC
        have hfar : ∀ a, 0 < L.length → cA = some a → a.block ≠ gZ := fun a h0 ha => by have := hcs.2 a h0 ha; have := lt_of_heap hZ0; omega
        clear hZ0
        refine hK.out _ _ (old_of oC) (fun hS => ?_)
        clear hK K
        try simp only [Act.put]
        try simp only [List.setIfInBounds_toArray]
        try simp only [List.set_cons_succ]
        try simp only [List.set_cons_zero]
        refine wpAnyH_ready (rs := [7]) (by kernel_rfl) (by simp) ?_
        refine AllReadyH.cons rfl (fun K hK => ?_) AllReadyH.nil
        refine step_store_row none rfl rfl 39 (.tmp 11) (.tmp 37) rfl gZ _ rfl rfl 39 ZRun hZ infoRun rfl (Rn.one _) ?_
        refine hK.out _ _ (old_of (below_setRow hS.1 hgZ _)) (fun hS => ?_)
        clear hK K
        try simp only [Act.put]
        try simp only [List.setIfInBounds_toArray]
        try simp only [List.set_cons_succ]
        try simp only [List.set_cons_zero]
        refine wpAnyH_done (by kernel_rfl) ?_ _
        go_wp2_with fail
        go_meet
        exact ⟨gZ, kc, cA, rfl, hgZ, setRow_heap _ _ _ _ _ _ hZ, ents_setRow hcs.1 hfar _, below_setRow (by assumption) hgZ _⟩
    case rest =>
      obtain ⟨g_y, k_y, A_y, rfl, hg_y, hR, hE, hb⟩ := hcut
      obtain ⟨wY, hwn⟩ : ∃ x, x = wc := ⟨_, rfl⟩
      subst hwn
      have BB := B_wX
      clear z_p p_0 p_1 p_2 p_3 p_f0 p_f1 p_f2 p_f3 z_r r_0 r_1 r_2 r_3 r_f0 r_f1 r_f2 r_f3 z_c c_0 c_1 c_2 c_3 c_4 c_5 c_6 c_7 c_8 c_9
      have B_wY := Lib.hid (BB.out.trans (hb.mono BB.out.size))
      replace H_r := Lib.hid (row_below H_r.out hb)
      replace H_c := Lib.hid (row_below H_c.out hb)
      replace H_p := Lib.hid (row_below H_p.out hb)
      replace H_x := Lib.hid (row_below H_x.out hb)
      replace E_l := Lib.hid (Cells.below E_l.out hb)
      replace E_x := Lib.hid (Cells.below E_x.out hb)
      clear BB hb B_wX
      have H_y := Lib.hid (show wY.heap[g_y]? = some (.cells (Rn.arr (beginRn Pf.s L c hv vv ⟨A_y, L.length, k_y⟩)) 39 (0, 0)) from hR)
      have E_y := Lib.hid (hE)
      clear hR hE
      obtain ⟨R, HR⟩ : ∃ R, Hid (beginRn Pf.s L c hv vv ⟨A_x, L.length, k_x⟩ = R) := ⟨_, Lib.hid rfl⟩
      have e2 : beginRn Pf.s L c hv vv ⟨A_y, L.length, k_y⟩ = { R with chain := ⟨A_y, L.length, k_y⟩, list := noS, said := noS, asaid := noS } := by rw [← HR.out]; rfl
      have Hr : Hid (R.chain = ⟨A_x, L.length, k_x⟩ ∧ R.list = noS ∧ R.said = noS ∧ R.asaid = noS) := Lib.hid (by rw [← HR.out]; exact ⟨rfl, rfl, rfl, rfl⟩)
      have hx' := H_x.out
      have hy' := H_y.out
      rw [HR.out] at hx'
      rw [e2] at hy'
      clear H_x H_y e2
      have H_x := Lib.hid hx'
      have H_y := Lib.hid hy'
      clear hx' hy'
      go_wp2_with (first | refine wpList_load_row rfl 39 (.tmp 10) rfl g_x rfl 39 R.arr (0, 0) _ H_x.out undRun rfl infoRun ?_ | refine wpList_load_row rfl 39 (.tmp 11) rfl g_y rfl 39 (Rn.arr { R with chain := ⟨A_y, L.length, k_y⟩, list := noS, said := noS, asaid := noS }) (0, 0) _ H_y.out undRun rfl infoRun ?_)
      have BB := B_wY
      refine (same_run R ⟨A_y, L.length, k_y⟩ noS noS noS L [] [] [] _ (runIn_plain Hr.out.1 hl1 E_x.out Hr.out.2.1 Hr.out.2.2.1 Hr.out.2.2.2) (runIn_plain rfl hl1 E_y.out rfl rfl rfl)).mono ?_
      rintro r w6 ⟨rfl, hb⟩
      have B_w6 := Lib.hid (BB.out.trans (hb.mono BB.out.size))
      replace H_r := Lib.hid (row_below H_r.out hb)
      replace H_c := Lib.hid (row_below H_c.out hb)
      replace H_p := Lib.hid (row_below H_p.out hb)
      replace H_x := Lib.hid (row_below H_x.out hb)
      replace H_y := Lib.hid (row_below H_y.out hb)
      replace E_l := Lib.hid (Cells.below E_l.out hb)
      replace E_x := Lib.hid (Cells.below E_x.out hb)
      replace E_y := Lib.hid (Cells.below E_y.out hb)
      clear BB hb B_wY
      obtain ⟨k1', Hk1⟩ : ∃ x, Hid ((checkR Pf.s L q0).1.1 = x) := ⟨_, Lib.hid rfl⟩
      obtain ⟨k2', Hk2⟩ : ∃ x, Hid ((checkR Pf.s L q0).1.2.1 = x) := ⟨_, Lib.hid rfl⟩
      obtain ⟨k3', Hk3⟩ : ∃ x, Hid ((checkR Pf.s L q0).1.2.2 = x) := ⟨_, Lib.hid rfl⟩
      obtain ⟨k4', Hk4⟩ : ∃ x, Hid ((checkR Pf.s L q0).2 = x) := ⟨_, Lib.hid rfl⟩
      have z_p := lt_of_heap H_p.out
      obtain ⟨p_0, p_1, p_2, p_3, p_f0, p_f1, p_f2, p_f3⟩ := box4 H_p.out
      have z_r := lt_of_heap H_r.out
      obtain ⟨r_0, r_1, r_2, r_3, r_f0, r_f1, r_f2, r_f3⟩ := box4 H_r.out
      go_wp2_with fail
      have BB := B_w6
      clear z_p p_0 p_1 p_2 p_3 p_f0 p_f1 p_f2 p_f3 z_r r_0 r_1 r_2 r_3 r_f0 r_f1 r_f2 r_f3
      refine (check_any Pf A1 k1 L q0 _ hl1 E_l.out Hq.out.1.1 Hq.out.1.2).mono ?_
      rintro r w7 ⟨rfl, hb⟩
      rw [Hk1.out, Hk2.out, Hk3.out, Hk4.out]
      have B_w7 := Lib.hid (BB.out.trans (hb.mono BB.out.size))
      replace H_r := Lib.hid (row_below H_r.out hb)
      replace H_c := Lib.hid (row_below H_c.out hb)
      replace H_p := Lib.hid (row_below H_p.out hb)
      replace H_x := Lib.hid (row_below H_x.out hb)
      replace H_y := Lib.hid (row_below H_y.out hb)
      replace E_l := Lib.hid (Cells.below E_l.out hb)
      replace E_x := Lib.hid (Cells.below E_x.out hb)
      replace E_y := Lib.hid (Cells.below E_y.out hb)
      clear BB hb B_w6
      have z_p := lt_of_heap H_p.out
      obtain ⟨p_0, p_1, p_2, p_3, p_f0, p_f1, p_f2, p_f3⟩ := box4 H_p.out
      have z_r := lt_of_heap H_r.out
      obtain ⟨r_0, r_1, r_2, r_3, r_f0, r_f1, r_f2, r_f3⟩ := box4 H_r.out
      go_wp2_with fail
      have BB := Lib.hid (show Below w.heap.size w (w7.alloc (.cells #[.int .i64 k1', .int .i64 k2', .int .i64 k3'] 44)) by have hb0 := B_w7.out; have hz0 := hb0.size; go_grown)
      replace H_r := Lib.hid (row_alloc (o' := .cells #[.int .i64 k1', .int .i64 k2', .int .i64 k3'] 44) (H_r.out))
      replace H_c := Lib.hid (row_alloc (o' := .cells #[.int .i64 k1', .int .i64 k2', .int .i64 k3'] 44) (H_c.out))
      replace H_p := Lib.hid (row_alloc (o' := .cells #[.int .i64 k1', .int .i64 k2', .int .i64 k3'] 44) (H_p.out))
      replace H_x := Lib.hid (row_alloc (o' := .cells #[.int .i64 k1', .int .i64 k2', .int .i64 k3'] 44) (H_x.out))
      replace H_y := Lib.hid (row_alloc (o' := .cells #[.int .i64 k1', .int .i64 k2', .int .i64 k3'] 44) (H_y.out))
      have H_a := Lib.hid (show (w7.alloc (.cells #[.int .i64 k1', .int .i64 k2', .int .i64 k3'] 44)).heap[w7.heap.size]? = some (.cells #[.int .i64 k1', .int .i64 k2', .int .i64 k3'] 44 (0, 0)) from row_new _ _ _)
      obtain ⟨g_a, hg_a⟩ : ∃ x, x = w7.heap.size := ⟨_, rfl⟩
      replace E_l := Lib.hid (Cells.alloc (E_l.out) (.cells #[.int .i64 k1', .int .i64 k2', .int .i64 k3'] 44))
      replace E_x := Lib.hid (Cells.alloc (E_x.out) (.cells #[.int .i64 k1', .int .i64 k2', .int .i64 k3'] 44))
      replace E_y := Lib.hid (Cells.alloc (E_y.out) (.cells #[.int .i64 k1', .int .i64 k2', .int .i64 k3'] 44))
      clear z_p p_0 p_1 p_2 p_3 p_f0 p_f1 p_f2 p_f3 z_r r_0 r_1 r_2 r_3 r_f0 r_f1 r_f2 r_f3
      refine (rcheck_any Pf A1 k1 L q0 _ hl1 E_l.out Hq.out.1.1 Hq.out.1.2).mono ?_
      rintro r w8 ⟨rfl, hb⟩
      rw [Hk1.out, Hk2.out, Hk3.out, Hk4.out]
      have B_w8 := Lib.hid (BB.out.trans (hb.mono BB.out.size))
      replace H_r := Lib.hid (row_below H_r.out hb)
      replace H_c := Lib.hid (row_below H_c.out hb)
      replace H_p := Lib.hid (row_below H_p.out hb)
      replace H_x := Lib.hid (row_below H_x.out hb)
      replace H_y := Lib.hid (row_below H_y.out hb)
      replace H_a := Lib.hid (row_below H_a.out hb)
      replace E_l := Lib.hid (Cells.below E_l.out hb)
      replace E_x := Lib.hid (Cells.below E_x.out hb)
      replace E_y := Lib.hid (Cells.below E_y.out hb)
      clear BB hb B_w7
      rw [← hg_a] at H_a ⊢
      clear hg_a
      go_upto_region 9 with fail
      refine one_row w8 _ _ ?_
      intro w8b hR hb
      have BB := B_w8
      have B_w8b := Lib.hid (BB.out.trans (hb.mono BB.out.size))
      replace H_r := Lib.hid (row_below H_r.out hb)
      replace H_c := Lib.hid (row_below H_c.out hb)
      replace H_p := Lib.hid (row_below H_p.out hb)
      replace H_x := Lib.hid (row_below H_x.out hb)
      replace H_y := Lib.hid (row_below H_y.out hb)
      replace H_a := Lib.hid (row_below H_a.out hb)
      replace E_l := Lib.hid (Cells.below E_l.out hb)
      replace E_x := Lib.hid (Cells.below E_x.out hb)
      replace E_y := Lib.hid (Cells.below E_y.out hb)
      clear BB hb B_w8
      have H_b := Lib.hid (show w8b.heap[w8.heap.size]? = some (.cells #[.int .i64 k1', .int .i64 k2', .int .i64 k3'] 44 (0, 0)) from hR)
      clear hR
      obtain ⟨g_b, hg_b⟩ : ∃ x, x = w8.heap.size := ⟨_, rfl⟩
      rw [← hg_b] at H_b ⊢
      clear hg_b
      have z_c := lt_of_heap H_c.out
      obtain ⟨c_0, c_1, c_2, c_3, c_4, c_5, c_6, c_7, c_8, c_9⟩ := box10 H_c.out
      go_wp2_with (first | refine wpList_load_row rfl 39 (.tmp 10) rfl g_x rfl 39 R.arr (0, 0) _ H_x.out undRun rfl infoRun ?_ | refine wpList_load_row rfl 39 (.tmp 11) rfl g_y rfl 39 (Rn.arr { R with chain := ⟨A_y, L.length, k_y⟩, list := noS, said := noS, asaid := noS }) (0, 0) _ H_y.out undRun rfl infoRun ?_)
      have BB := B_w8b
      clear z_c c_0 c_1 c_2 c_3 c_4 c_5 c_6 c_7 c_8 c_9
      refine (tell_any R co n _ Hr.out.2.2.1).mono ?_
      rintro r w9 ⟨rfl, hb⟩
      have B_w9 := Lib.hid (BB.out.trans (hb.mono BB.out.size))
      replace H_r := Lib.hid (row_below H_r.out hb)
      replace H_c := Lib.hid (row_below H_c.out hb)
      replace H_p := Lib.hid (row_below H_p.out hb)
      replace H_x := Lib.hid (row_below H_x.out hb)
      replace H_y := Lib.hid (row_below H_y.out hb)
      replace H_a := Lib.hid (row_below H_a.out hb)
      replace H_b := Lib.hid (row_below H_b.out hb)
      replace E_l := Lib.hid (Cells.below E_l.out hb)
      replace E_x := Lib.hid (Cells.below E_x.out hb)
      replace E_y := Lib.hid (Cells.below E_y.out hb)
      clear BB hb B_w8b
      have z_c := lt_of_heap H_c.out
      obtain ⟨c_0, c_1, c_2, c_3, c_4, c_5, c_6, c_7, c_8, c_9⟩ := box10 H_c.out
      go_upto_region 10 with (first | refine wpList_store_row rfl 39 (.tmp 17) (.tmp 62) rfl w9.heap.size _ rfl rfl 39 _ (row_new _ _ _) infoRun rfl (Rn.one _) ?_)
      refine alloc_set w9 _ _ _ ?_
      intro w10 hR hb
      have BB := B_w9
      clear z_c c_0 c_1 c_2 c_3 c_4 c_5 c_6 c_7 c_8 c_9
      have B_w10 := Lib.hid (BB.out.trans (hb.mono BB.out.size))
      replace H_r := Lib.hid (row_below H_r.out hb)
      replace H_c := Lib.hid (row_below H_c.out hb)
      replace H_p := Lib.hid (row_below H_p.out hb)
      replace H_x := Lib.hid (row_below H_x.out hb)
      replace H_y := Lib.hid (row_below H_y.out hb)
      replace H_a := Lib.hid (row_below H_a.out hb)
      replace H_b := Lib.hid (row_below H_b.out hb)
      replace E_l := Lib.hid (Cells.below E_l.out hb)
      replace E_x := Lib.hid (Cells.below E_x.out hb)
      replace E_y := Lib.hid (Cells.below E_y.out hb)
      clear BB hb B_w9
      have H_t := Lib.hid (show w10.heap[w9.heap.size]? = some (.cells (Rn.arr (toldR R co n noS)) 39 (0, 0)) from hR)
      clear hR
      obtain ⟨g_t, hg_t⟩ : ∃ x, x = w9.heap.size := ⟨_, rfl⟩
      rw [← hg_t] at H_t ⊢
      clear hg_t
      have z_c := lt_of_heap H_c.out
      obtain ⟨c_0, c_1, c_2, c_3, c_4, c_5, c_6, c_7, c_8, c_9⟩ := box10 H_c.out
      go_wp2_with (first | refine wpList_load_row rfl 39 (.tmp 10) rfl g_x rfl 39 R.arr (0, 0) _ H_x.out undRun rfl infoRun ?_ | refine wpList_load_row rfl 39 (.tmp 11) rfl g_y rfl 39 (Rn.arr { R with chain := ⟨A_y, L.length, k_y⟩, list := noS, said := noS, asaid := noS }) (0, 0) _ H_y.out undRun rfl infoRun ?_)
      have BB := B_w10
      clear z_c c_0 c_1 c_2 c_3 c_4 c_5 c_6 c_7 c_8 c_9
      refine (rtell_any { R with chain := ⟨A_y, L.length, k_y⟩, list := noS, said := noS, asaid := noS } co n _).mono ?_
      rintro r w11 ⟨rfl, hb⟩
      have B_w11 := Lib.hid (BB.out.trans (hb.mono BB.out.size))
      replace H_r := Lib.hid (row_below H_r.out hb)
      replace H_c := Lib.hid (row_below H_c.out hb)
      replace H_p := Lib.hid (row_below H_p.out hb)
      replace H_x := Lib.hid (row_below H_x.out hb)
      replace H_y := Lib.hid (row_below H_y.out hb)
      replace H_a := Lib.hid (row_below H_a.out hb)
      replace H_b := Lib.hid (row_below H_b.out hb)
      replace H_t := Lib.hid (row_below H_t.out hb)
      replace E_l := Lib.hid (Cells.below E_l.out hb)
      replace E_x := Lib.hid (Cells.below E_x.out hb)
      replace E_y := Lib.hid (Cells.below E_y.out hb)
      clear BB hb B_w10
      go_upto_region 11 with (first | refine wpList_store_row rfl 39 (.tmp 18) (.tmp 68) rfl w11.heap.size _ rfl rfl 39 _ (row_new _ _ _) infoRun rfl (Rn.one _) ?_)
      refine alloc_set w11 _ _ _ ?_
      intro w12 hR hb
      have BB := B_w11
      have B_w12 := Lib.hid (BB.out.trans (hb.mono BB.out.size))
      replace H_r := Lib.hid (row_below H_r.out hb)
      replace H_c := Lib.hid (row_below H_c.out hb)
      replace H_p := Lib.hid (row_below H_p.out hb)
      replace H_x := Lib.hid (row_below H_x.out hb)
      replace H_y := Lib.hid (row_below H_y.out hb)
      replace H_a := Lib.hid (row_below H_a.out hb)
      replace H_b := Lib.hid (row_below H_b.out hb)
      replace H_t := Lib.hid (row_below H_t.out hb)
      replace E_l := Lib.hid (Cells.below E_l.out hb)
      replace E_x := Lib.hid (Cells.below E_x.out hb)
      replace E_y := Lib.hid (Cells.below E_y.out hb)
      clear BB hb B_w11
      have H_u := Lib.hid (show w12.heap[w11.heap.size]? = some (.cells (Rn.arr { (toldR R co n noS) with chain := ⟨A_y, L.length, k_y⟩, list := noS, said := noS, asaid := noS }) 39 (0, 0)) from hR)
      clear hR
      obtain ⟨g_u, hg_u⟩ : ∃ x, x = w11.heap.size := ⟨_, rfl⟩
      rw [← hg_u] at H_u ⊢
      clear hg_u
      go_wp2_with (first | refine wpList_load_row rfl 39 (.tmp 17) rfl g_t rfl 39 (Rn.arr (toldR R co n noS)) (0, 0) _ H_t.out undRun rfl infoRun ?_ | refine wpList_load_row rfl 39 (.tmp 18) rfl g_u rfl 39 (Rn.arr { (toldR R co n noS) with chain := ⟨A_y, L.length, k_y⟩, list := noS, said := noS, asaid := noS }) (0, 0) _ H_u.out undRun rfl infoRun ?_)
      have BB := B_w12
      refine (same_run (toldR R co n noS) ⟨A_y, L.length, k_y⟩ noS noS noS L [] [] [] _ (runIn_plain Hr.out.1 hl1 E_x.out Hr.out.2.1 Hr.out.2.2.1 rfl) (runIn_plain rfl hl1 E_y.out rfl rfl rfl)).mono ?_
      rintro r w13 ⟨rfl, hb⟩
      have B_w13 := Lib.hid (BB.out.trans (hb.mono BB.out.size))
      replace H_r := Lib.hid (row_below H_r.out hb)
      replace H_c := Lib.hid (row_below H_c.out hb)
      replace H_p := Lib.hid (row_below H_p.out hb)
      replace H_x := Lib.hid (row_below H_x.out hb)
      replace H_y := Lib.hid (row_below H_y.out hb)
      replace H_a := Lib.hid (row_below H_a.out hb)
      replace H_b := Lib.hid (row_below H_b.out hb)
      replace H_t := Lib.hid (row_below H_t.out hb)
      replace H_u := Lib.hid (row_below H_u.out hb)
      replace E_l := Lib.hid (Cells.below E_l.out hb)
      replace E_x := Lib.hid (Cells.below E_x.out hb)
      replace E_y := Lib.hid (Cells.below E_y.out hb)
      clear BB hb B_w12
      have z_a := lt_of_heap H_a.out
      obtain ⟨a_0, a_1, a_2, a_f0, a_f1, a_f2⟩ := box3 H_a.out
      have z_b := lt_of_heap H_b.out
      obtain ⟨b_0, b_1, b_2, b_f0, b_f1, b_f2⟩ := box3 H_b.out
      have B := B_w13.out
      clear B_w13
      go_wp2_with fail
      go_ret
      exact ⟨by first | rfl | simp, B⟩

end Go.Proofs.Ytaneokplagdcfaa
