/- Layer 17: the walk of EnterAlone. -/
import Derived.Test.YtconieenkeajiaaEnterF
namespace Go.Proofs.Ytconieenkeajiaa
open Go.RowKit
set_option linter.unusedVariables false
set_option linter.unusedSimpArgs false

set_option maxRecDepth 100000 in
set_option maxHeartbeats 4000000 in
theorem enterAlone_walk (s n q e y : Int) (w : World) (_ : (Lit.int .i64 s).wf = true) (_ : (Lit.int .i64 n).wf = true) (_ : (Lit.int .i64 q).wf = true) (_ : (Lit.int .i64 e).wf = true) (wy : (Lit.int .u8 y).wf = true) :
    Calls Try.prog 6 #[.agg #[.int .i64 s, .int .i64 n, .int .i64 q, .int .i64 e], .int .u8 y] w fun r w' => r = .returned (.bool true) ∧ Below w.heap.size w w' := by
  obtain ⟨y0, y1⟩ := wf_u8 wy
  obtain ⟨a, ha⟩ : ∃ a, a = y % 4 := ⟨_, rfl⟩
  have a0 : 0 ≤ a ∧ a ≤ 3 := by omega
  obtain ⟨f1, f2, f3, f4, HF⟩ : ∃ f1 f2 f3 f4, Hid (fit ⟨s, n, q, e⟩ = ⟨f1, f2, f3, f4⟩) := ⟨_, _, _, _, rfl⟩
  have Hr : Hid (Right ⟨f1, f2, f3, f4⟩) := Lib.hid (by rw [← HF.out]; exact fit_right _)
  obtain ⟨WS, HWS⟩ : ∃ x, Hid (laidWs ⟨s, n, q, e⟩ ⟨s, n, q, e⟩ ⟨s, n, q, e⟩ = x) := ⟨_, rfl⟩
  have Hk8 : Hid (WS[8]? = some (word ⟨f1, f2, f3, f4⟩)) := Lib.hid (by rw [← HWS.out, ← HF.out]; exact laid_8 _ _ _)
  have Hk16 : Hid (WS[16]? = some (word ⟨f1, f2, f3, f4⟩)) := Lib.hid (by rw [← HWS.out, ← HF.out]; exact laid_16 _ _ _)
  obtain ⟨d1, d2, d3, d4, er, HE⟩ : ∃ d1 d2 d3 d4 e, Hid (enter ⟨f1, f2, f3, f4⟩ a = (⟨d1, d2, d3, d4⟩, e)) := ctl_parts _
  have e1 : y.tmod 4 = a := by rw [ha, Int.tmod_eq_emod_of_nonneg (by omega)]
  have e1' : y % 4 = a := ha.symm
  have Hy := Lib.hid (And.intro (And.intro y0 y1) ha)
  have Ha0 := Lib.hid a0
  clear ha a0 wy
  go_enter Try.func6, Try.ntmps6
  go_upto_region 1 with fail
  refine one_row w _ _ ?_
  intro w1 hr hb
  have B := Lib.hid (hb)
  have H_x := Lib.hid (show w1.heap[w.heap.size]? = some (.cells #[.int .i64 s, .int .i64 n, .int .i64 q, .int .i64 e] 23 (0, 0)) from hr)
  clear hr hb
  go_wp2_with fail
  refine (shown_any _).mono ?_
  rintro r w2 ⟨rfl, hb⟩
  have hsz := (hb).size
  replace H_x := Lib.hid (row_below H_x.out hb)
  replace B := Lib.hid (below_only B.out hb)
  clear hb hsz
  obtain ⟨x_0, x_1, x_2, x_3, x_f0, x_f1, x_f2, x_f3⟩ := box4 H_x.out
  have z_x := lt_of_heap H_x.out
  go_wp2_with fail
  clear x_0 x_1 x_2 x_3 x_f0 x_f1 x_f2 x_f3 z_x
  refine (laid_any s n q e s n q e s n q e _).mono ?_
  rintro r w3 ⟨p, b, X, qq, dd, rfl, hT, hb⟩
  rw [HWS.out] at hT
  have hlx := lt_of_heap H_x.out
  have hB2 := B.out.size
  have hsz := (hb).size
  replace H_x := Lib.hid (row_below H_x.out hb)
  replace B := Lib.hid (below_only B.out hb)
  clear hb hsz
  have HA : Hid (Arn w3 p b WS) := Lib.hid hT.a
  have Hb : Hid (w.heap.size ≤ b) := Lib.hid (by have := hT.low.2.1; omega)
  have N_x : Hid (w.heap.size ≠ b) := Lib.hid (by have := hT.low.2.1; omega)
  clear hT hlx hB2
  obtain ⟨x_0, x_1, x_2, x_3, x_f0, x_f1, x_f2, x_f3⟩ := box4 H_x.out
  have z_x := lt_of_heap H_x.out
  go_wp2_with fail
  clear x_0 x_1 x_2 x_3 x_f0 x_f1 x_f2 x_f3 z_x
  refine (fit_as HF _).mono ?_
  rintro r w4 ⟨rfl, hb⟩
  have hsz := (hb).size
  replace H_x := Lib.hid (row_below H_x.out hb)
  replace HA := Lib.hid (HA.out.below hb)
  replace B := Lib.hid (below_only B.out hb)
  clear hb hsz
  go_upto_region 6 with fail
  refine one_row w4 _ _ ?_
  intro w5 hr hb
  have hlB := B.out.size
  have hlt := lt_of_heap HA.out.row
  have hlp := lt_of_heap HA.out.box
  have hl_x := lt_of_heap H_x.out
  have hsz := (hb).size
  replace H_x := Lib.hid (row_below H_x.out hb)
  replace HA := Lib.hid (HA.out.below hb)
  replace B := Lib.hid (below_only B.out hb)
  clear hb hsz
  have H_c := Lib.hid (show w5.heap[w4.heap.size]? = some (.cells #[.int .i64 f1, .int .i64 f2, .int .i64 f3, .int .i64 f4] 23 (0, 0)) from hr)
  clear hr
  obtain ⟨g_c, hg_c⟩ : ∃ x, x = w4.heap.size := ⟨_, rfl⟩
  rw [← hg_c] at H_c ⊢
  have N_c : Hid (g_c ≠ b) := Lib.hid (by omega)
  have NP_c : Hid (p ≠ g_c) := Lib.hid (by omega)
  clear hlt hlp
  have M_x_c : Hid (w.heap.size ≠ g_c) := Lib.hid (by omega)
  have M_c_x : Hid (g_c ≠ w.heap.size) := Lib.hid (by omega)
  clear hl_x
  have L_c : Hid (w.heap.size ≤ g_c) := Lib.hid (by omega)
  clear hg_c hlB
  obtain ⟨c_0, c_1, c_2, c_3, c_f0, c_f1, c_f2, c_f3⟩ := box4 H_c.out
  have z_c := lt_of_heap H_c.out
  go_wp2_with fail
  clear c_0 c_1 c_2 c_3 c_f0 c_f1 c_f2 c_f3 z_c
  refine (enter_as HE _).mono ?_
  rintro r w6 ⟨rfl, hb⟩
  have hsz := (hb).size
  replace H_x := Lib.hid (row_below H_x.out hb)
  replace H_c := Lib.hid (row_below H_c.out hb)
  replace HA := Lib.hid (HA.out.below hb)
  replace B := Lib.hid (below_only B.out hb)
  clear hb hsz
  go_upto_region 7 with fail
  refine one_row w6 _ _ ?_
  intro w7 hr hb
  have hlB := B.out.size
  have hlt := lt_of_heap HA.out.row
  have hlp := lt_of_heap HA.out.box
  have hl_x := lt_of_heap H_x.out
  have hl_c := lt_of_heap H_c.out
  have hsz := (hb).size
  replace H_x := Lib.hid (row_below H_x.out hb)
  replace H_c := Lib.hid (row_below H_c.out hb)
  replace HA := Lib.hid (HA.out.below hb)
  replace B := Lib.hid (below_only B.out hb)
  clear hb hsz
  have H_d := Lib.hid (show w7.heap[w6.heap.size]? = some (.cells #[.int .i64 d1, .int .i64 d2, .int .i64 d3, .int .i64 d4] 23 (0, 0)) from hr)
  clear hr
  obtain ⟨g_d, hg_d⟩ : ∃ x, x = w6.heap.size := ⟨_, rfl⟩
  rw [← hg_d] at H_d ⊢
  have N_d : Hid (g_d ≠ b) := Lib.hid (by omega)
  have NP_d : Hid (p ≠ g_d) := Lib.hid (by omega)
  clear hlt hlp
  have M_x_d : Hid (w.heap.size ≠ g_d) := Lib.hid (by omega)
  have M_d_x : Hid (g_d ≠ w.heap.size) := Lib.hid (by omega)
  clear hl_x
  have M_c_d : Hid (g_c ≠ g_d) := Lib.hid (by omega)
  have M_d_c : Hid (g_d ≠ g_c) := Lib.hid (by omega)
  clear hl_c
  have L_d : Hid (w.heap.size ≤ g_d) := Lib.hid (by omega)
  clear hg_d hlB
  go_wp2_with fail
  refine (call_any 0 y 1 a _ (by decide) Hy.out.1 (by decide) Hy.out.2).mono ?_
  rintro r w8 ⟨kc, cA, rfl, ⟨hE, hnew⟩, hb⟩
  have F_ch : Hid (∀ z, 0 < [(a, true)].length → cA = some z → z.block ≠ b) := Lib.hid fun z _ hz => by have := hnew z hz; have := lt_of_heap HA.out.row; omega
  clear hnew
  have hsz := (hb).size
  replace H_x := Lib.hid (row_below H_x.out hb)
  replace H_c := Lib.hid (row_below H_c.out hb)
  replace H_d := Lib.hid (row_below H_d.out hb)
  replace HA := Lib.hid (HA.out.below hb)
  replace B := Lib.hid (below_only B.out hb)
  clear hb hsz
  have E_ch := Lib.hid hE
  clear hE
  go_upto_region 8 with (refine wpList_store_row rfl 40 (.tmp 11) (.tmp 48) rfl w8.heap.size (callRn 1 a ⟨cA, 1, kc⟩).arr rfl rfl 40 ZRun (row_new _ _ _) infoRun rfl (Rn.one _) ?_)
  refine alloc_set' w8 _ _ _ ?_
  intro w9 hr hb
  have hlB := B.out.size
  have hlt := lt_of_heap HA.out.row
  have hlp := lt_of_heap HA.out.box
  have hl_x := lt_of_heap H_x.out
  have hl_c := lt_of_heap H_c.out
  have hl_d := lt_of_heap H_d.out
  have hsz := (hb).size
  replace H_x := Lib.hid (row_below H_x.out hb)
  replace H_c := Lib.hid (row_below H_c.out hb)
  replace H_d := Lib.hid (row_below H_d.out hb)
  replace E_ch := Lib.hid (Ents.below E_ch.out hb)
  replace HA := Lib.hid (HA.out.below hb)
  replace B := Lib.hid (below_only B.out hb)
  clear hb hsz
  have H_r := Lib.hid (show w9.heap[w8.heap.size]? = some (.cells (callRn 1 a ⟨cA, 1, kc⟩).arr 40 (0, 0)) from hr)
  clear hr
  obtain ⟨g_r, hg_r⟩ : ∃ x, x = w8.heap.size := ⟨_, rfl⟩
  rw [← hg_r] at H_r ⊢
  have N_r : Hid (g_r ≠ b) := Lib.hid (by omega)
  have NP_r : Hid (p ≠ g_r) := Lib.hid (by omega)
  clear hlt hlp
  have M_x_r : Hid (w.heap.size ≠ g_r) := Lib.hid (by omega)
  have M_r_x : Hid (g_r ≠ w.heap.size) := Lib.hid (by omega)
  clear hl_x
  have M_c_r : Hid (g_c ≠ g_r) := Lib.hid (by omega)
  have M_r_c : Hid (g_r ≠ g_c) := Lib.hid (by omega)
  clear hl_c
  have M_d_r : Hid (g_d ≠ g_r) := Lib.hid (by omega)
  have M_r_d : Hid (g_r ≠ g_d) := Lib.hid (by omega)
  clear hl_d
  have L_r : Hid (w.heap.size ≤ g_r) := Lib.hid (by omega)
  clear hg_r hlB
  try simp only [Act.put]
  go_cut [12, 13] from 12 to 55 (fun vd ve wx => ∃ gZ, vd = .pointer (some ⟨gZ, 0, none⟩) ∧ ve = .int .i64 0 ∧ gZ ≠ b ∧ wx.heap[gZ]? = some (.cells (lookN ⟨f1, f2, f3, f4⟩ 1 a ⟨cA, 1, kc⟩).arr 40 (0, 0)) ∧ Arn wx p b WS ∧ Keep [b] w9 wx)
  case first =>
    refine wp_region_held_drew (S := fun W' => W'.heap[g_r]? = some (.cells (callRn 1 a ⟨cA, 1, kc⟩).arr 40 (0, 0))) (by kernel_rfl) (show w9.drew.heap[g_r]? = _ from H_r.out) ?_
    intro hS
    have hA : Arn w9.drew p b WS := HA.out.drew
    have hK0 : Keep [b] w9 w9.drew := (Keep.refl _ _).drew
    generalize w9.drew = y0 at hS hA hK0 ⊢
    refine wpAnyH_take_at (i := 1) (v := ?v1x1) (some 51) rfl rfl (by kernel_rfl) (by kernel_rfl) (by kernel_rfl) (fun _ _ _ h => h) (Or.inl ⟨by kernel_rfl, ?h1x1⟩) (by assumption) ?r1x1
    case h1x1 => (intro w hSw; (try dsimp only at hSw); go_simp; first | done | (with_reducible rfl))
    try simp only [Act.put]
    try simp only [List.setIfInBounds_toArray]
    try simp only [List.set_cons_succ]
    try simp only [List.set_cons_zero]
    refine wpAnyH_take_at (i := 2) (v := .agg (callRn 1 a ⟨cA, 1, kc⟩).arr) (some 52) rfl rfl (by kernel_rfl) (by kernel_rfl) (by kernel_rfl) (fun _ _ _ h => h) (yieldsIf_load_row (by kernel_rfl) 40 (.tmp 11) rfl g_r rfl (callRn 1 a ⟨cA, 1, kc⟩).arr (fun W' hW' => hW') undRun rfl infoRun) (by assumption) ?_
    try simp only [Act.put]
    try simp only [List.setIfInBounds_toArray]
    try simp only [List.set_cons_succ]
    try simp only [List.set_cons_zero]
    refine wpAnyH_ready (rs := [0, 7]) (by kernel_rfl) (by simp) ?_
    refine AllReadyH.cons rfl (fun K hK => ?_) (AllReadyH.cons rfl (fun K hK => ?_) AllReadyH.nil)
    · skip
      go_simp
      refine (plan_any _).mono ?_
      rintro e' yP ⟨rfl, hb⟩
      go_simp
      replace hA := hA.below hb
      replace hK0 := hK0.call hb
      refine hK.out _ _ (row_below hS hb) (fun hS => ?_)
      clear hK K
      try simp only [Act.put]
      try simp only [List.setIfInBounds_toArray]
      try simp only [List.set_cons_succ]
      try simp only [List.set_cons_zero]
      refine wpAnyH_ready (rs := [3, 7]) (by kernel_rfl) (by simp) ?_
      refine AllReadyH.cons rfl (fun K hK => ?_) (AllReadyH.cons rfl (fun K hK => ?_) AllReadyH.nil)
      · skip
        go_simp
        refine (stepLook_any p b 8 WS ⟨f1, f2, f3, f4⟩ 1 a ⟨cA, 1, kc⟩ _ hA Hr.out Hk8.out (by decide) (by decide)).mono ?_
        rintro e' yS ⟨rfl, hA1, hK1⟩
        go_simp
        replace hK0 := hK0.trans hK1
        clear hA
        have hA := hA1
        clear hA1
        refine hK.out _ _ (hK1.row hS (by simpa using N_r.out)) (fun hS => ?_)
        clear hK K
        try simp only [Act.put]
        try simp only [List.setIfInBounds_toArray]
        try simp only [List.set_cons_succ]
        try simp only [List.set_cons_zero]
        refine wpAnyH_take_at (i := 4) (v := ?v4x2) (some 49) rfl rfl (by kernel_rfl) (by kernel_rfl) (by kernel_rfl) (fun _ _ _ h => h) (Or.inl ⟨by kernel_rfl, ?h4x2⟩) (by assumption) ?r4x2
        case h4x2 => (intro w hSw; (try dsimp only at hSw); go_simp; first | done | (with_reducible rfl))
        try simp only [Act.put]
        try simp only [List.setIfInBounds_toArray]
        try simp only [List.set_cons_succ]
        try simp only [List.set_cons_zero]
        refine wpAnyH_take_at (i := 5) (v := ?v5x3) (some 54) rfl rfl (by kernel_rfl) (by kernel_rfl) (by kernel_rfl) (fun _ _ _ h => h) (Or.inl ⟨by kernel_rfl, ?h5x3⟩) (by assumption) ?r5x3
        case h5x3 => (intro w hSw; (try dsimp only at hSw); go_simp; first | done | (with_reducible rfl))
        try simp only [Act.put]
        try simp only [List.setIfInBounds_toArray]
        try simp only [List.set_cons_succ]
        try simp only [List.set_cons_zero]
        refine wpAnyH_take_at (i := 6) (v := ?v6x4) (some 55) rfl rfl (by kernel_rfl) (by kernel_rfl) (by kernel_rfl) (fun _ _ _ h => h) (Or.inl ⟨by kernel_rfl, ?h6x4⟩) (by assumption) ?r6x4
        case h6x4 => (intro w hSw; (try dsimp only at hSw); go_simp; first | done | (with_reducible rfl))
        try simp only [Act.put]
        try simp only [List.setIfInBounds_toArray]
        try simp only [List.set_cons_succ]
        try simp only [List.set_cons_zero]
        refine wpAnyH_ready (rs := [7]) (by kernel_rfl) (by simp) ?_
        refine AllReadyH.cons rfl (fun K hK => ?_) AllReadyH.nil
        refine step_alloc_run (some 12) rfl rfl rfl ?_
        refine k_alloc (fun yZ hZ hb => ?_)
        have hz1 := lt_of_heap hA.box
        have hz2 := lt_of_heap hA.row
        have hz3 := lt_of_heap hS
        have hz4 := hK0.size
        obtain ⟨gZ, HgZ⟩ : ∃ x, x = yS.heap.size := ⟨_, rfl⟩
        rw [← HgZ] at hZ hz1 hz2 hz3 hz4 ⊢
        clear HgZ
        have hq1 : p ≠ gZ := by omega
        have hq2 : gZ ≠ b := by omega
        have hq3 : g_r ≠ gZ := by omega
        clear hz1 hz2 hz3
        replace hA := hA.below hb
        replace hK0 := hK0.call hb
        refine hK.out _ _ (row_below hS hb) (fun hS => ?_)
        clear hK K
        try simp only [Act.put]
        try simp only [List.setIfInBounds_toArray]
        try simp only [List.set_cons_succ]
        try simp only [List.set_cons_zero]
        refine wpAnyH_ready (rs := [8]) (by kernel_rfl) (by simp) ?_
        refine AllReadyH.cons rfl (fun K hK => ?_) AllReadyH.nil
        refine step_store_row none rfl rfl 40 (.tmp 12) (.tmp 54) rfl gZ (lookN ⟨f1, f2, f3, f4⟩ 1 a ⟨cA, 1, kc⟩).arr rfl rfl 40 ZRun hZ infoRun rfl (Rn.one _) ?_
        refine hK.out _ _ ((setRow_other _ _ _ _ hq3).trans hS) (fun hS => ?_)
        clear hK K
        try simp only [Act.put]
        try simp only [List.setIfInBounds_toArray]
        try simp only [List.set_cons_succ]
        try simp only [List.set_cons_zero]
        refine wpAnyH_take_at (i := 9) (v := ?v9x5) (some 13) rfl rfl (by kernel_rfl) (by kernel_rfl) (by kernel_rfl) (fun _ _ _ h => h) (Or.inl ⟨by kernel_rfl, ?h9x5⟩) (by assumption) ?r9x5
        case h9x5 => (intro w hSw; (try dsimp only at hSw); go_simp; first | done | (with_reducible rfl))
        try simp only [Act.put]
        try simp only [List.setIfInBounds_toArray]
        try simp only [List.set_cons_succ]
        try simp only [List.set_cons_zero]
        refine wpAnyH_done (by kernel_rfl) ?_ _
        go_wp2_with fail
        go_meet
        have hks := (Keep.refl [gZ] yZ).setRow (g := gZ) (.inl (by simp)) (lookN ⟨f1, f2, f3, f4⟩ 1 a ⟨cA, 1, kc⟩).arr
        exact ⟨gZ, rfl, rfl, hq2, setRow_heap _ _ _ _ _ _ hZ, hA.kept hks (by simpa using hq1) (by simpa using fun e => hq2 e.symm), hK0.setRow (.inr hz4) _⟩
      · skip
        refine step_alloc_run (some 12) rfl rfl rfl ?_
        refine k_alloc (fun yZ hZ hb => ?_)
        have hz1 := lt_of_heap hA.box
        have hz2 := lt_of_heap hA.row
        have hz3 := lt_of_heap hS
        have hz4 := hK0.size
        obtain ⟨gZ, HgZ⟩ : ∃ x, x = yP.heap.size := ⟨_, rfl⟩
        rw [← HgZ] at hZ hz1 hz2 hz3 hz4 ⊢
        clear HgZ
        have hq1 : p ≠ gZ := by omega
        have hq2 : gZ ≠ b := by omega
        have hq3 : g_r ≠ gZ := by omega
        clear hz1 hz2 hz3
        replace hA := hA.below hb
        replace hK0 := hK0.call hb
        refine hK.out _ _ (row_below hS hb) (fun hS => ?_)
        clear hK K
        try simp only [Act.put]
        try simp only [List.setIfInBounds_toArray]
        try simp only [List.set_cons_succ]
        try simp only [List.set_cons_zero]
        refine wpAnyH_ready (rs := [3]) (by kernel_rfl) (by simp) ?_
        refine AllReadyH.cons rfl (fun K hK => ?_) AllReadyH.nil
        go_simp
        refine (stepLook_any p b 8 WS ⟨f1, f2, f3, f4⟩ 1 a ⟨cA, 1, kc⟩ _ hA Hr.out Hk8.out (by decide) (by decide)).mono ?_
        rintro e' yS ⟨rfl, hA1, hK1⟩
        go_simp
        replace hK0 := hK0.trans hK1
        replace hZ := hK1.row hZ (by simpa using hq2)
        clear hA
        have hA := hA1
        clear hA1
        refine hK.out _ _ (hK1.row hS (by simpa using N_r.out)) (fun hS => ?_)
        clear hK K
        try simp only [Act.put]
        try simp only [List.setIfInBounds_toArray]
        try simp only [List.set_cons_succ]
        try simp only [List.set_cons_zero]
        refine wpAnyH_take_at (i := 4) (v := ?v4x6) (some 49) rfl rfl (by kernel_rfl) (by kernel_rfl) (by kernel_rfl) (fun _ _ _ h => h) (Or.inl ⟨by kernel_rfl, ?h4x6⟩) (by assumption) ?r4x6
        case h4x6 => (intro w hSw; (try dsimp only at hSw); go_simp; first | done | (with_reducible rfl))
        try simp only [Act.put]
        try simp only [List.setIfInBounds_toArray]
        try simp only [List.set_cons_succ]
        try simp only [List.set_cons_zero]
        refine wpAnyH_take_at (i := 5) (v := ?v5x7) (some 54) rfl rfl (by kernel_rfl) (by kernel_rfl) (by kernel_rfl) (fun _ _ _ h => h) (Or.inl ⟨by kernel_rfl, ?h5x7⟩) (by assumption) ?r5x7
        case h5x7 => (intro w hSw; (try dsimp only at hSw); go_simp; first | done | (with_reducible rfl))
        try simp only [Act.put]
        try simp only [List.setIfInBounds_toArray]
        try simp only [List.set_cons_succ]
        try simp only [List.set_cons_zero]
        refine wpAnyH_take_at (i := 6) (v := ?v6x8) (some 55) rfl rfl (by kernel_rfl) (by kernel_rfl) (by kernel_rfl) (fun _ _ _ h => h) (Or.inl ⟨by kernel_rfl, ?h6x8⟩) (by assumption) ?r6x8
        case h6x8 => (intro w hSw; (try dsimp only at hSw); go_simp; first | done | (with_reducible rfl))
        try simp only [Act.put]
        try simp only [List.setIfInBounds_toArray]
        try simp only [List.set_cons_succ]
        try simp only [List.set_cons_zero]
        refine wpAnyH_ready (rs := [8]) (by kernel_rfl) (by simp) ?_
        refine AllReadyH.cons rfl (fun K hK => ?_) AllReadyH.nil
        refine step_store_row none rfl rfl 40 (.tmp 12) (.tmp 54) rfl gZ (lookN ⟨f1, f2, f3, f4⟩ 1 a ⟨cA, 1, kc⟩).arr rfl rfl 40 ZRun hZ infoRun rfl (Rn.one _) ?_
        refine hK.out _ _ ((setRow_other _ _ _ _ hq3).trans hS) (fun hS => ?_)
        clear hK K
        try simp only [Act.put]
        try simp only [List.setIfInBounds_toArray]
        try simp only [List.set_cons_succ]
        try simp only [List.set_cons_zero]
        refine wpAnyH_take_at (i := 9) (v := ?v9x9) (some 13) rfl rfl (by kernel_rfl) (by kernel_rfl) (by kernel_rfl) (fun _ _ _ h => h) (Or.inl ⟨by kernel_rfl, ?h9x9⟩) (by assumption) ?r9x9
        case h9x9 => (intro w hSw; (try dsimp only at hSw); go_simp; first | done | (with_reducible rfl))
        try simp only [Act.put]
        try simp only [List.setIfInBounds_toArray]
        try simp only [List.set_cons_succ]
        try simp only [List.set_cons_zero]
        refine wpAnyH_done (by kernel_rfl) ?_ _
        go_wp2_with fail
        go_meet
        have hks := (Keep.refl [gZ] yS).setRow (g := gZ) (.inl (by simp)) (lookN ⟨f1, f2, f3, f4⟩ 1 a ⟨cA, 1, kc⟩).arr
        exact ⟨gZ, rfl, rfl, hq2, setRow_heap _ _ _ _ _ _ hZ, hA.kept hks (by simpa using hq1) (by simpa using fun e => hq2 e.symm), hK0.setRow (.inr hz4) _⟩
    · skip
      refine step_alloc_run (some 12) rfl rfl rfl ?_
      refine k_alloc (fun yZ hZ hb => ?_)
      have hz1 := lt_of_heap hA.box
      have hz2 := lt_of_heap hA.row
      have hz3 := lt_of_heap hS
      have hz4 := hK0.size
      obtain ⟨gZ, HgZ⟩ : ∃ x, x = y0.heap.size := ⟨_, rfl⟩
      rw [← HgZ] at hZ hz1 hz2 hz3 hz4 ⊢
      clear HgZ
      have hq1 : p ≠ gZ := by omega
      have hq2 : gZ ≠ b := by omega
      have hq3 : g_r ≠ gZ := by omega
      clear hz1 hz2 hz3
      replace hA := hA.below hb
      replace hK0 := hK0.call hb
      refine hK.out _ _ (row_below hS hb) (fun hS => ?_)
      clear hK K
      try simp only [Act.put]
      try simp only [List.setIfInBounds_toArray]
      try simp only [List.set_cons_succ]
      try simp only [List.set_cons_zero]
      refine wpAnyH_ready (rs := [0]) (by kernel_rfl) (by simp) ?_
      refine AllReadyH.cons rfl (fun K hK => ?_) AllReadyH.nil
      go_simp
      refine (plan_any _).mono ?_
      rintro e' yP ⟨rfl, hb⟩
      go_simp
      replace hA := hA.below hb
      replace hK0 := hK0.call hb
      replace hZ := row_below hZ hb
      refine hK.out _ _ (row_below hS hb) (fun hS => ?_)
      clear hK K
      try simp only [Act.put]
      try simp only [List.setIfInBounds_toArray]
      try simp only [List.set_cons_succ]
      try simp only [List.set_cons_zero]
      refine wpAnyH_ready (rs := [3]) (by kernel_rfl) (by simp) ?_
      refine AllReadyH.cons rfl (fun K hK => ?_) AllReadyH.nil
      go_simp
      refine (stepLook_any p b 8 WS ⟨f1, f2, f3, f4⟩ 1 a ⟨cA, 1, kc⟩ _ hA Hr.out Hk8.out (by decide) (by decide)).mono ?_
      rintro e' yS ⟨rfl, hA1, hK1⟩
      go_simp
      replace hK0 := hK0.trans hK1
      replace hZ := hK1.row hZ (by simpa using hq2)
      clear hA
      have hA := hA1
      clear hA1
      refine hK.out _ _ (hK1.row hS (by simpa using N_r.out)) (fun hS => ?_)
      clear hK K
      try simp only [Act.put]
      try simp only [List.setIfInBounds_toArray]
      try simp only [List.set_cons_succ]
      try simp only [List.set_cons_zero]
      refine wpAnyH_take_at (i := 4) (v := ?v4x10) (some 49) rfl rfl (by kernel_rfl) (by kernel_rfl) (by kernel_rfl) (fun _ _ _ h => h) (Or.inl ⟨by kernel_rfl, ?h4x10⟩) (by assumption) ?r4x10
      case h4x10 => (intro w hSw; (try dsimp only at hSw); go_simp; first | done | (with_reducible rfl))
      try simp only [Act.put]
      try simp only [List.setIfInBounds_toArray]
      try simp only [List.set_cons_succ]
      try simp only [List.set_cons_zero]
      refine wpAnyH_take_at (i := 5) (v := ?v5x11) (some 54) rfl rfl (by kernel_rfl) (by kernel_rfl) (by kernel_rfl) (fun _ _ _ h => h) (Or.inl ⟨by kernel_rfl, ?h5x11⟩) (by assumption) ?r5x11
      case h5x11 => (intro w hSw; (try dsimp only at hSw); go_simp; first | done | (with_reducible rfl))
      try simp only [Act.put]
      try simp only [List.setIfInBounds_toArray]
      try simp only [List.set_cons_succ]
      try simp only [List.set_cons_zero]
      refine wpAnyH_take_at (i := 6) (v := ?v6x12) (some 55) rfl rfl (by kernel_rfl) (by kernel_rfl) (by kernel_rfl) (fun _ _ _ h => h) (Or.inl ⟨by kernel_rfl, ?h6x12⟩) (by assumption) ?r6x12
      case h6x12 => (intro w hSw; (try dsimp only at hSw); go_simp; first | done | (with_reducible rfl))
      try simp only [Act.put]
      try simp only [List.setIfInBounds_toArray]
      try simp only [List.set_cons_succ]
      try simp only [List.set_cons_zero]
      refine wpAnyH_ready (rs := [8]) (by kernel_rfl) (by simp) ?_
      refine AllReadyH.cons rfl (fun K hK => ?_) AllReadyH.nil
      refine step_store_row none rfl rfl 40 (.tmp 12) (.tmp 54) rfl gZ (lookN ⟨f1, f2, f3, f4⟩ 1 a ⟨cA, 1, kc⟩).arr rfl rfl 40 ZRun hZ infoRun rfl (Rn.one _) ?_
      refine hK.out _ _ ((setRow_other _ _ _ _ hq3).trans hS) (fun hS => ?_)
      clear hK K
      try simp only [Act.put]
      try simp only [List.setIfInBounds_toArray]
      try simp only [List.set_cons_succ]
      try simp only [List.set_cons_zero]
      refine wpAnyH_take_at (i := 9) (v := ?v9x13) (some 13) rfl rfl (by kernel_rfl) (by kernel_rfl) (by kernel_rfl) (fun _ _ _ h => h) (Or.inl ⟨by kernel_rfl, ?h9x13⟩) (by assumption) ?r9x13
      case h9x13 => (intro w hSw; (try dsimp only at hSw); go_simp; first | done | (with_reducible rfl))
      try simp only [Act.put]
      try simp only [List.setIfInBounds_toArray]
      try simp only [List.set_cons_succ]
      try simp only [List.set_cons_zero]
      refine wpAnyH_done (by kernel_rfl) ?_ _
      go_wp2_with fail
      go_meet
      have hks := (Keep.refl [gZ] yS).setRow (g := gZ) (.inl (by simp)) (lookN ⟨f1, f2, f3, f4⟩ 1 a ⟨cA, 1, kc⟩).arr
      exact ⟨gZ, rfl, rfl, hq2, setRow_heap _ _ _ _ _ _ hZ, hA.kept hks (by simpa using hq1) (by simpa using fun e => hq2 e.symm), hK0.setRow (.inr hz4) _⟩
  case rest =>
    obtain ⟨g_o, rfl, rfl, hgb, hRr, hA, hK⟩ := hcut
    obtain ⟨w10, hwx⟩ : ∃ x, x = wc := ⟨_, rfl⟩
    subst hwx
    have N_o := Lib.hid hgb
    clear hgb
    replace H_x := Lib.hid (hK.row H_x.out (by simpa using N_x.out))
    replace H_c := Lib.hid (hK.row H_c.out (by simpa using N_c.out))
    replace H_d := Lib.hid (hK.row H_d.out (by simpa using N_d.out))
    replace H_r := Lib.hid (hK.row H_r.out (by simpa using N_r.out))
    replace E_ch := Lib.hid (ents_kept E_ch.out hK (by simpa using F_ch.out))
    replace HA := Lib.hid hA
    replace B := Lib.hid (Keep.under B.out hK (by have := B.out.size; omega) (by simp; exact Hb.out))
    clear hA hK
    have H_o := Lib.hid (show w10.heap[g_o]? = some (.cells (lookN ⟨f1, f2, f3, f4⟩ 1 a ⟨cA, 1, kc⟩).arr 40 (0, 0)) from hRr)
    clear hRr
    by_cases h10 : er = 10
    · skip
      have Hl : Hid ((lookN ⟨f1, f2, f3, f4⟩ 1 a ⟨cA, 1, kc⟩) = (callRn 1 a ⟨cA, 1, kc⟩)) := Lib.hid (by unfold lookN; rw [HE.out, if_pos h10])
      rw [Hl.out] at H_o
      have t1 : (er == 10) = true := by simp [h10]
      clear h10
      go_wp2_with (first | refine wpList_load_row rfl 40 (.tmp 12) rfl g_o rfl 40 (callRn 1 a ⟨cA, 1, kc⟩).arr (0, 0) _ H_o.out undRun rfl infoRun ?_ | refine wpList_load_row rfl 40 (.tmp 11) rfl g_r rfl 40 (callRn 1 a ⟨cA, 1, kc⟩).arr (0, 0) _ H_r.out undRun rfl infoRun ?_)
      refine (same_self (callRn 1 a ⟨cA, 1, kc⟩) cA kc [(a, true)] _ rfl (by simp) E_ch.out rfl rfl rfl).mono ?_
      rintro r w11 ⟨rfl, hb⟩
      have hsz := (hb).size
      replace H_x := Lib.hid (row_below H_x.out hb)
      replace H_c := Lib.hid (row_below H_c.out hb)
      replace H_d := Lib.hid (row_below H_d.out hb)
      replace H_r := Lib.hid (row_below H_r.out hb)
      replace H_o := Lib.hid (row_below H_o.out hb)
      replace E_ch := Lib.hid (Ents.below E_ch.out hb)
      replace HA := Lib.hid (HA.out.below hb)
      replace B := Lib.hid (below_only B.out hb)
      clear hb hsz
      have B2 := B.out
      clear B
      go_wp2_with fail
      go_ret
      exact ⟨rfl, B2⟩
    · by_cases h0 : er = 0
      · skip
        have Hl : Hid ((lookN ⟨f1, f2, f3, f4⟩ 1 a ⟨cA, 1, kc⟩) = (wayR 1 a ⟨cA, 1, kc⟩ (word ⟨f1, f2, f3, f4⟩) (word ⟨d1, d2, d3, d4⟩))) := Lib.hid (by unfold lookN; rw [HE.out, if_neg h10, if_pos h0])
        rw [Hl.out] at H_o
        have t1 : (er == 10) = false := by simpa using h10
        have t2 : (er != 0) = false := by simp [h0]
        have Hd : Hid (Right ⟨d1, d2, d3, d4⟩) := Lib.hid (enter_right (by rw [HE.out, h0]))
        clear h10 h0
        have o_21 : w10.cell? ⟨g_o, 21, none⟩ = some (.bool false) := by rw [row_cell H_o.out]; rfl
        have o_22 : w10.cell? ⟨g_o, 22, none⟩ = some (.bool false) := by rw [row_cell H_o.out]; rfl
        go_upto_region 18 with fail
        have Hl2 : Hid (enterN (word ⟨f1, f2, f3, f4⟩) 1 a ⟨cA, 1, kc⟩ (word ⟨f1, f2, f3, f4⟩) (word ⟨d1, d2, d3, d4⟩) = (toldR (wayR 1 a ⟨cA, 1, kc⟩ (word ⟨f1, f2, f3, f4⟩) (word ⟨d1, d2, d3, d4⟩)) 0 0 noS)) := Lib.hid (by unfold enterN; rw [if_pos rfl])
        clear o_21 o_22
        try simp only [Act.put]
        go_cut [16, 17] from 16 to 101 (fun vd ve wx => ∃ gZ, vd = .pointer (some ⟨gZ, 0, none⟩) ∧ ve = .int .i64 0 ∧ gZ ≠ b ∧ wx.heap[gZ]? = some (.cells (toldR (wayR 1 a ⟨cA, 1, kc⟩ (word ⟨f1, f2, f3, f4⟩) (word ⟨d1, d2, d3, d4⟩)) 0 0 noS).arr 40 (0, 0)) ∧ Arn wx p b (WS.set 8 (word ⟨d1, d2, d3, d4⟩)) ∧ Keep [b] w10 wx)
        case first =>
          refine wp_region_held_drew (S := fun W' => W'.heap[g_o]? = some (.cells (wayR 1 a ⟨cA, 1, kc⟩ (word ⟨f1, f2, f3, f4⟩) (word ⟨d1, d2, d3, d4⟩)).arr 40 (0, 0))) (by kernel_rfl) (show w10.drew.heap[g_o]? = _ from H_o.out) ?_
          intro hS
          have hA : Arn w10.drew p b WS := HA.out.drew
          have hK0 : Keep [b] w10 w10.drew := (Keep.refl _ _).drew
          generalize w10.drew = y0 at hS hA hK0 ⊢
          refine wpAnyH_take_at (i := 1) (v := ?v1x14) (some 97) rfl rfl (by kernel_rfl) (by kernel_rfl) (by kernel_rfl) (fun _ _ _ h => h) (Or.inl ⟨by kernel_rfl, ?h1x14⟩) (by assumption) ?r1x14
          case h1x14 => (intro w hSw; (try dsimp only at hSw); go_simp; first | done | (with_reducible rfl))
          try simp only [Act.put]
          try simp only [List.setIfInBounds_toArray]
          try simp only [List.set_cons_succ]
          try simp only [List.set_cons_zero]
          refine wpAnyH_take_at (i := 2) (v := .agg (wayR 1 a ⟨cA, 1, kc⟩ (word ⟨f1, f2, f3, f4⟩) (word ⟨d1, d2, d3, d4⟩)).arr) (some 98) rfl rfl (by kernel_rfl) (by kernel_rfl) (by kernel_rfl) (fun _ _ _ h => h) (yieldsIf_load_row (by kernel_rfl) 40 (.tmp 12) rfl g_o rfl (wayR 1 a ⟨cA, 1, kc⟩ (word ⟨f1, f2, f3, f4⟩) (word ⟨d1, d2, d3, d4⟩)).arr (fun W' hW' => hW') undRun rfl infoRun) (by assumption) ?_
          try simp only [Act.put]
          try simp only [List.setIfInBounds_toArray]
          try simp only [List.set_cons_succ]
          try simp only [List.set_cons_zero]
          refine wpAnyH_ready (rs := [0, 7]) (by kernel_rfl) (by simp) ?_
          refine AllReadyH.cons rfl (fun K hK => ?_) (AllReadyH.cons rfl (fun K hK => ?_) AllReadyH.nil)
          · skip
            go_simp
            refine (plan_any _).mono ?_
            rintro e' yP ⟨rfl, hb⟩
            go_simp
            replace hA := hA.below hb
            replace hK0 := hK0.call hb
            refine hK.out _ _ (row_below hS hb) (fun hS => ?_)
            clear hK K
            try simp only [Act.put]
            try simp only [List.setIfInBounds_toArray]
            try simp only [List.set_cons_succ]
            try simp only [List.set_cons_zero]
            refine wpAnyH_ready (rs := [3, 7]) (by kernel_rfl) (by simp) ?_
            refine AllReadyH.cons rfl (fun K hK => ?_) (AllReadyH.cons rfl (fun K hK => ?_) AllReadyH.nil)
            · skip
              go_simp
              refine (((stepEnter_any p b 8 WS ⟨f1, f2, f3, f4⟩ 1 a ⟨cA, 1, kc⟩ (word ⟨f1, f2, f3, f4⟩) (word ⟨d1, d2, d3, d4⟩) _ hA Hr.out Hk8.out (by decide) (by decide) (word_bd Hd.out)).mono fun e w' h => by rw [Hl2.out, show enterW (word ⟨f1, f2, f3, f4⟩) (word ⟨f1, f2, f3, f4⟩) (word ⟨d1, d2, d3, d4⟩) = word ⟨d1, d2, d3, d4⟩ from if_pos rfl] at h; exact h)).mono ?_
              rintro e' yS ⟨rfl, hA1, hK1⟩
              go_simp
              replace hK0 := hK0.trans hK1
              clear hA
              have hA := hA1
              clear hA1
              refine hK.out _ _ (hK1.row hS (by simpa using N_o.out)) (fun hS => ?_)
              clear hK K
              try simp only [Act.put]
              try simp only [List.setIfInBounds_toArray]
              try simp only [List.set_cons_succ]
              try simp only [List.set_cons_zero]
              refine wpAnyH_take_at (i := 4) (v := ?v4x15) (some 95) rfl rfl (by kernel_rfl) (by kernel_rfl) (by kernel_rfl) (fun _ _ _ h => h) (Or.inl ⟨by kernel_rfl, ?h4x15⟩) (by assumption) ?r4x15
              case h4x15 => (intro w hSw; (try dsimp only at hSw); go_simp; first | done | (with_reducible rfl))
              try simp only [Act.put]
              try simp only [List.setIfInBounds_toArray]
              try simp only [List.set_cons_succ]
              try simp only [List.set_cons_zero]
              refine wpAnyH_take_at (i := 5) (v := ?v5x16) (some 100) rfl rfl (by kernel_rfl) (by kernel_rfl) (by kernel_rfl) (fun _ _ _ h => h) (Or.inl ⟨by kernel_rfl, ?h5x16⟩) (by assumption) ?r5x16
              case h5x16 => (intro w hSw; (try dsimp only at hSw); go_simp; first | done | (with_reducible rfl))
              try simp only [Act.put]
              try simp only [List.setIfInBounds_toArray]
              try simp only [List.set_cons_succ]
              try simp only [List.set_cons_zero]
              refine wpAnyH_take_at (i := 6) (v := ?v6x17) (some 101) rfl rfl (by kernel_rfl) (by kernel_rfl) (by kernel_rfl) (fun _ _ _ h => h) (Or.inl ⟨by kernel_rfl, ?h6x17⟩) (by assumption) ?r6x17
              case h6x17 => (intro w hSw; (try dsimp only at hSw); go_simp; first | done | (with_reducible rfl))
              try simp only [Act.put]
              try simp only [List.setIfInBounds_toArray]
              try simp only [List.set_cons_succ]
              try simp only [List.set_cons_zero]
              refine wpAnyH_ready (rs := [7]) (by kernel_rfl) (by simp) ?_
              refine AllReadyH.cons rfl (fun K hK => ?_) AllReadyH.nil
              refine step_alloc_run (some 16) rfl rfl rfl ?_
              refine k_alloc (fun yZ hZ hb => ?_)
              have hz1 := lt_of_heap hA.box
              have hz2 := lt_of_heap hA.row
              have hz3 := lt_of_heap hS
              have hz4 := hK0.size
              obtain ⟨gZ, HgZ⟩ : ∃ x, x = yS.heap.size := ⟨_, rfl⟩
              rw [← HgZ] at hZ hz1 hz2 hz3 hz4 ⊢
              clear HgZ
              have hq1 : p ≠ gZ := by omega
              have hq2 : gZ ≠ b := by omega
              have hq3 : g_o ≠ gZ := by omega
              clear hz1 hz2 hz3
              replace hA := hA.below hb
              replace hK0 := hK0.call hb
              refine hK.out _ _ (row_below hS hb) (fun hS => ?_)
              clear hK K
              try simp only [Act.put]
              try simp only [List.setIfInBounds_toArray]
              try simp only [List.set_cons_succ]
              try simp only [List.set_cons_zero]
              refine wpAnyH_ready (rs := [8]) (by kernel_rfl) (by simp) ?_
              refine AllReadyH.cons rfl (fun K hK => ?_) AllReadyH.nil
              refine step_store_row none rfl rfl 40 (.tmp 16) (.tmp 100) rfl gZ (toldR (wayR 1 a ⟨cA, 1, kc⟩ (word ⟨f1, f2, f3, f4⟩) (word ⟨d1, d2, d3, d4⟩)) 0 0 noS).arr rfl rfl 40 ZRun hZ infoRun rfl (Rn.one _) ?_
              refine hK.out _ _ ((setRow_other _ _ _ _ hq3).trans hS) (fun hS => ?_)
              clear hK K
              try simp only [Act.put]
              try simp only [List.setIfInBounds_toArray]
              try simp only [List.set_cons_succ]
              try simp only [List.set_cons_zero]
              refine wpAnyH_take_at (i := 9) (v := ?v9x18) (some 17) rfl rfl (by kernel_rfl) (by kernel_rfl) (by kernel_rfl) (fun _ _ _ h => h) (Or.inl ⟨by kernel_rfl, ?h9x18⟩) (by assumption) ?r9x18
              case h9x18 => (intro w hSw; (try dsimp only at hSw); go_simp; first | done | (with_reducible rfl))
              try simp only [Act.put]
              try simp only [List.setIfInBounds_toArray]
              try simp only [List.set_cons_succ]
              try simp only [List.set_cons_zero]
              refine wpAnyH_done (by kernel_rfl) ?_ _
              go_wp2_with fail
              go_meet
              have hks := (Keep.refl [gZ] yZ).setRow (g := gZ) (.inl (by simp)) (toldR (wayR 1 a ⟨cA, 1, kc⟩ (word ⟨f1, f2, f3, f4⟩) (word ⟨d1, d2, d3, d4⟩)) 0 0 noS).arr
              exact ⟨gZ, rfl, rfl, hq2, setRow_heap _ _ _ _ _ _ hZ, hA.kept hks (by simpa using hq1) (by simpa using fun e => hq2 e.symm), hK0.setRow (.inr hz4) _⟩
            · skip
              refine step_alloc_run (some 16) rfl rfl rfl ?_
              refine k_alloc (fun yZ hZ hb => ?_)
              have hz1 := lt_of_heap hA.box
              have hz2 := lt_of_heap hA.row
              have hz3 := lt_of_heap hS
              have hz4 := hK0.size
              obtain ⟨gZ, HgZ⟩ : ∃ x, x = yP.heap.size := ⟨_, rfl⟩
              rw [← HgZ] at hZ hz1 hz2 hz3 hz4 ⊢
              clear HgZ
              have hq1 : p ≠ gZ := by omega
              have hq2 : gZ ≠ b := by omega
              have hq3 : g_o ≠ gZ := by omega
              clear hz1 hz2 hz3
              replace hA := hA.below hb
              replace hK0 := hK0.call hb
              refine hK.out _ _ (row_below hS hb) (fun hS => ?_)
              clear hK K
              try simp only [Act.put]
              try simp only [List.setIfInBounds_toArray]
              try simp only [List.set_cons_succ]
              try simp only [List.set_cons_zero]
              refine wpAnyH_ready (rs := [3]) (by kernel_rfl) (by simp) ?_
              refine AllReadyH.cons rfl (fun K hK => ?_) AllReadyH.nil
              go_simp
              refine (((stepEnter_any p b 8 WS ⟨f1, f2, f3, f4⟩ 1 a ⟨cA, 1, kc⟩ (word ⟨f1, f2, f3, f4⟩) (word ⟨d1, d2, d3, d4⟩) _ hA Hr.out Hk8.out (by decide) (by decide) (word_bd Hd.out)).mono fun e w' h => by rw [Hl2.out, show enterW (word ⟨f1, f2, f3, f4⟩) (word ⟨f1, f2, f3, f4⟩) (word ⟨d1, d2, d3, d4⟩) = word ⟨d1, d2, d3, d4⟩ from if_pos rfl] at h; exact h)).mono ?_
              rintro e' yS ⟨rfl, hA1, hK1⟩
              go_simp
              replace hK0 := hK0.trans hK1
              replace hZ := hK1.row hZ (by simpa using hq2)
              clear hA
              have hA := hA1
              clear hA1
              refine hK.out _ _ (hK1.row hS (by simpa using N_o.out)) (fun hS => ?_)
              clear hK K
              try simp only [Act.put]
              try simp only [List.setIfInBounds_toArray]
              try simp only [List.set_cons_succ]
              try simp only [List.set_cons_zero]
              refine wpAnyH_take_at (i := 4) (v := ?v4x19) (some 95) rfl rfl (by kernel_rfl) (by kernel_rfl) (by kernel_rfl) (fun _ _ _ h => h) (Or.inl ⟨by kernel_rfl, ?h4x19⟩) (by assumption) ?r4x19
              case h4x19 => (intro w hSw; (try dsimp only at hSw); go_simp; first | done | (with_reducible rfl))
              try simp only [Act.put]
              try simp only [List.setIfInBounds_toArray]
              try simp only [List.set_cons_succ]
              try simp only [List.set_cons_zero]
              refine wpAnyH_take_at (i := 5) (v := ?v5x20) (some 100) rfl rfl (by kernel_rfl) (by kernel_rfl) (by kernel_rfl) (fun _ _ _ h => h) (Or.inl ⟨by kernel_rfl, ?h5x20⟩) (by assumption) ?r5x20
              case h5x20 => (intro w hSw; (try dsimp only at hSw); go_simp; first | done | (with_reducible rfl))
              try simp only [Act.put]
              try simp only [List.setIfInBounds_toArray]
              try simp only [List.set_cons_succ]
              try simp only [List.set_cons_zero]
              refine wpAnyH_take_at (i := 6) (v := ?v6x21) (some 101) rfl rfl (by kernel_rfl) (by kernel_rfl) (by kernel_rfl) (fun _ _ _ h => h) (Or.inl ⟨by kernel_rfl, ?h6x21⟩) (by assumption) ?r6x21
              case h6x21 => (intro w hSw; (try dsimp only at hSw); go_simp; first | done | (with_reducible rfl))
              try simp only [Act.put]
              try simp only [List.setIfInBounds_toArray]
              try simp only [List.set_cons_succ]
              try simp only [List.set_cons_zero]
              refine wpAnyH_ready (rs := [8]) (by kernel_rfl) (by simp) ?_
              refine AllReadyH.cons rfl (fun K hK => ?_) AllReadyH.nil
              refine step_store_row none rfl rfl 40 (.tmp 16) (.tmp 100) rfl gZ (toldR (wayR 1 a ⟨cA, 1, kc⟩ (word ⟨f1, f2, f3, f4⟩) (word ⟨d1, d2, d3, d4⟩)) 0 0 noS).arr rfl rfl 40 ZRun hZ infoRun rfl (Rn.one _) ?_
              refine hK.out _ _ ((setRow_other _ _ _ _ hq3).trans hS) (fun hS => ?_)
              clear hK K
              try simp only [Act.put]
              try simp only [List.setIfInBounds_toArray]
              try simp only [List.set_cons_succ]
              try simp only [List.set_cons_zero]
              refine wpAnyH_take_at (i := 9) (v := ?v9x22) (some 17) rfl rfl (by kernel_rfl) (by kernel_rfl) (by kernel_rfl) (fun _ _ _ h => h) (Or.inl ⟨by kernel_rfl, ?h9x22⟩) (by assumption) ?r9x22
              case h9x22 => (intro w hSw; (try dsimp only at hSw); go_simp; first | done | (with_reducible rfl))
              try simp only [Act.put]
              try simp only [List.setIfInBounds_toArray]
              try simp only [List.set_cons_succ]
              try simp only [List.set_cons_zero]
              refine wpAnyH_done (by kernel_rfl) ?_ _
              go_wp2_with fail
              go_meet
              have hks := (Keep.refl [gZ] yS).setRow (g := gZ) (.inl (by simp)) (toldR (wayR 1 a ⟨cA, 1, kc⟩ (word ⟨f1, f2, f3, f4⟩) (word ⟨d1, d2, d3, d4⟩)) 0 0 noS).arr
              exact ⟨gZ, rfl, rfl, hq2, setRow_heap _ _ _ _ _ _ hZ, hA.kept hks (by simpa using hq1) (by simpa using fun e => hq2 e.symm), hK0.setRow (.inr hz4) _⟩
          · skip
            refine step_alloc_run (some 16) rfl rfl rfl ?_
            refine k_alloc (fun yZ hZ hb => ?_)
            have hz1 := lt_of_heap hA.box
            have hz2 := lt_of_heap hA.row
            have hz3 := lt_of_heap hS
            have hz4 := hK0.size
            obtain ⟨gZ, HgZ⟩ : ∃ x, x = y0.heap.size := ⟨_, rfl⟩
            rw [← HgZ] at hZ hz1 hz2 hz3 hz4 ⊢
            clear HgZ
            have hq1 : p ≠ gZ := by omega
            have hq2 : gZ ≠ b := by omega
            have hq3 : g_o ≠ gZ := by omega
            clear hz1 hz2 hz3
            replace hA := hA.below hb
            replace hK0 := hK0.call hb
            refine hK.out _ _ (row_below hS hb) (fun hS => ?_)
            clear hK K
            try simp only [Act.put]
            try simp only [List.setIfInBounds_toArray]
            try simp only [List.set_cons_succ]
            try simp only [List.set_cons_zero]
            refine wpAnyH_ready (rs := [0]) (by kernel_rfl) (by simp) ?_
            refine AllReadyH.cons rfl (fun K hK => ?_) AllReadyH.nil
            go_simp
            refine (plan_any _).mono ?_
            rintro e' yP ⟨rfl, hb⟩
            go_simp
            replace hA := hA.below hb
            replace hK0 := hK0.call hb
            replace hZ := row_below hZ hb
            refine hK.out _ _ (row_below hS hb) (fun hS => ?_)
            clear hK K
            try simp only [Act.put]
            try simp only [List.setIfInBounds_toArray]
            try simp only [List.set_cons_succ]
            try simp only [List.set_cons_zero]
            refine wpAnyH_ready (rs := [3]) (by kernel_rfl) (by simp) ?_
            refine AllReadyH.cons rfl (fun K hK => ?_) AllReadyH.nil
            go_simp
            refine (((stepEnter_any p b 8 WS ⟨f1, f2, f3, f4⟩ 1 a ⟨cA, 1, kc⟩ (word ⟨f1, f2, f3, f4⟩) (word ⟨d1, d2, d3, d4⟩) _ hA Hr.out Hk8.out (by decide) (by decide) (word_bd Hd.out)).mono fun e w' h => by rw [Hl2.out, show enterW (word ⟨f1, f2, f3, f4⟩) (word ⟨f1, f2, f3, f4⟩) (word ⟨d1, d2, d3, d4⟩) = word ⟨d1, d2, d3, d4⟩ from if_pos rfl] at h; exact h)).mono ?_
            rintro e' yS ⟨rfl, hA1, hK1⟩
            go_simp
            replace hK0 := hK0.trans hK1
            replace hZ := hK1.row hZ (by simpa using hq2)
            clear hA
            have hA := hA1
            clear hA1
            refine hK.out _ _ (hK1.row hS (by simpa using N_o.out)) (fun hS => ?_)
            clear hK K
            try simp only [Act.put]
            try simp only [List.setIfInBounds_toArray]
            try simp only [List.set_cons_succ]
            try simp only [List.set_cons_zero]
            refine wpAnyH_take_at (i := 4) (v := ?v4x23) (some 95) rfl rfl (by kernel_rfl) (by kernel_rfl) (by kernel_rfl) (fun _ _ _ h => h) (Or.inl ⟨by kernel_rfl, ?h4x23⟩) (by assumption) ?r4x23
            case h4x23 => (intro w hSw; (try dsimp only at hSw); go_simp; first | done | (with_reducible rfl))
            try simp only [Act.put]
            try simp only [List.setIfInBounds_toArray]
            try simp only [List.set_cons_succ]
            try simp only [List.set_cons_zero]
            refine wpAnyH_take_at (i := 5) (v := ?v5x24) (some 100) rfl rfl (by kernel_rfl) (by kernel_rfl) (by kernel_rfl) (fun _ _ _ h => h) (Or.inl ⟨by kernel_rfl, ?h5x24⟩) (by assumption) ?r5x24
            case h5x24 => (intro w hSw; (try dsimp only at hSw); go_simp; first | done | (with_reducible rfl))
            try simp only [Act.put]
            try simp only [List.setIfInBounds_toArray]
            try simp only [List.set_cons_succ]
            try simp only [List.set_cons_zero]
            refine wpAnyH_take_at (i := 6) (v := ?v6x25) (some 101) rfl rfl (by kernel_rfl) (by kernel_rfl) (by kernel_rfl) (fun _ _ _ h => h) (Or.inl ⟨by kernel_rfl, ?h6x25⟩) (by assumption) ?r6x25
            case h6x25 => (intro w hSw; (try dsimp only at hSw); go_simp; first | done | (with_reducible rfl))
            try simp only [Act.put]
            try simp only [List.setIfInBounds_toArray]
            try simp only [List.set_cons_succ]
            try simp only [List.set_cons_zero]
            refine wpAnyH_ready (rs := [8]) (by kernel_rfl) (by simp) ?_
            refine AllReadyH.cons rfl (fun K hK => ?_) AllReadyH.nil
            refine step_store_row none rfl rfl 40 (.tmp 16) (.tmp 100) rfl gZ (toldR (wayR 1 a ⟨cA, 1, kc⟩ (word ⟨f1, f2, f3, f4⟩) (word ⟨d1, d2, d3, d4⟩)) 0 0 noS).arr rfl rfl 40 ZRun hZ infoRun rfl (Rn.one _) ?_
            refine hK.out _ _ ((setRow_other _ _ _ _ hq3).trans hS) (fun hS => ?_)
            clear hK K
            try simp only [Act.put]
            try simp only [List.setIfInBounds_toArray]
            try simp only [List.set_cons_succ]
            try simp only [List.set_cons_zero]
            refine wpAnyH_take_at (i := 9) (v := ?v9x26) (some 17) rfl rfl (by kernel_rfl) (by kernel_rfl) (by kernel_rfl) (fun _ _ _ h => h) (Or.inl ⟨by kernel_rfl, ?h9x26⟩) (by assumption) ?r9x26
            case h9x26 => (intro w hSw; (try dsimp only at hSw); go_simp; first | done | (with_reducible rfl))
            try simp only [Act.put]
            try simp only [List.setIfInBounds_toArray]
            try simp only [List.set_cons_succ]
            try simp only [List.set_cons_zero]
            refine wpAnyH_done (by kernel_rfl) ?_ _
            go_wp2_with fail
            go_meet
            have hks := (Keep.refl [gZ] yS).setRow (g := gZ) (.inl (by simp)) (toldR (wayR 1 a ⟨cA, 1, kc⟩ (word ⟨f1, f2, f3, f4⟩) (word ⟨d1, d2, d3, d4⟩)) 0 0 noS).arr
            exact ⟨gZ, rfl, rfl, hq2, setRow_heap _ _ _ _ _ _ hZ, hA.kept hks (by simpa using hq1) (by simpa using fun e => hq2 e.symm), hK0.setRow (.inr hz4) _⟩
        case rest =>
          obtain ⟨g_t, rfl, rfl, hgb, hRr, hA, hK⟩ := hcut
          obtain ⟨w11, hwx⟩ : ∃ x, x = wc := ⟨_, rfl⟩
          subst hwx
          have N_t := Lib.hid hgb
          clear hgb
          replace H_x := Lib.hid (hK.row H_x.out (by simpa using N_x.out))
          replace H_c := Lib.hid (hK.row H_c.out (by simpa using N_c.out))
          replace H_d := Lib.hid (hK.row H_d.out (by simpa using N_d.out))
          replace H_r := Lib.hid (hK.row H_r.out (by simpa using N_r.out))
          replace H_o := Lib.hid (hK.row H_o.out (by simpa using N_o.out))
          replace E_ch := Lib.hid (ents_kept E_ch.out hK (by simpa using F_ch.out))
          replace HA := Lib.hid hA
          replace B := Lib.hid (Keep.under B.out hK (by have := B.out.size; omega) (by simp; exact Hb.out))
          clear hA hK
          have H_t := Lib.hid (show w11.heap[g_t]? = some (.cells (toldR (wayR 1 a ⟨cA, 1, kc⟩ (word ⟨f1, f2, f3, f4⟩) (word ⟨d1, d2, d3, d4⟩)) 0 0 noS).arr 40 (0, 0)) from hRr)
          clear hRr
          have Hg8 : Hid ((WS.set 8 (word ⟨d1, d2, d3, d4⟩))[8]? = some (word ⟨d1, d2, d3, d4⟩)) := Lib.hid (by rw [List.getElem?_set, if_pos rfl, if_pos (List.getElem?_eq_some_iff.1 Hk8.out).1])
          have Hg16 : Hid ((WS.set 8 (word ⟨d1, d2, d3, d4⟩))[16]? = some (word ⟨f1, f2, f3, f4⟩)) := Lib.hid (by rw [List.getElem?_set, if_neg (by decide)]; exact Hk16.out)
          go_wp2_with fail
          refine (plan_any _).mono ?_
          rintro r w12 ⟨rfl, hb⟩
          have hsz := (hb).size
          replace H_x := Lib.hid (row_below H_x.out hb)
          replace H_c := Lib.hid (row_below H_c.out hb)
          replace H_d := Lib.hid (row_below H_d.out hb)
          replace H_r := Lib.hid (row_below H_r.out hb)
          replace H_o := Lib.hid (row_below H_o.out hb)
          replace H_t := Lib.hid (row_below H_t.out hb)
          replace E_ch := Lib.hid (Ents.below E_ch.out hb)
          replace HA := Lib.hid (HA.out.below hb)
          replace B := Lib.hid (below_only B.out hb)
          clear hb hsz
          go_wp2_with fail
          refine (foundCtl_any p b 4 4 0 64 _ 8 1 ⟨d1, d2, d3, d4⟩ _ PL HA.out Hd.out Hg8.out (by decide) (by decide)).mono ?_
          rintro r w13 ⟨rfl, hb⟩
          have hsz := (hb).size
          replace H_x := Lib.hid (row_below H_x.out hb)
          replace H_c := Lib.hid (row_below H_c.out hb)
          replace H_d := Lib.hid (row_below H_d.out hb)
          replace H_r := Lib.hid (row_below H_r.out hb)
          replace H_o := Lib.hid (row_below H_o.out hb)
          replace H_t := Lib.hid (row_below H_t.out hb)
          replace E_ch := Lib.hid (Ents.below E_ch.out hb)
          replace HA := Lib.hid (HA.out.below hb)
          replace B := Lib.hid (below_only B.out hb)
          clear hb hsz
          go_upto_region 20 with fail
          refine one_row w13 _ _ ?_
          intro w14 hr hb
          have hlB := B.out.size
          have hlt := lt_of_heap HA.out.row
          have hlp := lt_of_heap HA.out.box
          have hl_x := lt_of_heap H_x.out
          have hl_c := lt_of_heap H_c.out
          have hl_d := lt_of_heap H_d.out
          have hl_r := lt_of_heap H_r.out
          have hl_o := lt_of_heap H_o.out
          have hl_t := lt_of_heap H_t.out
          have hsz := (hb).size
          replace H_x := Lib.hid (row_below H_x.out hb)
          replace H_c := Lib.hid (row_below H_c.out hb)
          replace H_d := Lib.hid (row_below H_d.out hb)
          replace H_r := Lib.hid (row_below H_r.out hb)
          replace H_o := Lib.hid (row_below H_o.out hb)
          replace H_t := Lib.hid (row_below H_t.out hb)
          replace E_ch := Lib.hid (Ents.below E_ch.out hb)
          replace HA := Lib.hid (HA.out.below hb)
          replace B := Lib.hid (below_only B.out hb)
          clear hb hsz
          have H_v := Lib.hid (show w14.heap[w13.heap.size]? = some (.cells #[.int .i64 d1, .int .i64 d2, .int .i64 d3, .int .i64 d4] 23 (0, 0)) from hr)
          clear hr
          obtain ⟨g_v, hg_v⟩ : ∃ x, x = w13.heap.size := ⟨_, rfl⟩
          rw [← hg_v] at H_v ⊢
          have N_v : Hid (g_v ≠ b) := Lib.hid (by omega)
          have NP_v : Hid (p ≠ g_v) := Lib.hid (by omega)
          clear hlt hlp
          have M_x_v : Hid (w.heap.size ≠ g_v) := Lib.hid (by omega)
          have M_v_x : Hid (g_v ≠ w.heap.size) := Lib.hid (by omega)
          clear hl_x
          have M_c_v : Hid (g_c ≠ g_v) := Lib.hid (by omega)
          have M_v_c : Hid (g_v ≠ g_c) := Lib.hid (by omega)
          clear hl_c
          have M_d_v : Hid (g_d ≠ g_v) := Lib.hid (by omega)
          have M_v_d : Hid (g_v ≠ g_d) := Lib.hid (by omega)
          clear hl_d
          have M_r_v : Hid (g_r ≠ g_v) := Lib.hid (by omega)
          have M_v_r : Hid (g_v ≠ g_r) := Lib.hid (by omega)
          clear hl_r
          have M_o_v : Hid (g_o ≠ g_v) := Lib.hid (by omega)
          have M_v_o : Hid (g_v ≠ g_o) := Lib.hid (by omega)
          clear hl_o
          have M_t_v : Hid (g_t ≠ g_v) := Lib.hid (by omega)
          have M_v_t : Hid (g_v ≠ g_t) := Lib.hid (by omega)
          clear hl_t
          have L_v : Hid (w.heap.size ≤ g_v) := Lib.hid (by omega)
          clear hg_v hlB
          go_wp2_with fail
          refine (plan_any _).mono ?_
          rintro r w15 ⟨rfl, hb⟩
          have hsz := (hb).size
          replace H_x := Lib.hid (row_below H_x.out hb)
          replace H_c := Lib.hid (row_below H_c.out hb)
          replace H_d := Lib.hid (row_below H_d.out hb)
          replace H_r := Lib.hid (row_below H_r.out hb)
          replace H_o := Lib.hid (row_below H_o.out hb)
          replace H_t := Lib.hid (row_below H_t.out hb)
          replace H_v := Lib.hid (row_below H_v.out hb)
          replace E_ch := Lib.hid (Ents.below E_ch.out hb)
          replace HA := Lib.hid (HA.out.below hb)
          replace B := Lib.hid (below_only B.out hb)
          clear hb hsz
          go_wp2_with fail
          refine (foundCtl_any p b 4 4 0 64 _ 16 2 ⟨f1, f2, f3, f4⟩ _ PL HA.out Hr.out Hg16.out (by decide) (by decide)).mono ?_
          rintro r w16 ⟨rfl, hb⟩
          have hsz := (hb).size
          replace H_x := Lib.hid (row_below H_x.out hb)
          replace H_c := Lib.hid (row_below H_c.out hb)
          replace H_d := Lib.hid (row_below H_d.out hb)
          replace H_r := Lib.hid (row_below H_r.out hb)
          replace H_o := Lib.hid (row_below H_o.out hb)
          replace H_t := Lib.hid (row_below H_t.out hb)
          replace H_v := Lib.hid (row_below H_v.out hb)
          replace E_ch := Lib.hid (Ents.below E_ch.out hb)
          replace HA := Lib.hid (HA.out.below hb)
          replace B := Lib.hid (below_only B.out hb)
          clear hb hsz
          go_upto_region 21 with fail
          refine one_row w16 _ _ ?_
          intro w17 hr hb
          have hlB := B.out.size
          have hlt := lt_of_heap HA.out.row
          have hlp := lt_of_heap HA.out.box
          have hl_x := lt_of_heap H_x.out
          have hl_c := lt_of_heap H_c.out
          have hl_d := lt_of_heap H_d.out
          have hl_r := lt_of_heap H_r.out
          have hl_o := lt_of_heap H_o.out
          have hl_t := lt_of_heap H_t.out
          have hl_v := lt_of_heap H_v.out
          have hsz := (hb).size
          replace H_x := Lib.hid (row_below H_x.out hb)
          replace H_c := Lib.hid (row_below H_c.out hb)
          replace H_d := Lib.hid (row_below H_d.out hb)
          replace H_r := Lib.hid (row_below H_r.out hb)
          replace H_o := Lib.hid (row_below H_o.out hb)
          replace H_t := Lib.hid (row_below H_t.out hb)
          replace H_v := Lib.hid (row_below H_v.out hb)
          replace E_ch := Lib.hid (Ents.below E_ch.out hb)
          replace HA := Lib.hid (HA.out.below hb)
          replace B := Lib.hid (below_only B.out hb)
          clear hb hsz
          have H_u := Lib.hid (show w17.heap[w16.heap.size]? = some (.cells #[.int .i64 f1, .int .i64 f2, .int .i64 f3, .int .i64 f4] 23 (0, 0)) from hr)
          clear hr
          obtain ⟨g_u, hg_u⟩ : ∃ x, x = w16.heap.size := ⟨_, rfl⟩
          rw [← hg_u] at H_u ⊢
          have N_u : Hid (g_u ≠ b) := Lib.hid (by omega)
          have NP_u : Hid (p ≠ g_u) := Lib.hid (by omega)
          clear hlt hlp
          have M_x_u : Hid (w.heap.size ≠ g_u) := Lib.hid (by omega)
          have M_u_x : Hid (g_u ≠ w.heap.size) := Lib.hid (by omega)
          clear hl_x
          have M_c_u : Hid (g_c ≠ g_u) := Lib.hid (by omega)
          have M_u_c : Hid (g_u ≠ g_c) := Lib.hid (by omega)
          clear hl_c
          have M_d_u : Hid (g_d ≠ g_u) := Lib.hid (by omega)
          have M_u_d : Hid (g_u ≠ g_d) := Lib.hid (by omega)
          clear hl_d
          have M_r_u : Hid (g_r ≠ g_u) := Lib.hid (by omega)
          have M_u_r : Hid (g_u ≠ g_r) := Lib.hid (by omega)
          clear hl_r
          have M_o_u : Hid (g_o ≠ g_u) := Lib.hid (by omega)
          have M_u_o : Hid (g_u ≠ g_o) := Lib.hid (by omega)
          clear hl_o
          have M_t_u : Hid (g_t ≠ g_u) := Lib.hid (by omega)
          have M_u_t : Hid (g_u ≠ g_t) := Lib.hid (by omega)
          clear hl_t
          have M_v_u : Hid (g_v ≠ g_u) := Lib.hid (by omega)
          have M_u_v : Hid (g_u ≠ g_v) := Lib.hid (by omega)
          clear hl_v
          have L_u : Hid (w.heap.size ≤ g_u) := Lib.hid (by omega)
          clear hg_u hlB
          obtain ⟨v_0, v_1, v_2, v_3, v_f0, v_f1, v_f2, v_f3⟩ := box4 H_v.out
          have z_v := lt_of_heap H_v.out
          obtain ⟨u_0, u_1, u_2, u_3, u_f0, u_f1, u_f2, u_f3⟩ := box4 H_u.out
          have z_u := lt_of_heap H_u.out
          obtain ⟨c_0, c_1, c_2, c_3, c_f0, c_f1, c_f2, c_f3⟩ := box4 H_c.out
          have z_c := lt_of_heap H_c.out
          obtain ⟨d_0, d_1, d_2, d_3, d_f0, d_f1, d_f2, d_f3⟩ := box4 H_d.out
          have z_d := lt_of_heap H_d.out
          have t_21 : w17.cell? ⟨g_t, 21, none⟩ = some (.bool true) := by rw [row_cell H_t.out]; rfl
          have t_22 : w17.cell? ⟨g_t, 22, none⟩ = some (.bool true) := by rw [row_cell H_t.out]; rfl
          have t_23 : w17.cell? ⟨g_t, 23, none⟩ = some (.int .i64 0) := by rw [row_cell H_t.out]; rfl
          have B2 := B.out
          clear B
          go_wp2_with fail
          go_ret
          exact ⟨by first | rfl | simp, B2⟩
      · skip
        have Hl : Hid ((lookN ⟨f1, f2, f3, f4⟩ 1 a ⟨cA, 1, kc⟩) = toldR (callRn 1 a ⟨cA, 1, kc⟩) er 0 noS) := Lib.hid (by unfold lookN; rw [HE.out, if_neg h10, if_neg h0])
        rw [Hl.out] at H_o
        have t1 : (er == 10) = false := by simpa using h10
        have t2 : (er != 0) = true := by simpa using h0
        clear h10 h0
        go_wp2_with fail
        refine (plan_any _).mono ?_
        rintro r w11 ⟨rfl, hb⟩
        have hsz := (hb).size
        replace H_x := Lib.hid (row_below H_x.out hb)
        replace H_c := Lib.hid (row_below H_c.out hb)
        replace H_d := Lib.hid (row_below H_d.out hb)
        replace H_r := Lib.hid (row_below H_r.out hb)
        replace H_o := Lib.hid (row_below H_o.out hb)
        replace E_ch := Lib.hid (Ents.below E_ch.out hb)
        replace HA := Lib.hid (HA.out.below hb)
        replace B := Lib.hid (below_only B.out hb)
        clear hb hsz
        go_wp2_with fail
        refine (foundCtl_any p b 4 4 0 64 WS 8 1 ⟨f1, f2, f3, f4⟩ _ PL HA.out Hr.out Hk8.out (by decide) (by decide)).mono ?_
        rintro r w12 ⟨rfl, hb⟩
        have hsz := (hb).size
        replace H_x := Lib.hid (row_below H_x.out hb)
        replace H_c := Lib.hid (row_below H_c.out hb)
        replace H_d := Lib.hid (row_below H_d.out hb)
        replace H_r := Lib.hid (row_below H_r.out hb)
        replace H_o := Lib.hid (row_below H_o.out hb)
        replace E_ch := Lib.hid (Ents.below E_ch.out hb)
        replace HA := Lib.hid (HA.out.below hb)
        replace B := Lib.hid (below_only B.out hb)
        clear hb hsz
        go_upto_region 15 with fail
        refine one_row w12 _ _ ?_
        intro w13 hr hb
        have hlB := B.out.size
        have hlt := lt_of_heap HA.out.row
        have hlp := lt_of_heap HA.out.box
        have hl_x := lt_of_heap H_x.out
        have hl_c := lt_of_heap H_c.out
        have hl_d := lt_of_heap H_d.out
        have hl_r := lt_of_heap H_r.out
        have hl_o := lt_of_heap H_o.out
        have hsz := (hb).size
        replace H_x := Lib.hid (row_below H_x.out hb)
        replace H_c := Lib.hid (row_below H_c.out hb)
        replace H_d := Lib.hid (row_below H_d.out hb)
        replace H_r := Lib.hid (row_below H_r.out hb)
        replace H_o := Lib.hid (row_below H_o.out hb)
        replace E_ch := Lib.hid (Ents.below E_ch.out hb)
        replace HA := Lib.hid (HA.out.below hb)
        replace B := Lib.hid (below_only B.out hb)
        clear hb hsz
        have H_v := Lib.hid (show w13.heap[w12.heap.size]? = some (.cells #[.int .i64 f1, .int .i64 f2, .int .i64 f3, .int .i64 f4] 23 (0, 0)) from hr)
        clear hr
        obtain ⟨g_v, hg_v⟩ : ∃ x, x = w12.heap.size := ⟨_, rfl⟩
        rw [← hg_v] at H_v ⊢
        have N_v : Hid (g_v ≠ b) := Lib.hid (by omega)
        have NP_v : Hid (p ≠ g_v) := Lib.hid (by omega)
        clear hlt hlp
        have M_x_v : Hid (w.heap.size ≠ g_v) := Lib.hid (by omega)
        have M_v_x : Hid (g_v ≠ w.heap.size) := Lib.hid (by omega)
        clear hl_x
        have M_c_v : Hid (g_c ≠ g_v) := Lib.hid (by omega)
        have M_v_c : Hid (g_v ≠ g_c) := Lib.hid (by omega)
        clear hl_c
        have M_d_v : Hid (g_d ≠ g_v) := Lib.hid (by omega)
        have M_v_d : Hid (g_v ≠ g_d) := Lib.hid (by omega)
        clear hl_d
        have M_r_v : Hid (g_r ≠ g_v) := Lib.hid (by omega)
        have M_v_r : Hid (g_v ≠ g_r) := Lib.hid (by omega)
        clear hl_r
        have M_o_v : Hid (g_o ≠ g_v) := Lib.hid (by omega)
        have M_v_o : Hid (g_v ≠ g_o) := Lib.hid (by omega)
        clear hl_o
        have L_v : Hid (w.heap.size ≤ g_v) := Lib.hid (by omega)
        clear hg_v hlB
        obtain ⟨v_0, v_1, v_2, v_3, v_f0, v_f1, v_f2, v_f3⟩ := box4 H_v.out
        have z_v := lt_of_heap H_v.out
        obtain ⟨c_0, c_1, c_2, c_3, c_f0, c_f1, c_f2, c_f3⟩ := box4 H_c.out
        have z_c := lt_of_heap H_c.out
        have o_21 : w13.cell? ⟨g_o, 21, none⟩ = some (.bool true) := by rw [row_cell H_o.out]; rfl
        have o_22 : w13.cell? ⟨g_o, 22, none⟩ = some (.bool true) := by rw [row_cell H_o.out]; rfl
        have o_23 : w13.cell? ⟨g_o, 23, none⟩ = some (.int .i64 er) := by rw [row_cell H_o.out]; rfl
        have B2 := B.out
        clear B
        go_wp2_with fail
        go_ret
        exact ⟨by first | rfl | simp, B2⟩

end Go.Proofs.Ytconieenkeajiaa
