/- Layer 15: the walk of TakeFits. (Printed.) -/
import Derived.Test.YtoadddfiibeenaaFit
namespace Go.Proofs.Ytoadddfiibeenaa
open Go.RowKit
set_option linter.unusedVariables false
set_option linter.unusedSimpArgs false

set_option maxRecDepth 100000 in
set_option maxHeartbeats 16000000 in
theorem takeFits_walk (size ep : Int) (A : Option Addr) (cp : Nat) (L : List N3) (w : World) (z0 : (Lit.int .u8 size).wf = true) (z1 : (Lit.int .u16 ep).wf = true) (hLk : L.length ≤ cp) (hkm : cp ≤ maxLen) (hL : Cells w A (L.flatMap n3Cells)) (hq : ∀ t ∈ L, N3Ok t) :
    Calls Try.prog 4 #[.int .u8 size, .int .u16 ep, .slice A L.length cp] w fun r w' => r = .returned (.bool true) ∧ Below w.heap.size w w' := by
  have hlm : L.length ≤ 9223372036854775807 := by unfold maxLen at hkm; omega
  have HL0 := Lib.hid hL
  have Hq := Lib.hid hq
  clear hL hq hkm
  have hsz0 := wf_u8 z0
  have hep0 := wf_u16 z1
  obtain ⟨se0, se1⟩ := hsz0
  obtain ⟨ep0, ep1⟩ := hep0
  have HBo : Hid (BothOk 1 64 (8 + size) ep) := Lib.hid ⟨by decide, by decide, by decide, by omega, by omega⟩
  have HS0 := Lib.hid (st2_both HBo.out)
  have HPl := Lib.hid HBo.out.plan
  clear z0 z1
  go_enter Try.func4, Try.ntmps4
  have B := Lib.hid (Below.refl w.heap.size w)
  go_wp2_with fail
  refine (shown15_any _).mono ?_
  rintro r w1 ⟨rfl, hb⟩
  have hsz := (hb).size
  replace B := Lib.hid (below_only B.out hb)
  clear hb hsz
  go_upto_region 3 with fail
  refine one_row w1 _ _ ?_
  intro w2 hr hb
  have hlB := B.out.size
  have hsz := (hb).size
  replace B := Lib.hid (below_only B.out hb)
  clear hb hsz
  have H_p := Lib.hid (show w2.heap[w1.heap.size]? = some (.cells #[.int .i64 2, .int .i64 1, .int .i64 64, .int .i64 320] 29 (0, 0)) from hr)
  clear hr
  obtain ⟨g_p, hg_p⟩ : ∃ x, x = w1.heap.size := ⟨_, rfl⟩
  rw [← hg_p] at H_p ⊢
  have L_p : Hid (w.heap.size ≤ g_p) := Lib.hid (by omega)
  clear hg_p hlB
  obtain ⟨p_0, p_1, p_2, p_3, p_f0, p_f1, p_f2, p_f3⟩ := box4 H_p.out
  have z_p := lt_of_heap H_p.out
  go_wp2_with fail
  clear p_0 p_1 p_2 p_3 p_f0 p_f1 p_f2 p_f3 z_p
  refine (both_any 1 64 (8 + size) ep _ HBo.out).mono ?_
  rintro r w3 ⟨p, b, X, q, d, rfl, hT, hb⟩
  have HT0 := Lib.hid hT
  have hlp := lt_of_heap H_p.out
  have HBB := Lib.hid B.out.size
  clear hT
  obtain ⟨wl, hwl⟩ : ∃ x, x = w2.heap.size := ⟨_, rfl⟩
  rw [← hwl] at hlp HT0 HBB
  have hsz := (hb).size
  replace H_p := Lib.hid (row_below H_p.out hb)
  replace B := Lib.hid (below_only B.out hb)
  clear hb hsz
  have N_p : Hid (g_p ∉ [p, b, X, q, d]) := Lib.hid (HT0.out.elder hlp)
  have HT : Hid (TwoW w.heap.size w3 p b X q d 2 1 64 320 (bothWs 64 (8 + size) ep) (bothWs 64 (8 + size) ep)) := Lib.hid { HT0.out with low := by have := HT0.out.low; have := HBB.out; omega }
  clear HT0 hlp hwl HBB
  obtain ⟨WS, HWS⟩ : ∃ x, Hid (bothWs 64 (8 + size) ep = x) := ⟨_, Lib.hid rfl⟩
  rw [HWS.out] at HT HS0
  obtain ⟨u, Hu⟩ : ∃ x, Hid (up8 (8 + size) = x) := ⟨_, Lib.hid rfl⟩
  have Hub : Hid (8 ≤ u ∧ u ≤ 320 ∧ u % 8 = 0) := Lib.hid (by rw [← Hu.out]; exact both_up HBo.out)
  rw [Hu.out] at HS0
  have HFt : Hid (FitW ep u WS 0) := Lib.hid (by rw [← HWS.out, ← Hu.out]; exact fit_start HBo.out)
  clear HS0
  have q1 : IntKind.i64.wrap (8 + size) = 8 + size := IntWalk.i64_in _ (by omega)
  have q2 : IntKind.i64.wrap (8 + size + 7) = 8 + size + 7 := IntWalk.i64_in _ (by omega)
  obtain ⟨bq, hbq⟩ : ∃ x, (8 + size + 7) / 8 = x := ⟨_, rfl⟩
  have q3 : (8 + size + 7).tdiv 8 = bq := by rw [Int.tdiv_eq_ediv_of_nonneg (by omega)]; exact hbq
  have q4 : IntKind.i64.wrap bq = bq := IntWalk.i64_in _ (by omega)
  have q5 : bq * 8 = u := by rw [← hbq]; exact Hu.out
  obtain ⟨ub0, ub1, ub2⟩ := Hub.out
  have q6 : IntKind.i64.wrap u = u := IntWalk.i64_in _ (by omega)
  clear hbq
  go_wp2_with fail
  clear q1 q2 q3 q4 q5
  refine (rallGet_any X q d 2 1 64 320 WS 9 192 1 1 _ HT.out.x HFt.out.blk.blk.ba (by decide) (by decide) (by decide)).mono ?_
  rintro r w4 ⟨rfl, hb⟩
  have hsz := (hb).size
  replace H_p := Lib.hid (row_below H_p.out hb)
  replace HT := Lib.hid (HT.out.below hb)
  replace B := Lib.hid (below_only B.out hb)
  clear hb hsz
  go_wp2_with fail
  go_loopw [13, 14] (fun t13 tt wr => ∃ (i : Nat) (ws : List Int) (sm : Int), i ≤ L.length ∧ i ≤ 20 ∧ t13 = .int .i64 sm ∧ tt = .int .i64 i ∧ FitW ep u ws sm ∧ TwoW w.heap.size wr p b X q d 2 1 64 320 ws WS ∧ wr.heap[g_p]? = some (.cells #[.int .i64 2, .int .i64 1, .int .i64 64, .int .i64 320] 29 (0, 0)) ∧ Below w.heap.size w wr) (fun _ t _ => (20 - intOf t).toNat)
  case atStart => exact ⟨0, WS, _, Nat.zero_le _, by omega, rfl, rfl, HFt.out, HT.out, H_p.out, B.out⟩
  case round =>
    clear HT H_p B HFt
    obtain ⟨i, ws, sm, hi, hi2, rfl, rfl, hS, hT, hp, hB⟩ := hrel
    have HS := Lib.hid hS
    have HT := Lib.hid hT
    have H_p := Lib.hid hp
    have B := Lib.hid hB
    clear hS hT hp hB
    by_cases hlt : i < L.length ∧ i < 20
    · skip
      obtain ⟨hlt, hlt2⟩ := hlt
      have hlt3 : (i : Int) < 20 := by omega
      obtain ⟨bA, off, rfl, hbA, hcA⟩ := n3s_at HL0.out (by omega)
      obtain ⟨⟨x, y, z⟩, hop⟩ : ∃ o, L[i]? = some o := ⟨_, List.getElem?_eq_getElem hlt⟩
      have Hxyz : Hid (N3Ok ⟨x, y, z⟩) := Lib.hid (Hq.out _ (List.mem_of_getElem? hop))
      obtain ⟨k1, k2, k3⟩ := hcA i _ hop
      simp only at k1 k2 k3
      have Hlt := Lib.hid hlt
      have cA1 := (B.out.cell (p := ⟨bA, off + i * 3, none⟩) hbA).trans k1
      have cA2 := (B.out.cell (p := ⟨bA, off + i * 3 + 1, none⟩) hbA).trans k2
      have cA3 := (B.out.cell (p := ⟨bA, off + i * 3 + 2, none⟩) hbA).trans k3
      have zA : bA < wr.heap.size := Nat.lt_of_lt_of_le hbA B.out.size
      clear hcA hop k1 k2 k3 hbA
      obtain ⟨a0, Ha0⟩ : ∃ a, Hid (x % 7 = a) := ⟨_, Lib.hid rfl⟩
      obtain ⟨b0, Hb0⟩ : ∃ a, Hid (y % 61 = a) := ⟨_, Lib.hid rfl⟩
      obtain ⟨c0, Hc0⟩ : ∃ a, Hid (z % 8 = a) := ⟨_, Lib.hid rfl⟩
      have hxyz := Hxyz.out
      obtain ⟨⟨x0, x1⟩, ⟨y0, y1⟩, ⟨z0, z1⟩⟩ := hxyz
      simp only at x0 x1 y0 y1 z0 z1
      have Hab : Hid ((0 ≤ a0 ∧ a0 ≤ 6) ∧ (0 ≤ b0 ∧ b0 ≤ 512) ∧ (0 ≤ c0 ∧ c0 ≤ 7) ∧ b0 ≤ 60) := Lib.hid (by have := Ha0.out; have := Hb0.out; have := Hc0.out; omega)
      have HCal : Hid (CalOk ⟨7, 1, 0, 0, a0, b0, c0⟩) := Lib.hid (cal15 Hab.out.1 Hab.out.2.1 Hab.out.2.2.1)
      have HOf : Hid (∀ ch, rbeginRn 2 (chE true) ⟨7, 1, 0, 0, a0, b0, c0⟩ (rregR 0 0 0 0 0) (rregR 0 0 0 0 0) ch = tkCall (chK true : Int) a0 b0 c0 ch) := Lib.hid fun ch => of15 true Hab.out.1 Hab.out.2.1 Hab.out.2.2.1 ch
      have HCa := fun w' => Lib.hid (call15_any x y z w' Hxyz.out.hx Hxyz.out.hy Hxyz.out.hz)
      simp only [Ha0.out, Hb0.out, Hc0.out] at HCa
      clear x0 x1 y0 y1 z0 z1
      go_wp2_with fail
      refine (HCa _).out.mono ?_
      rintro r x1 ⟨rfl, hb⟩
      clear cA1 cA2 cA3 zA HCa
      have hsz := (hb).size
      replace H_p := Lib.hid (row_below H_p.out hb)
      replace HT := Lib.hid (HT.out.below hb)
      replace B := Lib.hid (below_only B.out hb)
      clear hb hsz
      go_upto_region 13 with (refine wpList_store_row rfl 35 (.tmp 15) (.tmp 73) rfl x1.heap.size #[.int .u8 7, .int .u8 1, .int .u8 0, .int .u8 0, .int .i64 a0, .int .i64 b0, .int .i64 c0] rfl rfl 35 #[.int .u8 0, .int .u8 0, .int .u8 0, .int .u8 0, .int .i64 0, .int .i64 0, .int .i64 0] (row_new _ _ _) infoCal7 rfl (one7 _ _ _ _ _ _ _) ?_; (try simp only [Act.put]); (try simp only [List.setIfInBounds_toArray]); (try simp only [List.set_cons_succ]); (try simp only [List.set_cons_zero]))
      refine alloc_set' x1 _ _ _ ?_
      intro x2 hr hb
      have hlB := B.out.size
      have hfr := HT.out.fresh (Nat.le_refl x1.heap.size)
      have hl_p := lt_of_heap H_p.out
      have hsz := (hb).size
      replace H_p := Lib.hid (row_below H_p.out hb)
      replace HT := Lib.hid (HT.out.below hb)
      replace B := Lib.hid (below_only B.out hb)
      clear hb hsz
      have H_c := Lib.hid (show x2.heap[x1.heap.size]? = some (.cells #[.int .u8 7, .int .u8 1, .int .u8 0, .int .u8 0, .int .i64 a0, .int .i64 b0, .int .i64 c0] 35 (0, 0)) from hr)
      clear hr
      obtain ⟨g_c, hg_c⟩ : ∃ x, x = x1.heap.size := ⟨_, rfl⟩
      rw [← hg_c] at H_c ⊢
      have N_c : Hid (g_c ∉ [p, b, X, q, d]) := Lib.hid (by rw [hg_c]; exact hfr)
      clear hfr
      have M_p_c : Hid (g_p ≠ g_c) := Lib.hid (by omega)
      have M_c_p : Hid (g_c ≠ g_p) := Lib.hid (by omega)
      clear hl_p
      have L_c : Hid (w.heap.size ≤ g_c) := Lib.hid (by omega)
      clear hg_c hlB
      try simp only [Act.put]
      go_cut [16] from 74 to 78 (fun vd wx => ∃ gr cA kc, vd = .pointer (some ⟨gr, 0, none⟩) ∧ x2.heap.size ≤ gr ∧ wx.heap[gr]? = some (.cells (tkCall (chK true : Int) a0 b0 c0 ⟨cA, (chE true).length, kc⟩).arr 42 (0, 0)) ∧ Ents wx cA (chE true) ∧ (∀ z, 0 < (chE true).length → cA = some z → x2.heap.size ≤ z.block) ∧ (∀ z, 0 < (chE true).length → cA = some z → z.block ≠ gr) ∧ Below x2.heap.size x2 wx)
      case first =>
        as_aux_lemma =>
          refine wp_region_held_drew (S := fun W' => W'.heap[g_p]? = some (.cells #[.int .i64 2, .int .i64 1, .int .i64 64, .int .i64 320] 29 (0, 0)) ∧ W'.heap[g_c]? = some (.cells #[.int .u8 7, .int .u8 1, .int .u8 0, .int .u8 0, .int .i64 a0, .int .i64 b0, .int .i64 c0] 35 (0, 0))) (by kernel_rfl) (show x2.drew.heap[g_p]? = some (.cells #[.int .i64 2, .int .i64 1, .int .i64 64, .int .i64 320] 29 (0, 0)) ∧ x2.drew.heap[g_c]? = some (.cells #[.int .u8 7, .int .u8 1, .int .u8 0, .int .u8 0, .int .i64 a0, .int .i64 b0, .int .i64 c0] 35 (0, 0)) from ⟨H_p.out, H_c.out⟩) ?_
          intro hS
          have hB0 : Below x2.heap.size x2 x2.drew := Below.drew (Below.refl _ _)
          generalize x2.drew = y0 at hS hB0 ⊢
          refine wpAnyH_take_at (i := 0) (v := .agg #[.int .i64 2, .int .i64 1, .int .i64 64, .int .i64 320]) (some 74) rfl rfl (by kernel_rfl) (by kernel_rfl) (by kernel_rfl) (fun _ _ _ h => h) (yieldsIf_load_row (by kernel_rfl) 29 (.tmp 8) rfl g_p rfl #[.int .i64 2, .int .i64 1, .int .i64 64, .int .i64 320] (fun W' hW' => hW'.1) undPln4 rfl infoPln4) (by assumption) ?_
          try simp only [Act.put]
          try simp only [List.setIfInBounds_toArray]
          try simp only [List.set_cons_succ]
          try simp only [List.set_cons_zero]
          refine wpAnyH_take_at (i := 3) (v := .agg #[.int .u8 7, .int .u8 1, .int .u8 0, .int .u8 0, .int .i64 a0, .int .i64 b0, .int .i64 c0]) (some 77) rfl rfl (by kernel_rfl) (by kernel_rfl) (by kernel_rfl) (fun _ _ _ h => h) (yieldsIf_load_row (by kernel_rfl) 35 (.tmp 15) rfl g_c rfl #[.int .u8 7, .int .u8 1, .int .u8 0, .int .u8 0, .int .i64 a0, .int .i64 b0, .int .i64 c0] (fun W' hW' => hW'.2) undCal7 rfl infoCal7) (by assumption) ?_
          try simp only [Act.put]
          try simp only [List.setIfInBounds_toArray]
          try simp only [List.set_cons_succ]
          try simp only [List.set_cons_zero]
          refine wpAnyH_ready (rs := [1, 2, 5]) (by kernel_rfl) (by simp) ?_
          refine AllReadyH.cons rfl (fun K hK => ?_) (AllReadyH.cons rfl (fun K hK => ?_) (AllReadyH.cons rfl (fun K hK => ?_) AllReadyH.nil))
          · skip
            go_simp
            refine k_alloc (fun yM hM hb => ?_)
            have hzM : x2.heap.size ≤ y0.heap.size := hB0.size
            obtain ⟨gM, HgM⟩ : ∃ x, x = y0.heap.size := ⟨_, rfl⟩
            replace hB0 := below_only hB0 hb
            rw [← HgM] at hM ⊢
            clear HgM
            refine hK.out _ _ (⟨row_below hS.1 hb, row_below hS.2 hb⟩) (fun hS => ?_)
            clear hK K
            try simp only [Act.put]
            try simp only [List.setIfInBounds_toArray]
            try simp only [List.set_cons_succ]
            try simp only [List.set_cons_zero]
            refine wpAnyH_ready (rs := [2, 5]) (by kernel_rfl) (by simp) ?_
            refine AllReadyH.cons rfl (fun K hK => ?_) (AllReadyH.cons rfl (fun K hK => ?_) AllReadyH.nil)
            · skip
              go_simp
              refine (chain15_any true _).mono ?_
              rintro e' yC ⟨cB, rfl, hE, hEn, hb⟩
              go_simp
              have hEl : ∀ z, 0 < (chE true).length → cB = some z → x2.heap.size ≤ z.block := fun z _ hz => Nat.le_trans hB0.size (hEn z hz)
              replace hB0 := below_only hB0 hb
              replace hM := row_below hM hb
              refine hK.out _ _ (⟨row_below hS.1 hb, row_below hS.2 hb⟩) (fun hS => ?_)
              clear hK K
              try simp only [Act.put]
              try simp only [List.setIfInBounds_toArray]
              try simp only [List.set_cons_succ]
              try simp only [List.set_cons_zero]
              refine wpAnyH_ready (rs := [4, 5]) (by kernel_rfl) (by simp) ?_
              refine AllReadyH.cons rfl (fun K hK => ?_) (AllReadyH.cons rfl (fun K hK => ?_) AllReadyH.nil)
              · skip
                go_simp
                obtain ⟨m0, m1, m2, m3, _⟩ := box4 hM
                refine (rof_any ⟨2, 1, 64, 320⟩ cB (chE true).length (chE true) ⟨7, 1, 0, 0, a0, b0, c0⟩ 0 0 0 0 gM 0 4 _ (Nat.le_refl _) (by unfold chE; split <;> simp) hE (by decide) (by decide) HCal.out (by decide) (by decide) (by decide) (by decide) (by decide) m0 m1 m2 m3).mono ?_
                rintro e' yO ⟨kc, cA, rfl, hE2, hE2n, hb⟩
                rw [HOf.out]
                go_simp
                clear m0 m1 m2 m3
                have hE2l : ∀ z, 0 < (chE true).length → cA = some z → x2.heap.size ≤ z.block := fun z h0 hz => Nat.le_trans hB0.size (hE2n z h0 hz)
                replace hB0 := below_only hB0 hb
                replace hM := row_below hM hb
                replace hE := Ents.below hE hb
                refine hK.out _ _ (⟨row_below hS.1 hb, row_below hS.2 hb⟩) (fun hS => ?_)
                clear hK K
                try simp only [Act.put]
                try simp only [List.setIfInBounds_toArray]
                try simp only [List.set_cons_succ]
                try simp only [List.set_cons_zero]
                refine wpAnyH_ready (rs := [5]) (by kernel_rfl) (by simp) ?_
                refine AllReadyH.cons rfl (fun K hK => ?_) AllReadyH.nil
                refine step_alloc_run (some 16) rfl rfl rfl ?_
                refine k_alloc (fun yZ hZ hb => ?_)
                have hzZ : x2.heap.size ≤ yO.heap.size := hB0.size
                obtain ⟨gZ, HgZ⟩ : ∃ x, x = yO.heap.size := ⟨_, rfl⟩
                have hEZ : ∀ z, 0 < (chE true).length → cA = some z → z.block ≠ gZ := by rw [HgZ]; exact ents_far hE2 (Nat.le_refl _)
                have hpz : g_p ≠ gZ ∧ g_c ≠ gZ := by have := lt_of_heap hS.1; have := lt_of_heap hS.2; omega
                replace hB0 := below_only hB0 hb
                replace hM := row_below hM hb
                replace hE := Ents.below hE hb
                replace hE2 := Ents.below hE2 hb
                rw [← HgZ] at hZ hzZ ⊢
                clear HgZ
                refine hK.out _ _ (⟨row_below hS.1 hb, row_below hS.2 hb⟩) (fun hS => ?_)
                clear hK K
                try simp only [Act.put]
                try simp only [List.setIfInBounds_toArray]
                try simp only [List.set_cons_succ]
                try simp only [List.set_cons_zero]
                refine wpAnyH_ready (rs := [6]) (by kernel_rfl) (by simp) ?_
                refine AllReadyH.cons rfl (fun K hK => ?_) AllReadyH.nil
                refine step_store_row none rfl rfl 42 (.tmp 16) (.tmp 78) rfl gZ (tkCall (chK true : Int) a0 b0 c0 ⟨cA, (chE true).length, kc⟩).arr rfl rfl 42 ZRun hZ infoRun rfl (Rn.one _) ?_
                refine hK.out _ _ (⟨(setRow_other _ _ _ _ hpz.1).trans hS.1, (setRow_other _ _ _ _ hpz.2).trans hS.2⟩) (fun hS => ?_)
                clear hK K
                try simp only [Act.put]
                try simp only [List.setIfInBounds_toArray]
                try simp only [List.set_cons_succ]
                try simp only [List.set_cons_zero]
                refine wpAnyH_done (by kernel_rfl) ?_ _
                go_wp2_with fail
                go_meet
                exact ⟨gZ, cA, kc, rfl, hzZ, setRow_heap _ _ _ _ _ _ hZ, ents_setRow hE2 hEZ _, hE2l, hEZ, below_setRow hB0 hzZ _⟩
              · skip
                refine step_alloc_run (some 16) rfl rfl rfl ?_
                refine k_alloc (fun yZ hZ hb => ?_)
                have hzZ : x2.heap.size ≤ yC.heap.size := hB0.size
                obtain ⟨gZ, HgZ⟩ : ∃ x, x = yC.heap.size := ⟨_, rfl⟩
                have hpz : g_p ≠ gZ ∧ g_c ≠ gZ := by have := lt_of_heap hS.1; have := lt_of_heap hS.2; omega
                replace hB0 := below_only hB0 hb
                replace hM := row_below hM hb
                replace hE := Ents.below hE hb
                rw [← HgZ] at hZ hzZ ⊢
                clear HgZ
                refine hK.out _ _ (⟨row_below hS.1 hb, row_below hS.2 hb⟩) (fun hS => ?_)
                clear hK K
                try simp only [Act.put]
                try simp only [List.setIfInBounds_toArray]
                try simp only [List.set_cons_succ]
                try simp only [List.set_cons_zero]
                refine wpAnyH_ready (rs := [4]) (by kernel_rfl) (by simp) ?_
                refine AllReadyH.cons rfl (fun K hK => ?_) AllReadyH.nil
                go_simp
                obtain ⟨m0, m1, m2, m3, _⟩ := box4 hM
                refine (rof_any ⟨2, 1, 64, 320⟩ cB (chE true).length (chE true) ⟨7, 1, 0, 0, a0, b0, c0⟩ 0 0 0 0 gM 0 4 _ (Nat.le_refl _) (by unfold chE; split <;> simp) hE (by decide) (by decide) HCal.out (by decide) (by decide) (by decide) (by decide) (by decide) m0 m1 m2 m3).mono ?_
                rintro e' yO ⟨kc, cA, rfl, hE2, hE2n, hb⟩
                rw [HOf.out]
                go_simp
                clear m0 m1 m2 m3
                have hE2l : ∀ z, 0 < (chE true).length → cA = some z → x2.heap.size ≤ z.block := fun z h0 hz => Nat.le_trans hB0.size (hE2n z h0 hz)
                have hEZ : ∀ z, 0 < (chE true).length → cA = some z → z.block ≠ gZ := fun z h0 hz => by have := hE2n z h0 hz; have := lt_of_heap hZ; omega
                replace hB0 := below_only hB0 hb
                replace hM := row_below hM hb
                replace hE := Ents.below hE hb
                replace hZ := row_below hZ hb
                refine hK.out _ _ (⟨row_below hS.1 hb, row_below hS.2 hb⟩) (fun hS => ?_)
                clear hK K
                try simp only [Act.put]
                try simp only [List.setIfInBounds_toArray]
                try simp only [List.set_cons_succ]
                try simp only [List.set_cons_zero]
                refine wpAnyH_ready (rs := [6]) (by kernel_rfl) (by simp) ?_
                refine AllReadyH.cons rfl (fun K hK => ?_) AllReadyH.nil
                refine step_store_row none rfl rfl 42 (.tmp 16) (.tmp 78) rfl gZ (tkCall (chK true : Int) a0 b0 c0 ⟨cA, (chE true).length, kc⟩).arr rfl rfl 42 ZRun hZ infoRun rfl (Rn.one _) ?_
                refine hK.out _ _ (⟨(setRow_other _ _ _ _ hpz.1).trans hS.1, (setRow_other _ _ _ _ hpz.2).trans hS.2⟩) (fun hS => ?_)
                clear hK K
                try simp only [Act.put]
                try simp only [List.setIfInBounds_toArray]
                try simp only [List.set_cons_succ]
                try simp only [List.set_cons_zero]
                refine wpAnyH_done (by kernel_rfl) ?_ _
                go_wp2_with fail
                go_meet
                exact ⟨gZ, cA, kc, rfl, hzZ, setRow_heap _ _ _ _ _ _ hZ, ents_setRow hE2 hEZ _, hE2l, hEZ, below_setRow hB0 hzZ _⟩
            · skip
              refine step_alloc_run (some 16) rfl rfl rfl ?_
              refine k_alloc (fun yZ hZ hb => ?_)
              have hzZ : x2.heap.size ≤ yM.heap.size := hB0.size
              obtain ⟨gZ, HgZ⟩ : ∃ x, x = yM.heap.size := ⟨_, rfl⟩
              have hpz : g_p ≠ gZ ∧ g_c ≠ gZ := by have := lt_of_heap hS.1; have := lt_of_heap hS.2; omega
              replace hB0 := below_only hB0 hb
              replace hM := row_below hM hb
              rw [← HgZ] at hZ hzZ ⊢
              clear HgZ
              refine hK.out _ _ (⟨row_below hS.1 hb, row_below hS.2 hb⟩) (fun hS => ?_)
              clear hK K
              try simp only [Act.put]
              try simp only [List.setIfInBounds_toArray]
              try simp only [List.set_cons_succ]
              try simp only [List.set_cons_zero]
              refine wpAnyH_ready (rs := [2]) (by kernel_rfl) (by simp) ?_
              refine AllReadyH.cons rfl (fun K hK => ?_) AllReadyH.nil
              go_simp
              refine (chain15_any true _).mono ?_
              rintro e' yC ⟨cB, rfl, hE, hEn, hb⟩
              go_simp
              have hEl : ∀ z, 0 < (chE true).length → cB = some z → x2.heap.size ≤ z.block := fun z _ hz => Nat.le_trans hB0.size (hEn z hz)
              replace hB0 := below_only hB0 hb
              replace hM := row_below hM hb
              replace hZ := row_below hZ hb
              refine hK.out _ _ (⟨row_below hS.1 hb, row_below hS.2 hb⟩) (fun hS => ?_)
              clear hK K
              try simp only [Act.put]
              try simp only [List.setIfInBounds_toArray]
              try simp only [List.set_cons_succ]
              try simp only [List.set_cons_zero]
              refine wpAnyH_ready (rs := [4]) (by kernel_rfl) (by simp) ?_
              refine AllReadyH.cons rfl (fun K hK => ?_) AllReadyH.nil
              go_simp
              obtain ⟨m0, m1, m2, m3, _⟩ := box4 hM
              refine (rof_any ⟨2, 1, 64, 320⟩ cB (chE true).length (chE true) ⟨7, 1, 0, 0, a0, b0, c0⟩ 0 0 0 0 gM 0 4 _ (Nat.le_refl _) (by unfold chE; split <;> simp) hE (by decide) (by decide) HCal.out (by decide) (by decide) (by decide) (by decide) (by decide) m0 m1 m2 m3).mono ?_
              rintro e' yO ⟨kc, cA, rfl, hE2, hE2n, hb⟩
              rw [HOf.out]
              go_simp
              clear m0 m1 m2 m3
              have hE2l : ∀ z, 0 < (chE true).length → cA = some z → x2.heap.size ≤ z.block := fun z h0 hz => Nat.le_trans hB0.size (hE2n z h0 hz)
              have hEZ : ∀ z, 0 < (chE true).length → cA = some z → z.block ≠ gZ := fun z h0 hz => by have := hE2n z h0 hz; have := lt_of_heap hZ; omega
              replace hB0 := below_only hB0 hb
              replace hM := row_below hM hb
              replace hE := Ents.below hE hb
              replace hZ := row_below hZ hb
              refine hK.out _ _ (⟨row_below hS.1 hb, row_below hS.2 hb⟩) (fun hS => ?_)
              clear hK K
              try simp only [Act.put]
              try simp only [List.setIfInBounds_toArray]
              try simp only [List.set_cons_succ]
              try simp only [List.set_cons_zero]
              refine wpAnyH_ready (rs := [6]) (by kernel_rfl) (by simp) ?_
              refine AllReadyH.cons rfl (fun K hK => ?_) AllReadyH.nil
              refine step_store_row none rfl rfl 42 (.tmp 16) (.tmp 78) rfl gZ (tkCall (chK true : Int) a0 b0 c0 ⟨cA, (chE true).length, kc⟩).arr rfl rfl 42 ZRun hZ infoRun rfl (Rn.one _) ?_
              refine hK.out _ _ (⟨(setRow_other _ _ _ _ hpz.1).trans hS.1, (setRow_other _ _ _ _ hpz.2).trans hS.2⟩) (fun hS => ?_)
              clear hK K
              try simp only [Act.put]
              try simp only [List.setIfInBounds_toArray]
              try simp only [List.set_cons_succ]
              try simp only [List.set_cons_zero]
              refine wpAnyH_done (by kernel_rfl) ?_ _
              go_wp2_with fail
              go_meet
              exact ⟨gZ, cA, kc, rfl, hzZ, setRow_heap _ _ _ _ _ _ hZ, ents_setRow hE2 hEZ _, hE2l, hEZ, below_setRow hB0 hzZ _⟩
          · skip
            go_simp
            refine (chain15_any true _).mono ?_
            rintro e' yC ⟨cB, rfl, hE, hEn, hb⟩
            go_simp
            have hEl : ∀ z, 0 < (chE true).length → cB = some z → x2.heap.size ≤ z.block := fun z _ hz => Nat.le_trans hB0.size (hEn z hz)
            replace hB0 := below_only hB0 hb
            refine hK.out _ _ (⟨row_below hS.1 hb, row_below hS.2 hb⟩) (fun hS => ?_)
            clear hK K
            try simp only [Act.put]
            try simp only [List.setIfInBounds_toArray]
            try simp only [List.set_cons_succ]
            try simp only [List.set_cons_zero]
            refine wpAnyH_ready (rs := [1, 5]) (by kernel_rfl) (by simp) ?_
            refine AllReadyH.cons rfl (fun K hK => ?_) (AllReadyH.cons rfl (fun K hK => ?_) AllReadyH.nil)
            · skip
              go_simp
              refine k_alloc (fun yM hM hb => ?_)
              have hzM : x2.heap.size ≤ yC.heap.size := hB0.size
              obtain ⟨gM, HgM⟩ : ∃ x, x = yC.heap.size := ⟨_, rfl⟩
              replace hB0 := below_only hB0 hb
              replace hE := Ents.below hE hb
              rw [← HgM] at hM ⊢
              clear HgM
              refine hK.out _ _ (⟨row_below hS.1 hb, row_below hS.2 hb⟩) (fun hS => ?_)
              clear hK K
              try simp only [Act.put]
              try simp only [List.setIfInBounds_toArray]
              try simp only [List.set_cons_succ]
              try simp only [List.set_cons_zero]
              refine wpAnyH_ready (rs := [4, 5]) (by kernel_rfl) (by simp) ?_
              refine AllReadyH.cons rfl (fun K hK => ?_) (AllReadyH.cons rfl (fun K hK => ?_) AllReadyH.nil)
              · skip
                go_simp
                obtain ⟨m0, m1, m2, m3, _⟩ := box4 hM
                refine (rof_any ⟨2, 1, 64, 320⟩ cB (chE true).length (chE true) ⟨7, 1, 0, 0, a0, b0, c0⟩ 0 0 0 0 gM 0 4 _ (Nat.le_refl _) (by unfold chE; split <;> simp) hE (by decide) (by decide) HCal.out (by decide) (by decide) (by decide) (by decide) (by decide) m0 m1 m2 m3).mono ?_
                rintro e' yO ⟨kc, cA, rfl, hE2, hE2n, hb⟩
                rw [HOf.out]
                go_simp
                clear m0 m1 m2 m3
                have hE2l : ∀ z, 0 < (chE true).length → cA = some z → x2.heap.size ≤ z.block := fun z h0 hz => Nat.le_trans hB0.size (hE2n z h0 hz)
                replace hB0 := below_only hB0 hb
                replace hM := row_below hM hb
                replace hE := Ents.below hE hb
                refine hK.out _ _ (⟨row_below hS.1 hb, row_below hS.2 hb⟩) (fun hS => ?_)
                clear hK K
                try simp only [Act.put]
                try simp only [List.setIfInBounds_toArray]
                try simp only [List.set_cons_succ]
                try simp only [List.set_cons_zero]
                refine wpAnyH_ready (rs := [5]) (by kernel_rfl) (by simp) ?_
                refine AllReadyH.cons rfl (fun K hK => ?_) AllReadyH.nil
                refine step_alloc_run (some 16) rfl rfl rfl ?_
                refine k_alloc (fun yZ hZ hb => ?_)
                have hzZ : x2.heap.size ≤ yO.heap.size := hB0.size
                obtain ⟨gZ, HgZ⟩ : ∃ x, x = yO.heap.size := ⟨_, rfl⟩
                have hEZ : ∀ z, 0 < (chE true).length → cA = some z → z.block ≠ gZ := by rw [HgZ]; exact ents_far hE2 (Nat.le_refl _)
                have hpz : g_p ≠ gZ ∧ g_c ≠ gZ := by have := lt_of_heap hS.1; have := lt_of_heap hS.2; omega
                replace hB0 := below_only hB0 hb
                replace hM := row_below hM hb
                replace hE := Ents.below hE hb
                replace hE2 := Ents.below hE2 hb
                rw [← HgZ] at hZ hzZ ⊢
                clear HgZ
                refine hK.out _ _ (⟨row_below hS.1 hb, row_below hS.2 hb⟩) (fun hS => ?_)
                clear hK K
                try simp only [Act.put]
                try simp only [List.setIfInBounds_toArray]
                try simp only [List.set_cons_succ]
                try simp only [List.set_cons_zero]
                refine wpAnyH_ready (rs := [6]) (by kernel_rfl) (by simp) ?_
                refine AllReadyH.cons rfl (fun K hK => ?_) AllReadyH.nil
                refine step_store_row none rfl rfl 42 (.tmp 16) (.tmp 78) rfl gZ (tkCall (chK true : Int) a0 b0 c0 ⟨cA, (chE true).length, kc⟩).arr rfl rfl 42 ZRun hZ infoRun rfl (Rn.one _) ?_
                refine hK.out _ _ (⟨(setRow_other _ _ _ _ hpz.1).trans hS.1, (setRow_other _ _ _ _ hpz.2).trans hS.2⟩) (fun hS => ?_)
                clear hK K
                try simp only [Act.put]
                try simp only [List.setIfInBounds_toArray]
                try simp only [List.set_cons_succ]
                try simp only [List.set_cons_zero]
                refine wpAnyH_done (by kernel_rfl) ?_ _
                go_wp2_with fail
                go_meet
                exact ⟨gZ, cA, kc, rfl, hzZ, setRow_heap _ _ _ _ _ _ hZ, ents_setRow hE2 hEZ _, hE2l, hEZ, below_setRow hB0 hzZ _⟩
              · skip
                refine step_alloc_run (some 16) rfl rfl rfl ?_
                refine k_alloc (fun yZ hZ hb => ?_)
                have hzZ : x2.heap.size ≤ yM.heap.size := hB0.size
                obtain ⟨gZ, HgZ⟩ : ∃ x, x = yM.heap.size := ⟨_, rfl⟩
                have hpz : g_p ≠ gZ ∧ g_c ≠ gZ := by have := lt_of_heap hS.1; have := lt_of_heap hS.2; omega
                replace hB0 := below_only hB0 hb
                replace hM := row_below hM hb
                replace hE := Ents.below hE hb
                rw [← HgZ] at hZ hzZ ⊢
                clear HgZ
                refine hK.out _ _ (⟨row_below hS.1 hb, row_below hS.2 hb⟩) (fun hS => ?_)
                clear hK K
                try simp only [Act.put]
                try simp only [List.setIfInBounds_toArray]
                try simp only [List.set_cons_succ]
                try simp only [List.set_cons_zero]
                refine wpAnyH_ready (rs := [4]) (by kernel_rfl) (by simp) ?_
                refine AllReadyH.cons rfl (fun K hK => ?_) AllReadyH.nil
                go_simp
                obtain ⟨m0, m1, m2, m3, _⟩ := box4 hM
                refine (rof_any ⟨2, 1, 64, 320⟩ cB (chE true).length (chE true) ⟨7, 1, 0, 0, a0, b0, c0⟩ 0 0 0 0 gM 0 4 _ (Nat.le_refl _) (by unfold chE; split <;> simp) hE (by decide) (by decide) HCal.out (by decide) (by decide) (by decide) (by decide) (by decide) m0 m1 m2 m3).mono ?_
                rintro e' yO ⟨kc, cA, rfl, hE2, hE2n, hb⟩
                rw [HOf.out]
                go_simp
                clear m0 m1 m2 m3
                have hE2l : ∀ z, 0 < (chE true).length → cA = some z → x2.heap.size ≤ z.block := fun z h0 hz => Nat.le_trans hB0.size (hE2n z h0 hz)
                have hEZ : ∀ z, 0 < (chE true).length → cA = some z → z.block ≠ gZ := fun z h0 hz => by have := hE2n z h0 hz; have := lt_of_heap hZ; omega
                replace hB0 := below_only hB0 hb
                replace hM := row_below hM hb
                replace hE := Ents.below hE hb
                replace hZ := row_below hZ hb
                refine hK.out _ _ (⟨row_below hS.1 hb, row_below hS.2 hb⟩) (fun hS => ?_)
                clear hK K
                try simp only [Act.put]
                try simp only [List.setIfInBounds_toArray]
                try simp only [List.set_cons_succ]
                try simp only [List.set_cons_zero]
                refine wpAnyH_ready (rs := [6]) (by kernel_rfl) (by simp) ?_
                refine AllReadyH.cons rfl (fun K hK => ?_) AllReadyH.nil
                refine step_store_row none rfl rfl 42 (.tmp 16) (.tmp 78) rfl gZ (tkCall (chK true : Int) a0 b0 c0 ⟨cA, (chE true).length, kc⟩).arr rfl rfl 42 ZRun hZ infoRun rfl (Rn.one _) ?_
                refine hK.out _ _ (⟨(setRow_other _ _ _ _ hpz.1).trans hS.1, (setRow_other _ _ _ _ hpz.2).trans hS.2⟩) (fun hS => ?_)
                clear hK K
                try simp only [Act.put]
                try simp only [List.setIfInBounds_toArray]
                try simp only [List.set_cons_succ]
                try simp only [List.set_cons_zero]
                refine wpAnyH_done (by kernel_rfl) ?_ _
                go_wp2_with fail
                go_meet
                exact ⟨gZ, cA, kc, rfl, hzZ, setRow_heap _ _ _ _ _ _ hZ, ents_setRow hE2 hEZ _, hE2l, hEZ, below_setRow hB0 hzZ _⟩
            · skip
              refine step_alloc_run (some 16) rfl rfl rfl ?_
              refine k_alloc (fun yZ hZ hb => ?_)
              have hzZ : x2.heap.size ≤ yC.heap.size := hB0.size
              obtain ⟨gZ, HgZ⟩ : ∃ x, x = yC.heap.size := ⟨_, rfl⟩
              have hpz : g_p ≠ gZ ∧ g_c ≠ gZ := by have := lt_of_heap hS.1; have := lt_of_heap hS.2; omega
              replace hB0 := below_only hB0 hb
              replace hE := Ents.below hE hb
              rw [← HgZ] at hZ hzZ ⊢
              clear HgZ
              refine hK.out _ _ (⟨row_below hS.1 hb, row_below hS.2 hb⟩) (fun hS => ?_)
              clear hK K
              try simp only [Act.put]
              try simp only [List.setIfInBounds_toArray]
              try simp only [List.set_cons_succ]
              try simp only [List.set_cons_zero]
              refine wpAnyH_ready (rs := [1]) (by kernel_rfl) (by simp) ?_
              refine AllReadyH.cons rfl (fun K hK => ?_) AllReadyH.nil
              go_simp
              refine k_alloc (fun yM hM hb => ?_)
              have hzM : x2.heap.size ≤ yZ.heap.size := hB0.size
              obtain ⟨gM, HgM⟩ : ∃ x, x = yZ.heap.size := ⟨_, rfl⟩
              replace hB0 := below_only hB0 hb
              replace hE := Ents.below hE hb
              replace hZ := row_below hZ hb
              rw [← HgM] at hM ⊢
              clear HgM
              refine hK.out _ _ (⟨row_below hS.1 hb, row_below hS.2 hb⟩) (fun hS => ?_)
              clear hK K
              try simp only [Act.put]
              try simp only [List.setIfInBounds_toArray]
              try simp only [List.set_cons_succ]
              try simp only [List.set_cons_zero]
              refine wpAnyH_ready (rs := [4]) (by kernel_rfl) (by simp) ?_
              refine AllReadyH.cons rfl (fun K hK => ?_) AllReadyH.nil
              go_simp
              obtain ⟨m0, m1, m2, m3, _⟩ := box4 hM
              refine (rof_any ⟨2, 1, 64, 320⟩ cB (chE true).length (chE true) ⟨7, 1, 0, 0, a0, b0, c0⟩ 0 0 0 0 gM 0 4 _ (Nat.le_refl _) (by unfold chE; split <;> simp) hE (by decide) (by decide) HCal.out (by decide) (by decide) (by decide) (by decide) (by decide) m0 m1 m2 m3).mono ?_
              rintro e' yO ⟨kc, cA, rfl, hE2, hE2n, hb⟩
              rw [HOf.out]
              go_simp
              clear m0 m1 m2 m3
              have hE2l : ∀ z, 0 < (chE true).length → cA = some z → x2.heap.size ≤ z.block := fun z h0 hz => Nat.le_trans hB0.size (hE2n z h0 hz)
              have hEZ : ∀ z, 0 < (chE true).length → cA = some z → z.block ≠ gZ := fun z h0 hz => by have := hE2n z h0 hz; have := lt_of_heap hZ; omega
              replace hB0 := below_only hB0 hb
              replace hM := row_below hM hb
              replace hE := Ents.below hE hb
              replace hZ := row_below hZ hb
              refine hK.out _ _ (⟨row_below hS.1 hb, row_below hS.2 hb⟩) (fun hS => ?_)
              clear hK K
              try simp only [Act.put]
              try simp only [List.setIfInBounds_toArray]
              try simp only [List.set_cons_succ]
              try simp only [List.set_cons_zero]
              refine wpAnyH_ready (rs := [6]) (by kernel_rfl) (by simp) ?_
              refine AllReadyH.cons rfl (fun K hK => ?_) AllReadyH.nil
              refine step_store_row none rfl rfl 42 (.tmp 16) (.tmp 78) rfl gZ (tkCall (chK true : Int) a0 b0 c0 ⟨cA, (chE true).length, kc⟩).arr rfl rfl 42 ZRun hZ infoRun rfl (Rn.one _) ?_
              refine hK.out _ _ (⟨(setRow_other _ _ _ _ hpz.1).trans hS.1, (setRow_other _ _ _ _ hpz.2).trans hS.2⟩) (fun hS => ?_)
              clear hK K
              try simp only [Act.put]
              try simp only [List.setIfInBounds_toArray]
              try simp only [List.set_cons_succ]
              try simp only [List.set_cons_zero]
              refine wpAnyH_done (by kernel_rfl) ?_ _
              go_wp2_with fail
              go_meet
              exact ⟨gZ, cA, kc, rfl, hzZ, setRow_heap _ _ _ _ _ _ hZ, ents_setRow hE2 hEZ _, hE2l, hEZ, below_setRow hB0 hzZ _⟩
          · skip
            refine step_alloc_run (some 16) rfl rfl rfl ?_
            refine k_alloc (fun yZ hZ hb => ?_)
            have hzZ : x2.heap.size ≤ y0.heap.size := hB0.size
            obtain ⟨gZ, HgZ⟩ : ∃ x, x = y0.heap.size := ⟨_, rfl⟩
            have hpz : g_p ≠ gZ ∧ g_c ≠ gZ := by have := lt_of_heap hS.1; have := lt_of_heap hS.2; omega
            replace hB0 := below_only hB0 hb
            rw [← HgZ] at hZ hzZ ⊢
            clear HgZ
            refine hK.out _ _ (⟨row_below hS.1 hb, row_below hS.2 hb⟩) (fun hS => ?_)
            clear hK K
            try simp only [Act.put]
            try simp only [List.setIfInBounds_toArray]
            try simp only [List.set_cons_succ]
            try simp only [List.set_cons_zero]
            refine wpAnyH_ready (rs := [1, 2]) (by kernel_rfl) (by simp) ?_
            refine AllReadyH.cons rfl (fun K hK => ?_) (AllReadyH.cons rfl (fun K hK => ?_) AllReadyH.nil)
            · skip
              go_simp
              refine k_alloc (fun yM hM hb => ?_)
              have hzM : x2.heap.size ≤ yZ.heap.size := hB0.size
              obtain ⟨gM, HgM⟩ : ∃ x, x = yZ.heap.size := ⟨_, rfl⟩
              replace hB0 := below_only hB0 hb
              replace hZ := row_below hZ hb
              rw [← HgM] at hM ⊢
              clear HgM
              refine hK.out _ _ (⟨row_below hS.1 hb, row_below hS.2 hb⟩) (fun hS => ?_)
              clear hK K
              try simp only [Act.put]
              try simp only [List.setIfInBounds_toArray]
              try simp only [List.set_cons_succ]
              try simp only [List.set_cons_zero]
              refine wpAnyH_ready (rs := [2]) (by kernel_rfl) (by simp) ?_
              refine AllReadyH.cons rfl (fun K hK => ?_) AllReadyH.nil
              go_simp
              refine (chain15_any true _).mono ?_
              rintro e' yC ⟨cB, rfl, hE, hEn, hb⟩
              go_simp
              have hEl : ∀ z, 0 < (chE true).length → cB = some z → x2.heap.size ≤ z.block := fun z _ hz => Nat.le_trans hB0.size (hEn z hz)
              replace hB0 := below_only hB0 hb
              replace hM := row_below hM hb
              replace hZ := row_below hZ hb
              refine hK.out _ _ (⟨row_below hS.1 hb, row_below hS.2 hb⟩) (fun hS => ?_)
              clear hK K
              try simp only [Act.put]
              try simp only [List.setIfInBounds_toArray]
              try simp only [List.set_cons_succ]
              try simp only [List.set_cons_zero]
              refine wpAnyH_ready (rs := [4]) (by kernel_rfl) (by simp) ?_
              refine AllReadyH.cons rfl (fun K hK => ?_) AllReadyH.nil
              go_simp
              obtain ⟨m0, m1, m2, m3, _⟩ := box4 hM
              refine (rof_any ⟨2, 1, 64, 320⟩ cB (chE true).length (chE true) ⟨7, 1, 0, 0, a0, b0, c0⟩ 0 0 0 0 gM 0 4 _ (Nat.le_refl _) (by unfold chE; split <;> simp) hE (by decide) (by decide) HCal.out (by decide) (by decide) (by decide) (by decide) (by decide) m0 m1 m2 m3).mono ?_
              rintro e' yO ⟨kc, cA, rfl, hE2, hE2n, hb⟩
              rw [HOf.out]
              go_simp
              clear m0 m1 m2 m3
              have hE2l : ∀ z, 0 < (chE true).length → cA = some z → x2.heap.size ≤ z.block := fun z h0 hz => Nat.le_trans hB0.size (hE2n z h0 hz)
              have hEZ : ∀ z, 0 < (chE true).length → cA = some z → z.block ≠ gZ := fun z h0 hz => by have := hE2n z h0 hz; have := lt_of_heap hZ; omega
              replace hB0 := below_only hB0 hb
              replace hM := row_below hM hb
              replace hE := Ents.below hE hb
              replace hZ := row_below hZ hb
              refine hK.out _ _ (⟨row_below hS.1 hb, row_below hS.2 hb⟩) (fun hS => ?_)
              clear hK K
              try simp only [Act.put]
              try simp only [List.setIfInBounds_toArray]
              try simp only [List.set_cons_succ]
              try simp only [List.set_cons_zero]
              refine wpAnyH_ready (rs := [6]) (by kernel_rfl) (by simp) ?_
              refine AllReadyH.cons rfl (fun K hK => ?_) AllReadyH.nil
              refine step_store_row none rfl rfl 42 (.tmp 16) (.tmp 78) rfl gZ (tkCall (chK true : Int) a0 b0 c0 ⟨cA, (chE true).length, kc⟩).arr rfl rfl 42 ZRun hZ infoRun rfl (Rn.one _) ?_
              refine hK.out _ _ (⟨(setRow_other _ _ _ _ hpz.1).trans hS.1, (setRow_other _ _ _ _ hpz.2).trans hS.2⟩) (fun hS => ?_)
              clear hK K
              try simp only [Act.put]
              try simp only [List.setIfInBounds_toArray]
              try simp only [List.set_cons_succ]
              try simp only [List.set_cons_zero]
              refine wpAnyH_done (by kernel_rfl) ?_ _
              go_wp2_with fail
              go_meet
              exact ⟨gZ, cA, kc, rfl, hzZ, setRow_heap _ _ _ _ _ _ hZ, ents_setRow hE2 hEZ _, hE2l, hEZ, below_setRow hB0 hzZ _⟩
            · skip
              go_simp
              refine (chain15_any true _).mono ?_
              rintro e' yC ⟨cB, rfl, hE, hEn, hb⟩
              go_simp
              have hEl : ∀ z, 0 < (chE true).length → cB = some z → x2.heap.size ≤ z.block := fun z _ hz => Nat.le_trans hB0.size (hEn z hz)
              replace hB0 := below_only hB0 hb
              replace hZ := row_below hZ hb
              refine hK.out _ _ (⟨row_below hS.1 hb, row_below hS.2 hb⟩) (fun hS => ?_)
              clear hK K
              try simp only [Act.put]
              try simp only [List.setIfInBounds_toArray]
              try simp only [List.set_cons_succ]
              try simp only [List.set_cons_zero]
              refine wpAnyH_ready (rs := [1]) (by kernel_rfl) (by simp) ?_
              refine AllReadyH.cons rfl (fun K hK => ?_) AllReadyH.nil
              go_simp
              refine k_alloc (fun yM hM hb => ?_)
              have hzM : x2.heap.size ≤ yC.heap.size := hB0.size
              obtain ⟨gM, HgM⟩ : ∃ x, x = yC.heap.size := ⟨_, rfl⟩
              replace hB0 := below_only hB0 hb
              replace hE := Ents.below hE hb
              replace hZ := row_below hZ hb
              rw [← HgM] at hM ⊢
              clear HgM
              refine hK.out _ _ (⟨row_below hS.1 hb, row_below hS.2 hb⟩) (fun hS => ?_)
              clear hK K
              try simp only [Act.put]
              try simp only [List.setIfInBounds_toArray]
              try simp only [List.set_cons_succ]
              try simp only [List.set_cons_zero]
              refine wpAnyH_ready (rs := [4]) (by kernel_rfl) (by simp) ?_
              refine AllReadyH.cons rfl (fun K hK => ?_) AllReadyH.nil
              go_simp
              obtain ⟨m0, m1, m2, m3, _⟩ := box4 hM
              refine (rof_any ⟨2, 1, 64, 320⟩ cB (chE true).length (chE true) ⟨7, 1, 0, 0, a0, b0, c0⟩ 0 0 0 0 gM 0 4 _ (Nat.le_refl _) (by unfold chE; split <;> simp) hE (by decide) (by decide) HCal.out (by decide) (by decide) (by decide) (by decide) (by decide) m0 m1 m2 m3).mono ?_
              rintro e' yO ⟨kc, cA, rfl, hE2, hE2n, hb⟩
              rw [HOf.out]
              go_simp
              clear m0 m1 m2 m3
              have hE2l : ∀ z, 0 < (chE true).length → cA = some z → x2.heap.size ≤ z.block := fun z h0 hz => Nat.le_trans hB0.size (hE2n z h0 hz)
              have hEZ : ∀ z, 0 < (chE true).length → cA = some z → z.block ≠ gZ := fun z h0 hz => by have := hE2n z h0 hz; have := lt_of_heap hZ; omega
              replace hB0 := below_only hB0 hb
              replace hM := row_below hM hb
              replace hE := Ents.below hE hb
              replace hZ := row_below hZ hb
              refine hK.out _ _ (⟨row_below hS.1 hb, row_below hS.2 hb⟩) (fun hS => ?_)
              clear hK K
              try simp only [Act.put]
              try simp only [List.setIfInBounds_toArray]
              try simp only [List.set_cons_succ]
              try simp only [List.set_cons_zero]
              refine wpAnyH_ready (rs := [6]) (by kernel_rfl) (by simp) ?_
              refine AllReadyH.cons rfl (fun K hK => ?_) AllReadyH.nil
              refine step_store_row none rfl rfl 42 (.tmp 16) (.tmp 78) rfl gZ (tkCall (chK true : Int) a0 b0 c0 ⟨cA, (chE true).length, kc⟩).arr rfl rfl 42 ZRun hZ infoRun rfl (Rn.one _) ?_
              refine hK.out _ _ (⟨(setRow_other _ _ _ _ hpz.1).trans hS.1, (setRow_other _ _ _ _ hpz.2).trans hS.2⟩) (fun hS => ?_)
              clear hK K
              try simp only [Act.put]
              try simp only [List.setIfInBounds_toArray]
              try simp only [List.set_cons_succ]
              try simp only [List.set_cons_zero]
              refine wpAnyH_done (by kernel_rfl) ?_ _
              go_wp2_with fail
              go_meet
              exact ⟨gZ, cA, kc, rfl, hzZ, setRow_heap _ _ _ _ _ _ hZ, ents_setRow hE2 hEZ _, hE2l, hEZ, below_setRow hB0 hzZ _⟩
      case rest =>
        obtain ⟨g_r, cA, kc, rfl, hlr, hr, hE, hEl, hEr, hb⟩ := hcut
        obtain ⟨x3, hwx⟩ : ∃ x, x = wc := ⟨_, rfl⟩
        subst hwx
        have hlB := B.out.size
        have N_r : Hid (g_r ∉ [p, b, X, q, d]) := Lib.hid (HT.out.fresh hlr)
        have M_p_r : Hid (g_p ≠ g_r) := Lib.hid (by have := lt_of_heap H_p.out; omega)
        have M_r_p : Hid (g_r ≠ g_p) := Lib.hid (by have := lt_of_heap H_p.out; omega)
        have M_c_r : Hid (g_c ≠ g_r) := Lib.hid (by have := lt_of_heap H_c.out; omega)
        have M_r_c : Hid (g_r ≠ g_c) := Lib.hid (by have := lt_of_heap H_c.out; omega)
        have L_r : Hid (w.heap.size ≤ g_r) := Lib.hid (by omega)
        clear hlr hlB
        have hsz := (hb).size
        replace H_p := Lib.hid (row_below H_p.out hb)
        replace H_c := Lib.hid (row_below H_c.out hb)
        replace HT := Lib.hid (HT.out.below hb)
        replace B := Lib.hid (below_only B.out hb)
        clear hb hsz
        have H_r := Lib.hid (show x3.heap[g_r]? = some (.cells (tkCall (chK true : Int) a0 b0 c0 ⟨cA, (chE true).length, kc⟩).arr 42 (0, 0)) from hr)
        clear hr
        clear hE hEl hEr HOf HCal
        obtain ⟨r0, Hr0⟩ : ∃ x : Rn, Hid ((tkCall (chK true : Int) a0 b0 c0 ⟨cA, (chE true).length, kc⟩) = x) := ⟨_, Lib.hid rfl⟩
        rw [Hr0.out] at H_r
        obtain ⟨cc, Hcc⟩ : ∃ x, Hid (upC ep = x) := ⟨_, Lib.hid rfl⟩
        have HR0 : Hid (TkRun 1 cc 192 u ⟨cA, (chE true).length, kc⟩ r0 ∧ r0.pc = 5 ∧ r0.c = ⟨7, 1, 0, 0, a0, b0, c0⟩) := Lib.hid (by rw [← Hr0.out]; exact ⟨tkRun_call Hab.out.1 Hab.out.2.1 Hab.out.2.2.1, rfl, rfl⟩)
        obtain ⟨ch, Hch⟩ : ∃ x, Hid ((⟨cA, (chE true).length, kc⟩ : Sl) = x) := ⟨_, Lib.hid rfl⟩
        rw [Hch.out] at HR0
        clear Hr0 Hch
        have HBl : Hid (BlkOk 2 ws 1 cc 192 u sm) := Lib.hid (by rw [← Hcc.out]; exact HS.out.blk)
        obtain ⟨W4, HW4⟩ : ∃ x, Hid (stepsW ws 1 cc 192 u sm r0 4 = x) := ⟨_, Lib.hid rfl⟩
        obtain ⟨re, Hre⟩ : ∃ x, Hid (stepsR cc 192 u sm r0 4 = x) := ⟨_, Lib.hid rfl⟩
        have HEp : Hid (cc.ep = ep) := Lib.hid (by have h9 := Hcc.out; subst h9; first | rfl | done)
        have Hst := Lib.hid (fit_end (W4 := W4) HS.out (by have h9 := HR0.out.1; rw [← Hcc.out] at h9; exact h9) HR0.out.2.1 (by rw [Hcc.out]; exact HW4.out) rfl)
        rw [HR0.out.2.2] at Hst
        have He : Hid (re.done = true ∧ re.point = true ∧ re.code = (if sm + 8 * wordsN a0 b0 ≤ u then 0 else 17) ∧ re.an = (if sm + 8 * wordsN a0 b0 ≤ u then hdl 1 ep ((192 + sm) / 8) else 0)) := Lib.hid (by
          have h := steps_end (c := cc) (ba := 192) (bu := u) (tp := sm) r0
          rw [Hre.out] at h
          have h1 := h.code
          have h2 := h.an
          rw [HR0.out.2.2] at h1 h2
          rw [HR0.out.1.area, HEp.out] at h2
          exact ⟨h.done, h.point, h1, h2⟩)
        simp only at Hst
        have hbq : ∃ nn, nn = wordsN a0 b0 := ⟨_, rfl⟩
        obtain ⟨nn, hnn⟩ := hbq
        rw [← hnn] at He Hst
        have HNn : Hid (nn = wordsN a0 b0) := Lib.hid hnn
        clear hnn Hcc HEp
        go_upto_region 14 with fail
        go_wp2_with fail
        have hz : stepsR cc 192 u sm r0 0 = r0 ∧ stepsW ws 1 cc 192 u sm r0 0 = ws := ⟨rfl, rfl⟩
        rw [← hz.1] at H_r
        have HT1 : Hid (TwoW w.heap.size x3 p b X q d 2 1 64 320 (stepsW ws 1 cc 192 u sm r0 0) WS) := Lib.hid (by rw [hz.2]; exact HT.out)
        clear hz HT
        have HT := HT1
        clear HT1
        go_loopw [17] (fun tt wr => ∃ j : Nat, j ≤ 4 ∧ tt = .int .i64 j ∧ wr.heap[g_p]? = some (.cells #[.int .i64 2, .int .i64 1, .int .i64 64, .int .i64 320] 29 (0, 0)) ∧ wr.heap[g_c]? = some (.cells #[.int .u8 7, .int .u8 1, .int .u8 0, .int .u8 0, .int .i64 a0, .int .i64 b0, .int .i64 c0] 35 (0, 0)) ∧ wr.heap[g_r]? = some (.cells (stepsR cc 192 u sm r0 j).arr 42 (0, 0)) ∧ TwoW w.heap.size wr p b X q d 2 1 64 320 (stepsW ws 1 cc 192 u sm r0 j) WS ∧ Below w.heap.size w wr) (fun t _ => (4 - intOf t).toNat)
        case atStart => exact ⟨0, by omega, rfl, H_p.out, H_c.out, H_r.out, HT.out, B.out⟩
        case round =>
          clear H_p H_c H_r HT B
          obtain ⟨j, hj, rfl, hrel⟩ := hrel
          obtain ⟨hq_H_p, hq_H_c, hq_H_r, hq_HT, hq_B⟩ := hrel
          have H_p := Lib.hid hq_H_p
          have H_c := Lib.hid hq_H_c
          have H_r := Lib.hid hq_H_r
          have HT := Lib.hid hq_HT
          have B := Lib.hid hq_B
          clear hq_H_p hq_H_c hq_H_r hq_HT hq_B
          by_cases hj4 : j < 4
          · skip
            have hjI : (j : Int) < 4 := by omega
            have HDn := Lib.hid (steps_next (ws := ws) (tp := sm) HR0.out.1 HR0.out.2.1 hj4).2.2.2.done
            have r_21 : wr.cell? ⟨g_r, 21, none⟩ = some (.bool false) := by rw [row_cell H_r.out]; rw [← HDn.out]; rfl
            have z_r := lt_of_heap H_r.out
            obtain ⟨p_0, p_1, p_2, p_3, p_f0, p_f1, p_f2, p_f3⟩ := box4 H_p.out
            have z_p := lt_of_heap H_p.out
            obtain ⟨R, HRq⟩ : ∃ R, Hid (R = (stepsR cc 192 u sm r0 j)) := ⟨_, Lib.hid rfl⟩
            rw [← HRq.out] at H_r
            go_wp2_with (first | (refine wpList_load_row rfl 42 (.tmp 16) rfl g_r rfl 42 R.arr (0, 0) _ H_r.out undRun rfl infoRun ?_; (try simp only [Act.put]); (try simp only [List.setIfInBounds_toArray]); (try simp only [List.set_cons_succ]); (try simp only [List.set_cons_zero])))
            clear r_21 z_r p_0 p_1 p_2 p_3 p_f0 p_f1 p_f2 p_f3 z_p
            rw [HRq.out]
            refine (steps15_any p b 1 2 1 64 320 ws cc 192 u sm ch r0 j _ HPl.out HBl.out HR0.out.1 HR0.out.2.1 hj4 HT.out.a).mono ?_
            rintro r y5 ⟨rfl, hA, hK⟩
            obtain ⟨R2, HR2⟩ : ∃ R, Hid (R = (stepsR cc 192 u sm r0 (j + 1))) := ⟨_, Lib.hid rfl⟩
            rw [← HR2.out, ← HRq.out]
            have hszK := hK.size
            replace H_p := Lib.hid (hK.row H_p.out (by simpa using (HT.out.nb N_p.out).1))
            replace H_c := Lib.hid (hK.row H_c.out (by simpa using (HT.out.nb N_c.out).1))
            replace H_r := Lib.hid (hK.row H_r.out (by simpa using (HT.out.nb N_r.out).1))
            replace B := Lib.hid (HT.out.under B.out hK (by simp))
            replace HT := Lib.hid (HT.out.onA hA hK)
            clear hA hK hszK
            go_upto_region 16 with (first | (refine wpList_store_row rfl 42 (.tmp 16) (.tmp 90) rfl g_r R2.arr rfl rfl 42 R.arr H_r.out infoRun rfl (Rn.one _) ?_; (try simp only [Act.put]); (try simp only [List.setIfInBounds_toArray]); (try simp only [List.set_cons_succ]); (try simp only [List.set_cons_zero])))
            refine set_row' y5 g_r _ _ _ H_r.out ?_
            intro y6 hr hK
            have hszK := hK.size
            replace H_p := Lib.hid (hK.row H_p.out (by simpa using M_p_r.out))
            replace H_c := Lib.hid (hK.row H_c.out (by simpa using M_c_r.out))
            replace HT := Lib.hid (HT.out.kept hK (fun j hj => by simp only [List.mem_singleton] at hj; subst hj; exact N_r.out))
            replace B := Lib.hid (Keep.under B.out hK (by have := B.out.size; omega) (by simp; exact L_r.out))
            replace H_r := Lib.hid hr
            clear hr hK hszK
            rw [HR2.out] at H_r
            go_wp2_with fail
            go_roundw
            case rel => exact ⟨j + 1, by omega, by go_num, H_p.out, H_c.out, H_r.out, HT.out, B.out⟩
            case measure => simp [intOf]; omega
          · skip
            obtain rfl : j = 4 := by omega
            clear hj4 hj
            rw [HW4.out] at HT
            rw [Hre.out] at H_r
            obtain ⟨ab0, ab1, ab2, ab3⟩ := Hab.out
            obtain ⟨ab4, ab5⟩ := ab0
            obtain ⟨ab6, ab7⟩ := ab1
            obtain ⟨ab8, ab9⟩ := ab2
            have sm0 := HS.out.blk.tp0
            have sm1 := HS.out.blk.tpb
            have q1 : IntKind.i64.wrap (2 + a0) = 2 + a0 := IntWalk.i64_in _ (by omega)
            have q2 : IntKind.i64.wrap (b0 + 7) = b0 + 7 := IntWalk.i64_in _ (by omega)
            have q3 : (b0 + 7).tdiv 8 = (b0 + 7) / 8 := Int.tdiv_eq_ediv_of_nonneg (by omega)
            have hnw2 : 2 + a0 + (b0 + 7) / 8 = nn := HNn.out.symm
            have nn0 : 2 ≤ nn := by omega
            have nn1 : nn ≤ 72 := by omega
            have q5 : IntKind.i64.wrap (8 * nn) = 8 * nn := IntWalk.i64_in _ (by omega)
            have q6' : IntKind.i64.wrap (sm + 8 * nn) = sm + 8 * nn := IntWalk.i64_in _ (by omega)
            have q7 : IntKind.i64.wrap nn = nn := IntWalk.i64_in _ (by omega)
            obtain ⟨cd, Hcd⟩ : ∃ x, Hid (re.code = x) := ⟨_, Lib.hid rfl⟩
            obtain ⟨hd, Hhd⟩ : ∃ x, Hid (re.an = x) := ⟨_, Lib.hid rfl⟩
            have r_21 : wr.cell? ⟨g_r, 21, none⟩ = some (.bool true) := by rw [row_cell H_r.out]; rw [← He.out.1]; rfl
            have r_22 : wr.cell? ⟨g_r, 22, none⟩ = some (.bool true) := by rw [row_cell H_r.out]; rw [← He.out.2.1]; rfl
            have r_23 : wr.cell? ⟨g_r, 23, none⟩ = some (.int .i64 cd) := by rw [row_cell H_r.out]; rw [← Hcd.out]; rfl
            have r_24 : wr.cell? ⟨g_r, 24, none⟩ = some (.int .i64 hd) := by rw [row_cell H_r.out]; rw [← Hhd.out]; rfl
            have z_r := lt_of_heap H_r.out
            obtain ⟨c_0, c_1, c_2, c_3, c_4, c_5, c_6⟩ := box7 H_c.out
            have z_c := lt_of_heap H_c.out
            go_upto_region 21 with fail
            try simp only [hnw2]
            clear hnw2 q1 q2 q3 q7
            rcases Hst.out with ⟨h1, h2⟩ | ⟨h1, h2⟩
            · skip
              have t1 : decide (sm + 8 * nn ≤ u) = false := decide_eq_false (by omega)
              have hcd : cd = 17 := by rw [← Hcd.out, He.out.2.2.1, if_neg (by omega)]
              subst hcd
              clear h1
              go_wp2_with fail
              rw [h2] at HT
              go_roundw
              case rel => exact ⟨i + 1, ws, sm, by have := Hlt.out; omega, by omega, rfl, by go_num, HS.out, HT.out, H_p.out, B.out⟩
              case measure => simp [intOf]; omega
            · skip
              have t1 : decide (sm + 8 * nn ≤ u) = true := decide_eq_true h1
              have hcd : cd = 0 := by rw [← Hcd.out, He.out.2.2.1, if_pos h1]
              subst hcd
              obtain ⟨hF, K, hK, hK8, hKn, hk0, hk1, hkz⟩ := h2
              have HF4 := Lib.hid hF
              have HKz := Lib.hid hkz
              have HKb : Hid (192 + sm = ((K * 8 : Nat) : Int) ∧ 8 ≤ K ∧ (K : Int) + nn ≤ 64) := Lib.hid ⟨hK, hK8, hKn⟩
              have HK0 := Lib.hid hk0
              have HK1 := Lib.hid hk1
              have Hhd2 : Hid (hd = hdl 1 ep (K : Int)) := Lib.hid (by rw [← Hhd.out, He.out.2.2.2, if_pos h1, show (192 + sm) / 8 = (K : Int) by omega])
              have HRp : ∀ w', Hid (Calls Try.prog 17 #[.agg #[.int .i64 1, .int .i64 ep, .int .i64 (192 + sm)]] w' fun e w'' => e = .returned (.tuple #[.int .u64 hd, .int .i64 0]) ∧ Below w'.heap.size w' w'') := fun w' => Lib.hid (by
                have h9 := rrefpack_any 1 ep (K : Int) (192 + sm) w' (by decide) (by decide) ep0 (by omega) (by omega) (by omega) (by omega)
                rw [show refB 1 ep (K : Int) = true by unfold refB; simp only [Bool.and_eq_true]; exact ⟨⟨inB_t (by omega), inB_t (by omega)⟩, inB_t (by omega)⟩] at h9
                rw [Hhd2.out]
                exact h9)
              obtain ⟨one, H1⟩ : ∃ x, Hid (head1 nn a0 c0 = x) := ⟨_, Lib.hid rfl⟩
              obtain ⟨two, H2⟩ : ∃ x, Hid (head2 1 ep = x) := ⟨_, Lib.hid rfl⟩
              have H1b : Hid (0 ≤ one ∧ one < 18446744073709551616) := Lib.hid (by rw [← H1.out]; unfold head1; omega)
              have H2b : Hid (0 ≤ two ∧ two < 18446744073709551616) := Lib.hid (by rw [← H2.out]; unfold head2; omega)
              have hdb : 0 ≤ hd ∧ hd ≤ 9223372036854775807 := by rw [Hhd2.out]; unfold hdl; omega
              obtain ⟨hd0, hd1⟩ := hdb
              have hdw : IntKind.i64.wrap hd = hd := IntWalk.i64_in _ (by omega)
              rw [H1.out] at HK0
              rw [H2.out] at HK1
              have HHd : Hid (HeadOk nn a0 c0 1 ep) := Lib.hid ⟨⟨ab4, ab5⟩, ⟨by have := HNn.out; unfold wordsN at this; omega, nn1⟩, ⟨ab8, ab9⟩, by decide, ⟨ep0, by omega⟩⟩
              have HWd1 := fun w' (h : Arn w' p b W4) => Lib.hid (arnWord_any p b W4 K one w' h HK0.out)
              have HWd2 := fun w' (h : Arn w' p b W4) => Lib.hid (arnWord_any p b W4 (K + 1) two w' h HK1.out)
              simp only [show (((K + 1) * 8 : Nat) : Int) = 192 + sm + 8 by omega] at HWd2
              simp only [show ((K * 8 : Nat) : Int) = 192 + sm by omega] at HWd1
              have v1 : IntKind.i64.wrap (192 + sm) = 192 + sm := IntWalk.i64_in _ (by omega)
              have v2 : IntKind.i64.wrap (192 + sm + 8) = 192 + sm + 8 := IntWalk.i64_in _ (by omega)
              have H1h := Lib.hid h1
              clear h1 hF hK hK8 hKn hk0 hk1 hkz
              go_wp2_with fail
              clear r_21 r_22 r_23 r_24 z_r c_0 c_1 c_2 c_3 c_4 c_5 c_6 z_c
              refine (HRp _).out.mono ?_
              rintro r z1 ⟨rfl, hb⟩
              have hsz := (hb).size
              replace H_p := Lib.hid (row_below H_p.out hb)
              replace H_c := Lib.hid (row_below H_c.out hb)
              replace H_r := Lib.hid (row_below H_r.out hb)
              replace HT := Lib.hid (HT.out.below hb)
              replace B := Lib.hid (below_only B.out hb)
              clear hb hsz
              go_wp2_with fail
              refine (HWd1 _ HT.out.a).out.mono ?_
              rintro r za ⟨rfl, e2⟩
              rw [e2]
              clear e2 za
              go_wp2_with fail
              refine (HWd2 _ HT.out.a).out.mono ?_
              rintro r za ⟨rfl, e2⟩
              rw [e2]
              clear e2 za
              obtain ⟨p_0, p_1, p_2, p_3, p_f0, p_f1, p_f2, p_f3⟩ := box4 H_p.out
              have z_p := lt_of_heap H_p.out
              go_wp2_with fail
              clear p_0 p_1 p_2 p_3 p_f0 p_f1 p_f2 p_f3 z_p
              have hl_p := lt_of_heap H_p.out
              have hl_c := lt_of_heap H_c.out
              have hl_r := lt_of_heap H_r.out
              have hf0 := fun g h => HT.out.fresh (g := g) h
              refine (rallNewG_any 2 1 64 320 _ HPl.out).mono ?_
              rintro r z2 ⟨X2, q2, d2, gp, gq, rfl, hA2, _, _, _, ⟨_, _, hl2⟩, hb⟩
              have N_d2 : Hid (d2 ∉ [p, b, X, q, d]) := Lib.hid (hf0 _ hl2)
              have HA2 := Lib.hid hA2
              have HLd : Hid (w.heap.size ≤ d2) := Lib.hid (by have := B.out.size; omega)
              clear hf0 hA2
              have D_p : Hid (g_p ≠ d2) := Lib.hid (by omega)
              clear hl_p
              have D_c : Hid (g_c ≠ d2) := Lib.hid (by omega)
              clear hl_c
              have D_r : Hid (g_r ≠ d2) := Lib.hid (by omega)
              clear hl_r
              clear hl2
              have hsz := (hb).size
              replace H_p := Lib.hid (row_below H_p.out hb)
              replace H_c := Lib.hid (row_below H_c.out hb)
              replace H_r := Lib.hid (row_below H_r.out hb)
              replace HT := Lib.hid (HT.out.below hb)
              replace B := Lib.hid (below_only B.out hb)
              clear hb hsz
              obtain ⟨y0, Hy0⟩ : ∃ x, Hid (newWs 2 64 320 = x) := ⟨_, Lib.hid rfl⟩
              have Hyl : Hid (y0.length = 64) := Lib.hid (by rw [← Hy0.out, newWs_len]; rfl)
              rw [Hy0.out] at HA2
              clear Hy0
              have X_5 := HA2.out.cell
              have zX := lt_of_heap (HA2.out.box.choose_spec)
              go_wp2_with fail
              clear X_5 zX
              obtain ⟨e, he⟩ : ∃ x, y0[K]? = some x := ⟨_, List.getElem?_eq_getElem (by have h1 := Hyl.out; have h2 := HKb.out; (try simp only [List.length_set]); omega)⟩
              refine (rarnPut_any q2 d2 y0 (K) e one (192 + sm) _ HA2.out.arn he (by have := HKb.out; omega) H1b.out).mono ?_
              rintro r z3 ⟨rfl, hA, hK⟩
              have hszK := hK.size
              clear he
              replace H_p := Lib.hid (hK.row H_p.out (by simpa using D_p.out))
              replace H_c := Lib.hid (hK.row H_c.out (by simpa using D_c.out))
              replace H_r := Lib.hid (hK.row H_r.out (by simpa using D_r.out))
              replace HT := Lib.hid (HT.out.kept hK (fun j hj => by simp only [List.mem_singleton] at hj; subst hj; exact N_d2.out))
              replace B := Lib.hid (Keep.under B.out hK (by have := B.out.size; omega) (by simp; exact HLd.out))
              replace HA2 := Lib.hid (HA2.out.put hK hA)
              clear hK hA hszK
              have X_5 := HA2.out.cell
              have zX := lt_of_heap (HA2.out.box.choose_spec)
              go_wp2_with fail
              clear X_5 zX
              obtain ⟨e, he⟩ : ∃ x, (y0.set K one)[K + 1]? = some x := ⟨_, List.getElem?_eq_getElem (by have h1 := Hyl.out; have h2 := HKb.out; (try simp only [List.length_set]); omega)⟩
              refine (rarnPut_any q2 d2 (y0.set K one) (K + 1) e two (192 + sm + 8) _ HA2.out.arn he (by have := HKb.out; omega) H2b.out).mono ?_
              rintro r z4 ⟨rfl, hA, hK⟩
              have hszK := hK.size
              clear he
              replace H_p := Lib.hid (hK.row H_p.out (by simpa using D_p.out))
              replace H_c := Lib.hid (hK.row H_c.out (by simpa using D_c.out))
              replace H_r := Lib.hid (hK.row H_r.out (by simpa using D_r.out))
              replace HT := Lib.hid (HT.out.kept hK (fun j hj => by simp only [List.mem_singleton] at hj; subst hj; exact N_d2.out))
              replace B := Lib.hid (Keep.under B.out hK (by have := B.out.size; omega) (by simp; exact HLd.out))
              replace HA2 := Lib.hid (HA2.out.put hK hA)
              clear hK hA hszK
              have HAt := Lib.hid (rthingAt_any q2 d2 ((y0.set K one).set (K + 1) two) K (192 + sm) nn a0 c0 1 ep z4 HA2.out.arn HHd.out (by rw [H1.out, List.getElem?_set, if_neg (by omega), List.getElem?_set, if_pos rfl, if_pos (by have h1 := Hyl.out; have h2 := HKb.out; omega)]) (by rw [H2.out, List.getElem?_set, if_pos rfl, if_pos (by have h1 := Hyl.out; have h2 := HKb.out; simp only [List.length_set]; omega)]) (by have := HKb.out; omega))
              have X_5 := HA2.out.cell
              have zX := lt_of_heap (HA2.out.box.choose_spec)
              go_wp2_with fail
              refine HAt.out.mono ?_
              rintro r z5 ⟨rfl, hb⟩
              clear HAt HA2 X_5 zX
              have hsz := (hb).size
              replace H_p := Lib.hid (row_below H_p.out hb)
              replace H_c := Lib.hid (row_below H_c.out hb)
              replace H_r := Lib.hid (row_below H_r.out hb)
              replace HT := Lib.hid (HT.out.below hb)
              replace B := Lib.hid (below_only B.out hb)
              clear hb hsz
              go_upto_region 32 with (refine wpList_store_row rfl 73 (.tmp 27) (.tmp 191) rfl z5.heap.size (hdCells nn a0 c0 false 1 ep) rfl rfl 73 (hdCells 0 0 0 false 0 0) (row_new _ _ _) infoHd rfl (hd_one _ _ _ _ _ _) ?_; (try simp only [Act.put]); (try simp only [List.setIfInBounds_toArray]); (try simp only [List.set_cons_succ]); (try simp only [List.set_cons_zero]))
              refine alloc_set' z5 _ _ _ ?_
              intro z6 hr hb
              have hlB := B.out.size
              have hfr := HT.out.fresh (Nat.le_refl z5.heap.size)
              have hsz := (hb).size
              replace H_p := Lib.hid (row_below H_p.out hb)
              replace H_c := Lib.hid (row_below H_c.out hb)
              replace H_r := Lib.hid (row_below H_r.out hb)
              replace HT := Lib.hid (HT.out.below hb)
              replace B := Lib.hid (below_only B.out hb)
              clear hb hsz
              have H_h := Lib.hid (show z6.heap[z5.heap.size]? = some (.cells (hdCells nn a0 c0 false 1 ep) 73 (0, 0)) from hr)
              clear hr
              obtain ⟨g_h, hg_h⟩ : ∃ x, x = z5.heap.size := ⟨_, rfl⟩
              rw [← hg_h] at H_h ⊢
              have N_h : Hid (g_h ∉ [p, b, X, q, d]) := Lib.hid (by rw [hg_h]; exact hfr)
              clear hfr
              have L_h : Hid (w.heap.size ≤ g_h) := Lib.hid (by omega)
              clear hg_h hlB
              have r_24 : z6.cell? ⟨g_r, 24, none⟩ = some (.int .i64 hd) := by rw [row_cell H_r.out]; rw [← Hhd.out]; rfl
              have z_r := lt_of_heap H_r.out
              obtain ⟨c_0, c_1, c_2, c_3, c_4, c_5, c_6⟩ := box7 H_c.out
              have z_c := lt_of_heap H_c.out
              obtain ⟨h_0, h_1, h_2, h_3, h_4, h_5⟩ := box6 H_h.out
              have z_h := lt_of_heap H_h.out
              go_upto_region 34 with fail
              clear r_24 z_r c_0 c_1 c_2 c_3 c_4 c_5 c_6 z_c h_0 h_1 h_2 h_3 h_4 h_5 z_h
              go_wp2_with fail
              go_loopw [29] (fun tt wz => ∃ j : Nat, 2 ≤ j ∧ (j : Int) ≤ nn ∧ tt = .int .i64 j ∧ z6 = wz) (fun t _ => (nn - intOf t).toNat)
              case atStart => exact ⟨2, by omega, by omega, rfl, rfl⟩
              case round =>
                obtain ⟨j, hj2, hjn, rfl, hwz⟩ := hrel
                subst hwz
                by_cases hjm : (j : Int) < nn
                · skip
                  have HWj : Hid (Calls Try.prog 15 #[.pointer (some ⟨p, 0, none⟩), .int .i64 (192 + sm + 8 * (j : Int))] z6 fun r w' => r = .returned (.tuple #[.int .u64 0, .int .i64 0]) ∧ w' = z6) := Lib.hid (by
                    have h9 := arnWord_any p b W4 (K + j) 0 z6 HT.out.a (HKz.out j hj2 hjm)
                    rwa [show (((K + j) * 8 : Nat) : Int) = 192 + sm + 8 * (j : Int) by have := HKb.out; omega] at h9)
                  have j1 : IntKind.i64.wrap (8 * (j : Int)) = 8 * (j : Int) := IntWalk.i64_in _ (by omega)
                  have j2 : IntKind.i64.wrap (192 + sm + 8 * (j : Int)) = 192 + sm + 8 * (j : Int) := IntWalk.i64_in _ (by omega)
                  go_wp2_with fail
                  refine HWj.out.mono ?_
                  rintro r za ⟨rfl, e2⟩
                  rw [e2]
                  clear e2 za
                  go_wp2_with fail
                  go_roundw
                  case rel => exact ⟨j + 1, by omega, by omega, by go_num, by first | rfl | trivial⟩
                  case measure => simp [intOf]; omega
                · skip
                  go_wp2_with fail
                  go_roundw
                  case rel => exact ⟨i + 1, W4, (sm + 8 * nn), by have := Hlt.out; omega, by omega, rfl, by go_num, HF4.out, HT.out, H_p.out, B.out⟩
                  case measure => simp [intOf]; omega
    · by_cases hl : i < L.length
      · have h100 : ¬ i < 20 := fun h => hlt ⟨hl, h⟩
        have B2 := B.out
        clear B hlt
        go_wp2_with fail
        go_ret
        exact ⟨rfl, B2⟩
      · have B2 := B.out
        clear B hlt
        go_wp2_with fail
        go_ret
        exact ⟨rfl, B2⟩

end Go.Proofs.Ytoadddfiibeenaa
