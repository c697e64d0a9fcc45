/- Layer 15: the walk of TakeTouches. (Printed.) -/
import Derived.Test.YtoadddfiibeenaaT15O
namespace Go.Proofs.Ytoadddfiibeenaa
open Go.RowKit
set_option linter.unusedVariables false
set_option linter.unusedSimpArgs false

set_option maxRecDepth 100000 in
set_option maxHeartbeats 16000000 in
theorem takeTouches_walk (size ep : Int) (A : Option Addr) (cp : Nat) (L : List Tkk) (w : World) (z0 : (Lit.int .u8 size).wf = true) (z1 : (Lit.int .u16 ep).wf = true) (hLk : L.length ≤ cp) (hkm : cp ≤ maxLen) (hL : Cells w A (L.flatMap tkCells)) (hq : ∀ t ∈ L, TkOk t) :
    Calls Try.prog 6 #[.int .u8 size, .int .u16 ep, .slice A L.length cp] w fun r w' => r = .returned (.bool true) ∧ Below w.heap.size w w' := by
  have hlm : L.length ≤ 9223372036854775807 := by unfold maxLen at hkm; omega
  have HL0 := Lib.hid hL
  have Hq := Lib.hid hq
  clear hL hq hkm
  have hsz0 := wf_u8 z0
  have hep0 := wf_u16 z1
  obtain ⟨se0, se1⟩ := hsz0
  obtain ⟨ep0, ep1⟩ := hep0
  have HBo : Hid (BothOk 1 200 (8 + size) ep) := Lib.hid ⟨by decide, by decide, by decide, by omega, by omega⟩
  have HS0 := Lib.hid (st2_both HBo.out)
  have HPl := Lib.hid HBo.out.plan
  clear z0 z1
  go_enter Try.func6, Try.ntmps6
  have B := Lib.hid (Below.refl w.heap.size w)
  go_wp2_with fail
  refine (shown15_any _).mono ?_
  rintro r w1 ⟨rfl, hb⟩
  have hsz := (hb).size
  replace B := Lib.hid (below_only B.out hb)
  clear hb hsz
  go_upto_region 3 with fail
  refine one_row w1 _ _ ?_
  intro w2 hr hb
  have hlB := B.out.size
  have hsz := (hb).size
  replace B := Lib.hid (below_only B.out hb)
  clear hb hsz
  have H_p := Lib.hid (show w2.heap[w1.heap.size]? = some (.cells #[.int .i64 2, .int .i64 1, .int .i64 200, .int .i64 320] 29 (0, 0)) from hr)
  clear hr
  obtain ⟨g_p, hg_p⟩ : ∃ x, x = w1.heap.size := ⟨_, rfl⟩
  rw [← hg_p] at H_p ⊢
  have L_p : Hid (w.heap.size ≤ g_p) := Lib.hid (by omega)
  clear hg_p hlB
  obtain ⟨p_0, p_1, p_2, p_3, p_f0, p_f1, p_f2, p_f3⟩ := box4 H_p.out
  have z_p := lt_of_heap H_p.out
  go_wp2_with fail
  clear p_0 p_1 p_2 p_3 p_f0 p_f1 p_f2 p_f3 z_p
  refine (both_any 1 200 (8 + size) ep _ HBo.out).mono ?_
  rintro r w3 ⟨p, b, X, q, d, rfl, hT, hb⟩
  have HT0 := Lib.hid hT
  have hlp := lt_of_heap H_p.out
  have HBB := Lib.hid B.out.size
  clear hT
  obtain ⟨wl, hwl⟩ : ∃ x, x = w2.heap.size := ⟨_, rfl⟩
  rw [← hwl] at hlp HT0 HBB
  have hsz := (hb).size
  replace H_p := Lib.hid (row_below H_p.out hb)
  replace B := Lib.hid (below_only B.out hb)
  clear hb hsz
  have N_p : Hid (g_p ∉ [p, b, X, q, d]) := Lib.hid (HT0.out.elder hlp)
  have HT : Hid (TwoW w.heap.size w3 p b X q d 2 1 200 320 (bothWs 200 (8 + size) ep) (bothWs 200 (8 + size) ep)) := Lib.hid { HT0.out with low := by have := HT0.out.low; have := HBB.out; omega }
  clear HT0 hlp hwl HBB
  obtain ⟨WS, HWS⟩ : ∃ x, Hid (bothWs 200 (8 + size) ep = x) := ⟨_, Lib.hid rfl⟩
  rw [HWS.out] at HT HS0
  obtain ⟨u, Hu⟩ : ∃ x, Hid (up8 (8 + size) = x) := ⟨_, Lib.hid rfl⟩
  have Hub : Hid (8 ≤ u ∧ u ≤ 320 ∧ u % 8 = 0) := Lib.hid (by rw [← Hu.out]; exact both_up HBo.out)
  rw [Hu.out] at HS0
  go_wp2_with fail
  go_loopw [11] (fun tt wr => ∃ (i : Nat) (ws : List Int) (t : Bool → Int), i ≤ L.length ∧ i ≤ 20 ∧ tt = .int .i64 i ∧ St2 200 ep u 81 ws t ∧ TwoW w.heap.size wr p b X q d 2 1 200 320 ws WS ∧ wr.heap[g_p]? = some (.cells #[.int .i64 2, .int .i64 1, .int .i64 200, .int .i64 320] 29 (0, 0)) ∧ Below w.heap.size w wr) (fun t _ => (20 - intOf t).toNat)
  case atStart => exact ⟨0, WS, _, Nat.zero_le _, by omega, rfl, HS0.out, HT.out, H_p.out, B.out⟩
  case round =>
    clear HT H_p B HS0
    obtain ⟨i, ws, t, hi, hi2, rfl, hS, hT, hp, hB⟩ := hrel
    have HS := Lib.hid hS
    have HT := Lib.hid hT
    have H_p := Lib.hid hp
    have B := Lib.hid hB
    clear hS hT hp hB
    by_cases hlt : i < L.length ∧ i < 20
    · skip
      obtain ⟨hlt, hlt2⟩ := hlt
      have hlt3 : (i : Int) < 20 := by omega
      obtain ⟨bA, off, rfl, hbA, hcA⟩ := tks_at HL0.out (by omega)
      obtain ⟨⟨inb, ⟨x, y, z⟩⟩, hop⟩ : ∃ o, L[i]? = some o := ⟨_, List.getElem?_eq_getElem hlt⟩
      have Hxyz : Hid (N3Ok ⟨x, y, z⟩) := Lib.hid (Hq.out _ (List.mem_of_getElem? hop))
      obtain ⟨k0, k1, k2, k3⟩ := hcA i _ hop
      simp only at k0 k1 k2 k3
      have K0 := Lib.hid k0
      have HbA := Lib.hid hbA
      have Hlt := Lib.hid hlt
      have cA1 := (B.out.cell (p := ⟨bA, off + i * 4 + 1, none⟩) hbA).trans k1
      have cA2 := (B.out.cell (p := ⟨bA, off + i * 4 + 2, none⟩) hbA).trans k2
      have cA3 := (B.out.cell (p := ⟨bA, off + i * 4 + 3, none⟩) hbA).trans k3
      have zA : bA < wr.heap.size := Nat.lt_of_lt_of_le hbA B.out.size
      clear hcA hop k0 k1 k2 k3 hbA
      obtain ⟨a0, Ha0⟩ : ∃ a, Hid (x % 7 = a) := ⟨_, Lib.hid rfl⟩
      obtain ⟨b0, Hb0⟩ : ∃ a, Hid (y % 61 = a) := ⟨_, Lib.hid rfl⟩
      obtain ⟨c0, Hc0⟩ : ∃ a, Hid (z % 8 = a) := ⟨_, Lib.hid rfl⟩
      have hxyz := Hxyz.out
      obtain ⟨⟨x0, x1⟩, ⟨y0, y1⟩, ⟨z0, z1⟩⟩ := hxyz
      simp only at x0 x1 y0 y1 z0 z1
      have Hab : Hid ((0 ≤ a0 ∧ a0 ≤ 6) ∧ (0 ≤ b0 ∧ b0 ≤ 512) ∧ (0 ≤ c0 ∧ c0 ≤ 7) ∧ b0 ≤ 60) := Lib.hid (by have := Ha0.out; have := Hb0.out; have := Hc0.out; omega)
      have HCal : Hid (CalOk ⟨7, 1, 0, 0, a0, b0, c0⟩) := Lib.hid (cal15 Hab.out.1 Hab.out.2.1 Hab.out.2.2.1)
      have HOf : Hid (∀ ch, rbeginRn 2 (chE inb) ⟨7, 1, 0, 0, a0, b0, c0⟩ (rregR 0 0 0 0 0) (rregR 0 0 0 0 0) ch = tkCall (chK inb : Int) a0 b0 c0 ch) := Lib.hid fun ch => of15 inb Hab.out.1 Hab.out.2.1 Hab.out.2.2.1 ch
      have HCa := fun w' => Lib.hid (call15_any x y z w' Hxyz.out.hx Hxyz.out.hy Hxyz.out.hz)
      simp only [Ha0.out, Hb0.out, Hc0.out] at HCa
      clear x0 x1 y0 y1 z0 z1
      go_wp2_with fail
      refine (HCa _).out.mono ?_
      rintro r x1 ⟨rfl, hb⟩
      clear cA1 cA2 cA3 zA
      have hsz := (hb).size
      replace H_p := Lib.hid (row_below H_p.out hb)
      replace HT := Lib.hid (HT.out.below hb)
      replace B := Lib.hid (below_only B.out hb)
      clear hb hsz
      go_upto_region 10 with (refine wpList_store_row rfl 35 (.tmp 12) (.tmp 62) rfl x1.heap.size #[.int .u8 7, .int .u8 1, .int .u8 0, .int .u8 0, .int .i64 a0, .int .i64 b0, .int .i64 c0] rfl rfl 35 #[.int .u8 0, .int .u8 0, .int .u8 0, .int .u8 0, .int .i64 0, .int .i64 0, .int .i64 0] (row_new _ _ _) infoCal7 rfl (one7 _ _ _ _ _ _ _) ?_; (try simp only [Act.put]); (try simp only [List.setIfInBounds_toArray]); (try simp only [List.set_cons_succ]); (try simp only [List.set_cons_zero]))
      refine alloc_set' x1 _ _ _ ?_
      intro x2 hr hb
      have hlB := B.out.size
      have hfr := HT.out.fresh (Nat.le_refl x1.heap.size)
      have hl_p := lt_of_heap H_p.out
      have hsz := (hb).size
      replace H_p := Lib.hid (row_below H_p.out hb)
      replace HT := Lib.hid (HT.out.below hb)
      replace B := Lib.hid (below_only B.out hb)
      clear hb hsz
      have H_c := Lib.hid (show x2.heap[x1.heap.size]? = some (.cells #[.int .u8 7, .int .u8 1, .int .u8 0, .int .u8 0, .int .i64 a0, .int .i64 b0, .int .i64 c0] 35 (0, 0)) from hr)
      clear hr
      obtain ⟨g_c, hg_c⟩ : ∃ x, x = x1.heap.size := ⟨_, rfl⟩
      rw [← hg_c] at H_c ⊢
      have N_c : Hid (g_c ∉ [p, b, X, q, d]) := Lib.hid (by rw [hg_c]; exact hfr)
      clear hfr
      have M_p_c : Hid (g_p ≠ g_c) := Lib.hid (by omega)
      have M_c_p : Hid (g_c ≠ g_p) := Lib.hid (by omega)
      clear hl_p
      have L_c : Hid (w.heap.size ≤ g_c) := Lib.hid (by omega)
      clear hg_c hlB
      have cA0 : x2.cell? ⟨bA, off + i * 4, none⟩ = some (.bool inb) := (B.out.cell (p := ⟨bA, off + i * 4, none⟩) HbA.out).trans K0.out
      have zA : bA < x2.heap.size := Nat.lt_of_lt_of_le HbA.out B.out.size
      have hlt := Hlt.out
      have hlt4 : (i : Int) < (L.length : Int) := by omega
      have hi0 : (0 : Int) ≤ (i : Int) := by omega
      go_upto_if 67 with fail
      try simp only [Act.put]
      go_cut [13] from 67 to 67 (fun v wx => v = .int .i64 (chK inb : Int) ∧ x2 = wx)
      case first =>
        cases inb with
        | false =>
          go_wp2_with fail
          go_meet
          exact ⟨rfl, rfl⟩
        | true =>
          go_wp2_with fail
          go_meet
          exact ⟨rfl, rfl⟩
      case rest =>
        obtain ⟨rfl, hwx⟩ := hcut
        subst hwx
        go_upto_region 13 with fail
        try simp only [Act.put]
        go_cut [14] from 68 to 77 (fun vd wx => ∃ gr cA kc, vd = .pointer (some ⟨gr, 0, none⟩) ∧ x2.heap.size ≤ gr ∧ wx.heap[gr]? = some (.cells (tkCall (chK inb : Int) a0 b0 c0 ⟨cA, (chE inb).length, kc⟩).arr 42 (0, 0)) ∧ Ents wx cA (chE inb) ∧ (∀ z, 0 < (chE inb).length → cA = some z → x2.heap.size ≤ z.block) ∧ (∀ z, 0 < (chE inb).length → cA = some z → z.block ≠ gr) ∧ Below x2.heap.size x2 wx)
        case first =>
          as_aux_lemma =>
            refine wp_region_held_drew (S := fun W' => W'.heap[g_p]? = some (.cells #[.int .i64 2, .int .i64 1, .int .i64 200, .int .i64 320] 29 (0, 0)) ∧ W'.heap[g_c]? = some (.cells #[.int .u8 7, .int .u8 1, .int .u8 0, .int .u8 0, .int .i64 a0, .int .i64 b0, .int .i64 c0] 35 (0, 0)) ∧ W'.cell? ⟨bA, off + i * 4, none⟩ = some (.bool inb) ∧ bA < W'.heap.size) (by kernel_rfl) (show x2.drew.heap[g_p]? = some (.cells #[.int .i64 2, .int .i64 1, .int .i64 200, .int .i64 320] 29 (0, 0)) ∧ x2.drew.heap[g_c]? = some (.cells #[.int .u8 7, .int .u8 1, .int .u8 0, .int .u8 0, .int .i64 a0, .int .i64 b0, .int .i64 c0] 35 (0, 0)) ∧ x2.drew.cell? ⟨bA, off + i * 4, none⟩ = some (.bool inb) ∧ bA < x2.drew.heap.size from ⟨H_p.out, H_c.out, cA0, zA⟩) ?_
            intro hS
            have hB0 : Below x2.heap.size x2 x2.drew := Below.drew (Below.refl _ _)
            generalize x2.drew = y0 at hS hB0 ⊢
            refine wpAnyH_take_at (i := 0) (v := .agg #[.int .i64 2, .int .i64 1, .int .i64 200, .int .i64 320]) (some 68) rfl rfl (by kernel_rfl) (by kernel_rfl) (by kernel_rfl) (fun _ _ _ h => h) (yieldsIf_load_row (by kernel_rfl) 29 (.tmp 8) rfl g_p rfl #[.int .i64 2, .int .i64 1, .int .i64 200, .int .i64 320] (fun W' hW' => hW'.1) undPln4 rfl infoPln4) (by assumption) ?_
            try simp only [Act.put]
            try simp only [List.setIfInBounds_toArray]
            try simp only [List.set_cons_succ]
            try simp only [List.set_cons_zero]
            refine wpAnyH_take_at (i := 2) (v := ?v2x1) (some 70) rfl rfl (by kernel_rfl) (by kernel_rfl) (by kernel_rfl) (fun _ _ _ h => h) (Or.inl ⟨by kernel_rfl, ?h2x1⟩) (by assumption) ?r2x1
            case h2x1 => (intro w' hSw; obtain ⟨s1, s2, s3, s4⟩ := hSw; go_simp; first | done | (with_reducible rfl))
            try simp only [Act.put]
            try simp only [List.setIfInBounds_toArray]
            try simp only [List.set_cons_succ]
            try simp only [List.set_cons_zero]
            refine wpAnyH_take_at (i := 3) (v := ?v3x2) (some 71) rfl rfl (by kernel_rfl) (by kernel_rfl) (by kernel_rfl) (fun _ _ _ h => h) (Or.inl ⟨by kernel_rfl, ?h3x2⟩) (by assumption) ?r3x2
            case h3x2 => (intro w' hSw; obtain ⟨s1, s2, s3, s4⟩ := hSw; go_simp; first | done | (with_reducible rfl))
            try simp only [Act.put]
            try simp only [List.setIfInBounds_toArray]
            try simp only [List.set_cons_succ]
            try simp only [List.set_cons_zero]
            refine wpAnyH_take_at (i := 4) (v := ?v4x3) (some 72) rfl rfl (by kernel_rfl) (by kernel_rfl) (by kernel_rfl) (fun _ _ _ h => h) (Or.inl ⟨by kernel_rfl, ?h4x3⟩) (by assumption) ?r4x3
            case h4x3 => (intro w' hSw; obtain ⟨s1, s2, s3, s4⟩ := hSw; go_simp; first | done | (with_reducible rfl))
            try simp only [Act.put]
            try simp only [List.setIfInBounds_toArray]
            try simp only [List.set_cons_succ]
            try simp only [List.set_cons_zero]
            refine wpAnyH_take_at (i := 5) (v := ?v5x4) (some 73) rfl rfl (by kernel_rfl) (by kernel_rfl) (by kernel_rfl) (fun _ _ _ h => h) (Or.inl ⟨by kernel_rfl, ?h5x4⟩) (by assumption) ?r5x4
            case h5x4 => (intro w' hSw; obtain ⟨s1, s2, s3, s4⟩ := hSw; go_simp; first | done | (with_reducible rfl))
            try simp only [Act.put]
            try simp only [List.setIfInBounds_toArray]
            try simp only [List.set_cons_succ]
            try simp only [List.set_cons_zero]
            refine wpAnyH_take_at (i := 6) (v := ?v6x5) (some 74) rfl rfl (by kernel_rfl) (by kernel_rfl) (by kernel_rfl) (fun _ _ _ h => h) (Or.inl ⟨by kernel_rfl, ?h6x5⟩) (by assumption) ?r6x5
            case h6x5 => (intro w' hSw; obtain ⟨s1, s2, s3, s4⟩ := hSw; go_simp; first | done | (with_reducible rfl))
            try simp only [Act.put]
            try simp only [List.setIfInBounds_toArray]
            try simp only [List.set_cons_succ]
            try simp only [List.set_cons_zero]
            refine wpAnyH_take_at (i := 8) (v := .agg #[.int .u8 7, .int .u8 1, .int .u8 0, .int .u8 0, .int .i64 a0, .int .i64 b0, .int .i64 c0]) (some 76) rfl rfl (by kernel_rfl) (by kernel_rfl) (by kernel_rfl) (fun _ _ _ h => h) (yieldsIf_load_row (by kernel_rfl) 35 (.tmp 12) rfl g_c rfl #[.int .u8 7, .int .u8 1, .int .u8 0, .int .u8 0, .int .i64 a0, .int .i64 b0, .int .i64 c0] (fun W' hW' => hW'.2.1) undCal7 rfl infoCal7) (by assumption) ?_
            try simp only [Act.put]
            try simp only [List.setIfInBounds_toArray]
            try simp only [List.set_cons_succ]
            try simp only [List.set_cons_zero]
            refine wpAnyH_ready (rs := [1, 7, 10]) (by kernel_rfl) (by simp) ?_
            refine AllReadyH.cons rfl (fun K hK => ?_) (AllReadyH.cons rfl (fun K hK => ?_) (AllReadyH.cons rfl (fun K hK => ?_) AllReadyH.nil))
            · skip
              go_simp
              refine k_alloc (fun yM hM hb => ?_)
              have hzM : x2.heap.size ≤ y0.heap.size := hB0.size
              obtain ⟨gM, HgM⟩ : ∃ x, x = y0.heap.size := ⟨_, rfl⟩
              replace hB0 := below_only hB0 hb
              rw [← HgM] at hM ⊢
              clear HgM
              refine hK.out _ _ (⟨row_below hS.1 hb, row_below hS.2.1 hb, (hb.cell (lt_of_cell hS.2.2.1)).trans hS.2.2.1, Nat.lt_of_lt_of_le hS.2.2.2 hb.size⟩) (fun hS => ?_)
              clear hK K
              try simp only [Act.put]
              try simp only [List.setIfInBounds_toArray]
              try simp only [List.set_cons_succ]
              try simp only [List.set_cons_zero]
              refine wpAnyH_ready (rs := [7, 10]) (by kernel_rfl) (by simp) ?_
              refine AllReadyH.cons rfl (fun K hK => ?_) (AllReadyH.cons rfl (fun K hK => ?_) AllReadyH.nil)
              · skip
                go_simp
                refine (chain15_any inb _).mono ?_
                rintro e' yC ⟨cB, rfl, hE, hEn, hb⟩
                go_simp
                have hEl : ∀ z, 0 < (chE inb).length → cB = some z → x2.heap.size ≤ z.block := fun z _ hz => Nat.le_trans hB0.size (hEn z hz)
                replace hB0 := below_only hB0 hb
                replace hM := row_below hM hb
                refine hK.out _ _ (⟨row_below hS.1 hb, row_below hS.2.1 hb, (hb.cell (lt_of_cell hS.2.2.1)).trans hS.2.2.1, Nat.lt_of_lt_of_le hS.2.2.2 hb.size⟩) (fun hS => ?_)
                clear hK K
                try simp only [Act.put]
                try simp only [List.setIfInBounds_toArray]
                try simp only [List.set_cons_succ]
                try simp only [List.set_cons_zero]
                refine wpAnyH_ready (rs := [9, 10]) (by kernel_rfl) (by simp) ?_
                refine AllReadyH.cons rfl (fun K hK => ?_) (AllReadyH.cons rfl (fun K hK => ?_) AllReadyH.nil)
                · skip
                  go_simp
                  obtain ⟨m0, m1, m2, m3, _⟩ := box4 hM
                  refine (rof_any ⟨2, 1, 200, 320⟩ cB (chE inb).length (chE inb) ⟨7, 1, 0, 0, a0, b0, c0⟩ 0 0 0 0 gM 0 4 _ (Nat.le_refl _) (by unfold chE; split <;> simp) hE (by decide) (by decide) HCal.out (by decide) (by decide) (by decide) (by decide) (by decide) m0 m1 m2 m3).mono ?_
                  rintro e' yO ⟨kc, cA, rfl, hE2, hE2n, hb⟩
                  rw [HOf.out]
                  go_simp
                  clear m0 m1 m2 m3
                  have hE2l : ∀ z, 0 < (chE inb).length → cA = some z → x2.heap.size ≤ z.block := fun z h0 hz => Nat.le_trans hB0.size (hE2n z h0 hz)
                  replace hB0 := below_only hB0 hb
                  replace hM := row_below hM hb
                  replace hE := Ents.below hE hb
                  refine hK.out _ _ (⟨row_below hS.1 hb, row_below hS.2.1 hb, (hb.cell (lt_of_cell hS.2.2.1)).trans hS.2.2.1, Nat.lt_of_lt_of_le hS.2.2.2 hb.size⟩) (fun hS => ?_)
                  clear hK K
                  try simp only [Act.put]
                  try simp only [List.setIfInBounds_toArray]
                  try simp only [List.set_cons_succ]
                  try simp only [List.set_cons_zero]
                  refine wpAnyH_ready (rs := [10]) (by kernel_rfl) (by simp) ?_
                  refine AllReadyH.cons rfl (fun K hK => ?_) AllReadyH.nil
                  refine step_alloc_run (some 14) rfl rfl rfl ?_
                  refine k_alloc (fun yZ hZ hb => ?_)
                  have hzZ : x2.heap.size ≤ yO.heap.size := hB0.size
                  obtain ⟨gZ, HgZ⟩ : ∃ x, x = yO.heap.size := ⟨_, rfl⟩
                  have hEZ : ∀ z, 0 < (chE inb).length → cA = some z → z.block ≠ gZ := by rw [HgZ]; exact ents_far hE2 (Nat.le_refl _)
                  have hpz : g_p ≠ gZ ∧ g_c ≠ gZ := by have := lt_of_heap hS.1; have := lt_of_heap hS.2.1; omega
                  have hzA : gZ ≠ bA := by have := hS.2.2.2; omega
                  replace hB0 := below_only hB0 hb
                  replace hM := row_below hM hb
                  replace hE := Ents.below hE hb
                  replace hE2 := Ents.below hE2 hb
                  rw [← HgZ] at hZ hzZ ⊢
                  clear HgZ
                  refine hK.out _ _ (⟨row_below hS.1 hb, row_below hS.2.1 hb, (hb.cell (lt_of_cell hS.2.2.1)).trans hS.2.2.1, Nat.lt_of_lt_of_le hS.2.2.2 hb.size⟩) (fun hS => ?_)
                  clear hK K
                  try simp only [Act.put]
                  try simp only [List.setIfInBounds_toArray]
                  try simp only [List.set_cons_succ]
                  try simp only [List.set_cons_zero]
                  refine wpAnyH_ready (rs := [11]) (by kernel_rfl) (by simp) ?_
                  refine AllReadyH.cons rfl (fun K hK => ?_) AllReadyH.nil
                  refine step_store_row none rfl rfl 42 (.tmp 14) (.tmp 77) rfl gZ (tkCall (chK inb : Int) a0 b0 c0 ⟨cA, (chE inb).length, kc⟩).arr rfl rfl 42 ZRun hZ infoRun rfl (Rn.one _) ?_
                  refine hK.out _ _ (⟨(setRow_other _ _ _ _ hpz.1).trans hS.1, (setRow_other _ _ _ _ hpz.2).trans hS.2.1, (cell_setRow15 hzA.symm).trans hS.2.2.1, by simpa [World.setRow] using hS.2.2.2⟩) (fun hS => ?_)
                  clear hK K
                  try simp only [Act.put]
                  try simp only [List.setIfInBounds_toArray]
                  try simp only [List.set_cons_succ]
                  try simp only [List.set_cons_zero]
                  refine wpAnyH_done (by kernel_rfl) ?_ _
                  go_wp2_with fail
                  go_meet
                  exact ⟨gZ, cA, kc, rfl, hzZ, setRow_heap _ _ _ _ _ _ hZ, ents_setRow hE2 hEZ _, hE2l, hEZ, below_setRow hB0 hzZ _⟩
                · skip
                  refine step_alloc_run (some 14) rfl rfl rfl ?_
                  refine k_alloc (fun yZ hZ hb => ?_)
                  have hzZ : x2.heap.size ≤ yC.heap.size := hB0.size
                  obtain ⟨gZ, HgZ⟩ : ∃ x, x = yC.heap.size := ⟨_, rfl⟩
                  have hpz : g_p ≠ gZ ∧ g_c ≠ gZ := by have := lt_of_heap hS.1; have := lt_of_heap hS.2.1; omega
                  have hzA : gZ ≠ bA := by have := hS.2.2.2; omega
                  replace hB0 := below_only hB0 hb
                  replace hM := row_below hM hb
                  replace hE := Ents.below hE hb
                  rw [← HgZ] at hZ hzZ ⊢
                  clear HgZ
                  refine hK.out _ _ (⟨row_below hS.1 hb, row_below hS.2.1 hb, (hb.cell (lt_of_cell hS.2.2.1)).trans hS.2.2.1, Nat.lt_of_lt_of_le hS.2.2.2 hb.size⟩) (fun hS => ?_)
                  clear hK K
                  try simp only [Act.put]
                  try simp only [List.setIfInBounds_toArray]
                  try simp only [List.set_cons_succ]
                  try simp only [List.set_cons_zero]
                  refine wpAnyH_ready (rs := [9]) (by kernel_rfl) (by simp) ?_
                  refine AllReadyH.cons rfl (fun K hK => ?_) AllReadyH.nil
                  go_simp
                  obtain ⟨m0, m1, m2, m3, _⟩ := box4 hM
                  refine (rof_any ⟨2, 1, 200, 320⟩ cB (chE inb).length (chE inb) ⟨7, 1, 0, 0, a0, b0, c0⟩ 0 0 0 0 gM 0 4 _ (Nat.le_refl _) (by unfold chE; split <;> simp) hE (by decide) (by decide) HCal.out (by decide) (by decide) (by decide) (by decide) (by decide) m0 m1 m2 m3).mono ?_
                  rintro e' yO ⟨kc, cA, rfl, hE2, hE2n, hb⟩
                  rw [HOf.out]
                  go_simp
                  clear m0 m1 m2 m3
                  have hE2l : ∀ z, 0 < (chE inb).length → cA = some z → x2.heap.size ≤ z.block := fun z h0 hz => Nat.le_trans hB0.size (hE2n z h0 hz)
                  have hEZ : ∀ z, 0 < (chE inb).length → cA = some z → z.block ≠ gZ := fun z h0 hz => by have := hE2n z h0 hz; have := lt_of_heap hZ; omega
                  replace hB0 := below_only hB0 hb
                  replace hM := row_below hM hb
                  replace hE := Ents.below hE hb
                  replace hZ := row_below hZ hb
                  refine hK.out _ _ (⟨row_below hS.1 hb, row_below hS.2.1 hb, (hb.cell (lt_of_cell hS.2.2.1)).trans hS.2.2.1, Nat.lt_of_lt_of_le hS.2.2.2 hb.size⟩) (fun hS => ?_)
                  clear hK K
                  try simp only [Act.put]
                  try simp only [List.setIfInBounds_toArray]
                  try simp only [List.set_cons_succ]
                  try simp only [List.set_cons_zero]
                  refine wpAnyH_ready (rs := [11]) (by kernel_rfl) (by simp) ?_
                  refine AllReadyH.cons rfl (fun K hK => ?_) AllReadyH.nil
                  refine step_store_row none rfl rfl 42 (.tmp 14) (.tmp 77) rfl gZ (tkCall (chK inb : Int) a0 b0 c0 ⟨cA, (chE inb).length, kc⟩).arr rfl rfl 42 ZRun hZ infoRun rfl (Rn.one _) ?_
                  refine hK.out _ _ (⟨(setRow_other _ _ _ _ hpz.1).trans hS.1, (setRow_other _ _ _ _ hpz.2).trans hS.2.1, (cell_setRow15 hzA.symm).trans hS.2.2.1, by simpa [World.setRow] using hS.2.2.2⟩) (fun hS => ?_)
                  clear hK K
                  try simp only [Act.put]
                  try simp only [List.setIfInBounds_toArray]
                  try simp only [List.set_cons_succ]
                  try simp only [List.set_cons_zero]
                  refine wpAnyH_done (by kernel_rfl) ?_ _
                  go_wp2_with fail
                  go_meet
                  exact ⟨gZ, cA, kc, rfl, hzZ, setRow_heap _ _ _ _ _ _ hZ, ents_setRow hE2 hEZ _, hE2l, hEZ, below_setRow hB0 hzZ _⟩
              · skip
                refine step_alloc_run (some 14) rfl rfl rfl ?_
                refine k_alloc (fun yZ hZ hb => ?_)
                have hzZ : x2.heap.size ≤ yM.heap.size := hB0.size
                obtain ⟨gZ, HgZ⟩ : ∃ x, x = yM.heap.size := ⟨_, rfl⟩
                have hpz : g_p ≠ gZ ∧ g_c ≠ gZ := by have := lt_of_heap hS.1; have := lt_of_heap hS.2.1; omega
                have hzA : gZ ≠ bA := by have := hS.2.2.2; omega
                replace hB0 := below_only hB0 hb
                replace hM := row_below hM hb
                rw [← HgZ] at hZ hzZ ⊢
                clear HgZ
                refine hK.out _ _ (⟨row_below hS.1 hb, row_below hS.2.1 hb, (hb.cell (lt_of_cell hS.2.2.1)).trans hS.2.2.1, Nat.lt_of_lt_of_le hS.2.2.2 hb.size⟩) (fun hS => ?_)
                clear hK K
                try simp only [Act.put]
                try simp only [List.setIfInBounds_toArray]
                try simp only [List.set_cons_succ]
                try simp only [List.set_cons_zero]
                refine wpAnyH_ready (rs := [7]) (by kernel_rfl) (by simp) ?_
                refine AllReadyH.cons rfl (fun K hK => ?_) AllReadyH.nil
                go_simp
                refine (chain15_any inb _).mono ?_
                rintro e' yC ⟨cB, rfl, hE, hEn, hb⟩
                go_simp
                have hEl : ∀ z, 0 < (chE inb).length → cB = some z → x2.heap.size ≤ z.block := fun z _ hz => Nat.le_trans hB0.size (hEn z hz)
                replace hB0 := below_only hB0 hb
                replace hM := row_below hM hb
                replace hZ := row_below hZ hb
                refine hK.out _ _ (⟨row_below hS.1 hb, row_below hS.2.1 hb, (hb.cell (lt_of_cell hS.2.2.1)).trans hS.2.2.1, Nat.lt_of_lt_of_le hS.2.2.2 hb.size⟩) (fun hS => ?_)
                clear hK K
                try simp only [Act.put]
                try simp only [List.setIfInBounds_toArray]
                try simp only [List.set_cons_succ]
                try simp only [List.set_cons_zero]
                refine wpAnyH_ready (rs := [9]) (by kernel_rfl) (by simp) ?_
                refine AllReadyH.cons rfl (fun K hK => ?_) AllReadyH.nil
                go_simp
                obtain ⟨m0, m1, m2, m3, _⟩ := box4 hM
                refine (rof_any ⟨2, 1, 200, 320⟩ cB (chE inb).length (chE inb) ⟨7, 1, 0, 0, a0, b0, c0⟩ 0 0 0 0 gM 0 4 _ (Nat.le_refl _) (by unfold chE; split <;> simp) hE (by decide) (by decide) HCal.out (by decide) (by decide) (by decide) (by decide) (by decide) m0 m1 m2 m3).mono ?_
                rintro e' yO ⟨kc, cA, rfl, hE2, hE2n, hb⟩
                rw [HOf.out]
                go_simp
                clear m0 m1 m2 m3
                have hE2l : ∀ z, 0 < (chE inb).length → cA = some z → x2.heap.size ≤ z.block := fun z h0 hz => Nat.le_trans hB0.size (hE2n z h0 hz)
                have hEZ : ∀ z, 0 < (chE inb).length → cA = some z → z.block ≠ gZ := fun z h0 hz => by have := hE2n z h0 hz; have := lt_of_heap hZ; omega
                replace hB0 := below_only hB0 hb
                replace hM := row_below hM hb
                replace hE := Ents.below hE hb
                replace hZ := row_below hZ hb
                refine hK.out _ _ (⟨row_below hS.1 hb, row_below hS.2.1 hb, (hb.cell (lt_of_cell hS.2.2.1)).trans hS.2.2.1, Nat.lt_of_lt_of_le hS.2.2.2 hb.size⟩) (fun hS => ?_)
                clear hK K
                try simp only [Act.put]
                try simp only [List.setIfInBounds_toArray]
                try simp only [List.set_cons_succ]
                try simp only [List.set_cons_zero]
                refine wpAnyH_ready (rs := [11]) (by kernel_rfl) (by simp) ?_
                refine AllReadyH.cons rfl (fun K hK => ?_) AllReadyH.nil
                refine step_store_row none rfl rfl 42 (.tmp 14) (.tmp 77) rfl gZ (tkCall (chK inb : Int) a0 b0 c0 ⟨cA, (chE inb).length, kc⟩).arr rfl rfl 42 ZRun hZ infoRun rfl (Rn.one _) ?_
                refine hK.out _ _ (⟨(setRow_other _ _ _ _ hpz.1).trans hS.1, (setRow_other _ _ _ _ hpz.2).trans hS.2.1, (cell_setRow15 hzA.symm).trans hS.2.2.1, by simpa [World.setRow] using hS.2.2.2⟩) (fun hS => ?_)
                clear hK K
                try simp only [Act.put]
                try simp only [List.setIfInBounds_toArray]
                try simp only [List.set_cons_succ]
                try simp only [List.set_cons_zero]
                refine wpAnyH_done (by kernel_rfl) ?_ _
                go_wp2_with fail
                go_meet
                exact ⟨gZ, cA, kc, rfl, hzZ, setRow_heap _ _ _ _ _ _ hZ, ents_setRow hE2 hEZ _, hE2l, hEZ, below_setRow hB0 hzZ _⟩
            · skip
              go_simp
              refine (chain15_any inb _).mono ?_
              rintro e' yC ⟨cB, rfl, hE, hEn, hb⟩
              go_simp
              have hEl : ∀ z, 0 < (chE inb).length → cB = some z → x2.heap.size ≤ z.block := fun z _ hz => Nat.le_trans hB0.size (hEn z hz)
              replace hB0 := below_only hB0 hb
              refine hK.out _ _ (⟨row_below hS.1 hb, row_below hS.2.1 hb, (hb.cell (lt_of_cell hS.2.2.1)).trans hS.2.2.1, Nat.lt_of_lt_of_le hS.2.2.2 hb.size⟩) (fun hS => ?_)
              clear hK K
              try simp only [Act.put]
              try simp only [List.setIfInBounds_toArray]
              try simp only [List.set_cons_succ]
              try simp only [List.set_cons_zero]
              refine wpAnyH_ready (rs := [1, 10]) (by kernel_rfl) (by simp) ?_
              refine AllReadyH.cons rfl (fun K hK => ?_) (AllReadyH.cons rfl (fun K hK => ?_) AllReadyH.nil)
              · skip
                go_simp
                refine k_alloc (fun yM hM hb => ?_)
                have hzM : x2.heap.size ≤ yC.heap.size := hB0.size
                obtain ⟨gM, HgM⟩ : ∃ x, x = yC.heap.size := ⟨_, rfl⟩
                replace hB0 := below_only hB0 hb
                replace hE := Ents.below hE hb
                rw [← HgM] at hM ⊢
                clear HgM
                refine hK.out _ _ (⟨row_below hS.1 hb, row_below hS.2.1 hb, (hb.cell (lt_of_cell hS.2.2.1)).trans hS.2.2.1, Nat.lt_of_lt_of_le hS.2.2.2 hb.size⟩) (fun hS => ?_)
                clear hK K
                try simp only [Act.put]
                try simp only [List.setIfInBounds_toArray]
                try simp only [List.set_cons_succ]
                try simp only [List.set_cons_zero]
                refine wpAnyH_ready (rs := [9, 10]) (by kernel_rfl) (by simp) ?_
                refine AllReadyH.cons rfl (fun K hK => ?_) (AllReadyH.cons rfl (fun K hK => ?_) AllReadyH.nil)
                · skip
                  go_simp
                  obtain ⟨m0, m1, m2, m3, _⟩ := box4 hM
                  refine (rof_any ⟨2, 1, 200, 320⟩ cB (chE inb).length (chE inb) ⟨7, 1, 0, 0, a0, b0, c0⟩ 0 0 0 0 gM 0 4 _ (Nat.le_refl _) (by unfold chE; split <;> simp) hE (by decide) (by decide) HCal.out (by decide) (by decide) (by decide) (by decide) (by decide) m0 m1 m2 m3).mono ?_
                  rintro e' yO ⟨kc, cA, rfl, hE2, hE2n, hb⟩
                  rw [HOf.out]
                  go_simp
                  clear m0 m1 m2 m3
                  have hE2l : ∀ z, 0 < (chE inb).length → cA = some z → x2.heap.size ≤ z.block := fun z h0 hz => Nat.le_trans hB0.size (hE2n z h0 hz)
                  replace hB0 := below_only hB0 hb
                  replace hM := row_below hM hb
                  replace hE := Ents.below hE hb
                  refine hK.out _ _ (⟨row_below hS.1 hb, row_below hS.2.1 hb, (hb.cell (lt_of_cell hS.2.2.1)).trans hS.2.2.1, Nat.lt_of_lt_of_le hS.2.2.2 hb.size⟩) (fun hS => ?_)
                  clear hK K
                  try simp only [Act.put]
                  try simp only [List.setIfInBounds_toArray]
                  try simp only [List.set_cons_succ]
                  try simp only [List.set_cons_zero]
                  refine wpAnyH_ready (rs := [10]) (by kernel_rfl) (by simp) ?_
                  refine AllReadyH.cons rfl (fun K hK => ?_) AllReadyH.nil
                  refine step_alloc_run (some 14) rfl rfl rfl ?_
                  refine k_alloc (fun yZ hZ hb => ?_)
                  have hzZ : x2.heap.size ≤ yO.heap.size := hB0.size
                  obtain ⟨gZ, HgZ⟩ : ∃ x, x = yO.heap.size := ⟨_, rfl⟩
                  have hEZ : ∀ z, 0 < (chE inb).length → cA = some z → z.block ≠ gZ := by rw [HgZ]; exact ents_far hE2 (Nat.le_refl _)
                  have hpz : g_p ≠ gZ ∧ g_c ≠ gZ := by have := lt_of_heap hS.1; have := lt_of_heap hS.2.1; omega
                  have hzA : gZ ≠ bA := by have := hS.2.2.2; omega
                  replace hB0 := below_only hB0 hb
                  replace hM := row_below hM hb
                  replace hE := Ents.below hE hb
                  replace hE2 := Ents.below hE2 hb
                  rw [← HgZ] at hZ hzZ ⊢
                  clear HgZ
                  refine hK.out _ _ (⟨row_below hS.1 hb, row_below hS.2.1 hb, (hb.cell (lt_of_cell hS.2.2.1)).trans hS.2.2.1, Nat.lt_of_lt_of_le hS.2.2.2 hb.size⟩) (fun hS => ?_)
                  clear hK K
                  try simp only [Act.put]
                  try simp only [List.setIfInBounds_toArray]
                  try simp only [List.set_cons_succ]
                  try simp only [List.set_cons_zero]
                  refine wpAnyH_ready (rs := [11]) (by kernel_rfl) (by simp) ?_
                  refine AllReadyH.cons rfl (fun K hK => ?_) AllReadyH.nil
                  refine step_store_row none rfl rfl 42 (.tmp 14) (.tmp 77) rfl gZ (tkCall (chK inb : Int) a0 b0 c0 ⟨cA, (chE inb).length, kc⟩).arr rfl rfl 42 ZRun hZ infoRun rfl (Rn.one _) ?_
                  refine hK.out _ _ (⟨(setRow_other _ _ _ _ hpz.1).trans hS.1, (setRow_other _ _ _ _ hpz.2).trans hS.2.1, (cell_setRow15 hzA.symm).trans hS.2.2.1, by simpa [World.setRow] using hS.2.2.2⟩) (fun hS => ?_)
                  clear hK K
                  try simp only [Act.put]
                  try simp only [List.setIfInBounds_toArray]
                  try simp only [List.set_cons_succ]
                  try simp only [List.set_cons_zero]
                  refine wpAnyH_done (by kernel_rfl) ?_ _
                  go_wp2_with fail
                  go_meet
                  exact ⟨gZ, cA, kc, rfl, hzZ, setRow_heap _ _ _ _ _ _ hZ, ents_setRow hE2 hEZ _, hE2l, hEZ, below_setRow hB0 hzZ _⟩
                · skip
                  refine step_alloc_run (some 14) rfl rfl rfl ?_
                  refine k_alloc (fun yZ hZ hb => ?_)
                  have hzZ : x2.heap.size ≤ yM.heap.size := hB0.size
                  obtain ⟨gZ, HgZ⟩ : ∃ x, x = yM.heap.size := ⟨_, rfl⟩
                  have hpz : g_p ≠ gZ ∧ g_c ≠ gZ := by have := lt_of_heap hS.1; have := lt_of_heap hS.2.1; omega
                  have hzA : gZ ≠ bA := by have := hS.2.2.2; omega
                  replace hB0 := below_only hB0 hb
                  replace hM := row_below hM hb
                  replace hE := Ents.below hE hb
                  rw [← HgZ] at hZ hzZ ⊢
                  clear HgZ
                  refine hK.out _ _ (⟨row_below hS.1 hb, row_below hS.2.1 hb, (hb.cell (lt_of_cell hS.2.2.1)).trans hS.2.2.1, Nat.lt_of_lt_of_le hS.2.2.2 hb.size⟩) (fun hS => ?_)
                  clear hK K
                  try simp only [Act.put]
                  try simp only [List.setIfInBounds_toArray]
                  try simp only [List.set_cons_succ]
                  try simp only [List.set_cons_zero]
                  refine wpAnyH_ready (rs := [9]) (by kernel_rfl) (by simp) ?_
                  refine AllReadyH.cons rfl (fun K hK => ?_) AllReadyH.nil
                  go_simp
                  obtain ⟨m0, m1, m2, m3, _⟩ := box4 hM
                  refine (rof_any ⟨2, 1, 200, 320⟩ cB (chE inb).length (chE inb) ⟨7, 1, 0, 0, a0, b0, c0⟩ 0 0 0 0 gM 0 4 _ (Nat.le_refl _) (by unfold chE; split <;> simp) hE (by decide) (by decide) HCal.out (by decide) (by decide) (by decide) (by decide) (by decide) m0 m1 m2 m3).mono ?_
                  rintro e' yO ⟨kc, cA, rfl, hE2, hE2n, hb⟩
                  rw [HOf.out]
                  go_simp
                  clear m0 m1 m2 m3
                  have hE2l : ∀ z, 0 < (chE inb).length → cA = some z → x2.heap.size ≤ z.block := fun z h0 hz => Nat.le_trans hB0.size (hE2n z h0 hz)
                  have hEZ : ∀ z, 0 < (chE inb).length → cA = some z → z.block ≠ gZ := fun z h0 hz => by have := hE2n z h0 hz; have := lt_of_heap hZ; omega
                  replace hB0 := below_only hB0 hb
                  replace hM := row_below hM hb
                  replace hE := Ents.below hE hb
                  replace hZ := row_below hZ hb
                  refine hK.out _ _ (⟨row_below hS.1 hb, row_below hS.2.1 hb, (hb.cell (lt_of_cell hS.2.2.1)).trans hS.2.2.1, Nat.lt_of_lt_of_le hS.2.2.2 hb.size⟩) (fun hS => ?_)
                  clear hK K
                  try simp only [Act.put]
                  try simp only [List.setIfInBounds_toArray]
                  try simp only [List.set_cons_succ]
                  try simp only [List.set_cons_zero]
                  refine wpAnyH_ready (rs := [11]) (by kernel_rfl) (by simp) ?_
                  refine AllReadyH.cons rfl (fun K hK => ?_) AllReadyH.nil
                  refine step_store_row none rfl rfl 42 (.tmp 14) (.tmp 77) rfl gZ (tkCall (chK inb : Int) a0 b0 c0 ⟨cA, (chE inb).length, kc⟩).arr rfl rfl 42 ZRun hZ infoRun rfl (Rn.one _) ?_
                  refine hK.out _ _ (⟨(setRow_other _ _ _ _ hpz.1).trans hS.1, (setRow_other _ _ _ _ hpz.2).trans hS.2.1, (cell_setRow15 hzA.symm).trans hS.2.2.1, by simpa [World.setRow] using hS.2.2.2⟩) (fun hS => ?_)
                  clear hK K
                  try simp only [Act.put]
                  try simp only [List.setIfInBounds_toArray]
                  try simp only [List.set_cons_succ]
                  try simp only [List.set_cons_zero]
                  refine wpAnyH_done (by kernel_rfl) ?_ _
                  go_wp2_with fail
                  go_meet
                  exact ⟨gZ, cA, kc, rfl, hzZ, setRow_heap _ _ _ _ _ _ hZ, ents_setRow hE2 hEZ _, hE2l, hEZ, below_setRow hB0 hzZ _⟩
              · skip
                refine step_alloc_run (some 14) rfl rfl rfl ?_
                refine k_alloc (fun yZ hZ hb => ?_)
                have hzZ : x2.heap.size ≤ yC.heap.size := hB0.size
                obtain ⟨gZ, HgZ⟩ : ∃ x, x = yC.heap.size := ⟨_, rfl⟩
                have hpz : g_p ≠ gZ ∧ g_c ≠ gZ := by have := lt_of_heap hS.1; have := lt_of_heap hS.2.1; omega
                have hzA : gZ ≠ bA := by have := hS.2.2.2; omega
                replace hB0 := below_only hB0 hb
                replace hE := Ents.below hE hb
                rw [← HgZ] at hZ hzZ ⊢
                clear HgZ
                refine hK.out _ _ (⟨row_below hS.1 hb, row_below hS.2.1 hb, (hb.cell (lt_of_cell hS.2.2.1)).trans hS.2.2.1, Nat.lt_of_lt_of_le hS.2.2.2 hb.size⟩) (fun hS => ?_)
                clear hK K
                try simp only [Act.put]
                try simp only [List.setIfInBounds_toArray]
                try simp only [List.set_cons_succ]
                try simp only [List.set_cons_zero]
                refine wpAnyH_ready (rs := [1]) (by kernel_rfl) (by simp) ?_
                refine AllReadyH.cons rfl (fun K hK => ?_) AllReadyH.nil
                go_simp
                refine k_alloc (fun yM hM hb => ?_)
                have hzM : x2.heap.size ≤ yZ.heap.size := hB0.size
                obtain ⟨gM, HgM⟩ : ∃ x, x = yZ.heap.size := ⟨_, rfl⟩
                replace hB0 := below_only hB0 hb
                replace hE := Ents.below hE hb
                replace hZ := row_below hZ hb
                rw [← HgM] at hM ⊢
                clear HgM
                refine hK.out _ _ (⟨row_below hS.1 hb, row_below hS.2.1 hb, (hb.cell (lt_of_cell hS.2.2.1)).trans hS.2.2.1, Nat.lt_of_lt_of_le hS.2.2.2 hb.size⟩) (fun hS => ?_)
                clear hK K
                try simp only [Act.put]
                try simp only [List.setIfInBounds_toArray]
                try simp only [List.set_cons_succ]
                try simp only [List.set_cons_zero]
                refine wpAnyH_ready (rs := [9]) (by kernel_rfl) (by simp) ?_
                refine AllReadyH.cons rfl (fun K hK => ?_) AllReadyH.nil
                go_simp
                obtain ⟨m0, m1, m2, m3, _⟩ := box4 hM
                refine (rof_any ⟨2, 1, 200, 320⟩ cB (chE inb).length (chE inb) ⟨7, 1, 0, 0, a0, b0, c0⟩ 0 0 0 0 gM 0 4 _ (Nat.le_refl _) (by unfold chE; split <;> simp) hE (by decide) (by decide) HCal.out (by decide) (by decide) (by decide) (by decide) (by decide) m0 m1 m2 m3).mono ?_
                rintro e' yO ⟨kc, cA, rfl, hE2, hE2n, hb⟩
                rw [HOf.out]
                go_simp
                clear m0 m1 m2 m3
                have hE2l : ∀ z, 0 < (chE inb).length → cA = some z → x2.heap.size ≤ z.block := fun z h0 hz => Nat.le_trans hB0.size (hE2n z h0 hz)
                have hEZ : ∀ z, 0 < (chE inb).length → cA = some z → z.block ≠ gZ := fun z h0 hz => by have := hE2n z h0 hz; have := lt_of_heap hZ; omega
                replace hB0 := below_only hB0 hb
                replace hM := row_below hM hb
                replace hE := Ents.below hE hb
                replace hZ := row_below hZ hb
                refine hK.out _ _ (⟨row_below hS.1 hb, row_below hS.2.1 hb, (hb.cell (lt_of_cell hS.2.2.1)).trans hS.2.2.1, Nat.lt_of_lt_of_le hS.2.2.2 hb.size⟩) (fun hS => ?_)
                clear hK K
                try simp only [Act.put]
                try simp only [List.setIfInBounds_toArray]
                try simp only [List.set_cons_succ]
                try simp only [List.set_cons_zero]
                refine wpAnyH_ready (rs := [11]) (by kernel_rfl) (by simp) ?_
                refine AllReadyH.cons rfl (fun K hK => ?_) AllReadyH.nil
                refine step_store_row none rfl rfl 42 (.tmp 14) (.tmp 77) rfl gZ (tkCall (chK inb : Int) a0 b0 c0 ⟨cA, (chE inb).length, kc⟩).arr rfl rfl 42 ZRun hZ infoRun rfl (Rn.one _) ?_
                refine hK.out _ _ (⟨(setRow_other _ _ _ _ hpz.1).trans hS.1, (setRow_other _ _ _ _ hpz.2).trans hS.2.1, (cell_setRow15 hzA.symm).trans hS.2.2.1, by simpa [World.setRow] using hS.2.2.2⟩) (fun hS => ?_)
                clear hK K
                try simp only [Act.put]
                try simp only [List.setIfInBounds_toArray]
                try simp only [List.set_cons_succ]
                try simp only [List.set_cons_zero]
                refine wpAnyH_done (by kernel_rfl) ?_ _
                go_wp2_with fail
                go_meet
                exact ⟨gZ, cA, kc, rfl, hzZ, setRow_heap _ _ _ _ _ _ hZ, ents_setRow hE2 hEZ _, hE2l, hEZ, below_setRow hB0 hzZ _⟩
            · skip
              refine step_alloc_run (some 14) rfl rfl rfl ?_
              refine k_alloc (fun yZ hZ hb => ?_)
              have hzZ : x2.heap.size ≤ y0.heap.size := hB0.size
              obtain ⟨gZ, HgZ⟩ : ∃ x, x = y0.heap.size := ⟨_, rfl⟩
              have hpz : g_p ≠ gZ ∧ g_c ≠ gZ := by have := lt_of_heap hS.1; have := lt_of_heap hS.2.1; omega
              have hzA : gZ ≠ bA := by have := hS.2.2.2; omega
              replace hB0 := below_only hB0 hb
              rw [← HgZ] at hZ hzZ ⊢
              clear HgZ
              refine hK.out _ _ (⟨row_below hS.1 hb, row_below hS.2.1 hb, (hb.cell (lt_of_cell hS.2.2.1)).trans hS.2.2.1, Nat.lt_of_lt_of_le hS.2.2.2 hb.size⟩) (fun hS => ?_)
              clear hK K
              try simp only [Act.put]
              try simp only [List.setIfInBounds_toArray]
              try simp only [List.set_cons_succ]
              try simp only [List.set_cons_zero]
              refine wpAnyH_ready (rs := [1, 7]) (by kernel_rfl) (by simp) ?_
              refine AllReadyH.cons rfl (fun K hK => ?_) (AllReadyH.cons rfl (fun K hK => ?_) AllReadyH.nil)
              · skip
                go_simp
                refine k_alloc (fun yM hM hb => ?_)
                have hzM : x2.heap.size ≤ yZ.heap.size := hB0.size
                obtain ⟨gM, HgM⟩ : ∃ x, x = yZ.heap.size := ⟨_, rfl⟩
                replace hB0 := below_only hB0 hb
                replace hZ := row_below hZ hb
                rw [← HgM] at hM ⊢
                clear HgM
                refine hK.out _ _ (⟨row_below hS.1 hb, row_below hS.2.1 hb, (hb.cell (lt_of_cell hS.2.2.1)).trans hS.2.2.1, Nat.lt_of_lt_of_le hS.2.2.2 hb.size⟩) (fun hS => ?_)
                clear hK K
                try simp only [Act.put]
                try simp only [List.setIfInBounds_toArray]
                try simp only [List.set_cons_succ]
                try simp only [List.set_cons_zero]
                refine wpAnyH_ready (rs := [7]) (by kernel_rfl) (by simp) ?_
                refine AllReadyH.cons rfl (fun K hK => ?_) AllReadyH.nil
                go_simp
                refine (chain15_any inb _).mono ?_
                rintro e' yC ⟨cB, rfl, hE, hEn, hb⟩
                go_simp
                have hEl : ∀ z, 0 < (chE inb).length → cB = some z → x2.heap.size ≤ z.block := fun z _ hz => Nat.le_trans hB0.size (hEn z hz)
                replace hB0 := below_only hB0 hb
                replace hM := row_below hM hb
                replace hZ := row_below hZ hb
                refine hK.out _ _ (⟨row_below hS.1 hb, row_below hS.2.1 hb, (hb.cell (lt_of_cell hS.2.2.1)).trans hS.2.2.1, Nat.lt_of_lt_of_le hS.2.2.2 hb.size⟩) (fun hS => ?_)
                clear hK K
                try simp only [Act.put]
                try simp only [List.setIfInBounds_toArray]
                try simp only [List.set_cons_succ]
                try simp only [List.set_cons_zero]
                refine wpAnyH_ready (rs := [9]) (by kernel_rfl) (by simp) ?_
                refine AllReadyH.cons rfl (fun K hK => ?_) AllReadyH.nil
                go_simp
                obtain ⟨m0, m1, m2, m3, _⟩ := box4 hM
                refine (rof_any ⟨2, 1, 200, 320⟩ cB (chE inb).length (chE inb) ⟨7, 1, 0, 0, a0, b0, c0⟩ 0 0 0 0 gM 0 4 _ (Nat.le_refl _) (by unfold chE; split <;> simp) hE (by decide) (by decide) HCal.out (by decide) (by decide) (by decide) (by decide) (by decide) m0 m1 m2 m3).mono ?_
                rintro e' yO ⟨kc, cA, rfl, hE2, hE2n, hb⟩
                rw [HOf.out]
                go_simp
                clear m0 m1 m2 m3
                have hE2l : ∀ z, 0 < (chE inb).length → cA = some z → x2.heap.size ≤ z.block := fun z h0 hz => Nat.le_trans hB0.size (hE2n z h0 hz)
                have hEZ : ∀ z, 0 < (chE inb).length → cA = some z → z.block ≠ gZ := fun z h0 hz => by have := hE2n z h0 hz; have := lt_of_heap hZ; omega
                replace hB0 := below_only hB0 hb
                replace hM := row_below hM hb
                replace hE := Ents.below hE hb
                replace hZ := row_below hZ hb
                refine hK.out _ _ (⟨row_below hS.1 hb, row_below hS.2.1 hb, (hb.cell (lt_of_cell hS.2.2.1)).trans hS.2.2.1, Nat.lt_of_lt_of_le hS.2.2.2 hb.size⟩) (fun hS => ?_)
                clear hK K
                try simp only [Act.put]
                try simp only [List.setIfInBounds_toArray]
                try simp only [List.set_cons_succ]
                try simp only [List.set_cons_zero]
                refine wpAnyH_ready (rs := [11]) (by kernel_rfl) (by simp) ?_
                refine AllReadyH.cons rfl (fun K hK => ?_) AllReadyH.nil
                refine step_store_row none rfl rfl 42 (.tmp 14) (.tmp 77) rfl gZ (tkCall (chK inb : Int) a0 b0 c0 ⟨cA, (chE inb).length, kc⟩).arr rfl rfl 42 ZRun hZ infoRun rfl (Rn.one _) ?_
                refine hK.out _ _ (⟨(setRow_other _ _ _ _ hpz.1).trans hS.1, (setRow_other _ _ _ _ hpz.2).trans hS.2.1, (cell_setRow15 hzA.symm).trans hS.2.2.1, by simpa [World.setRow] using hS.2.2.2⟩) (fun hS => ?_)
                clear hK K
                try simp only [Act.put]
                try simp only [List.setIfInBounds_toArray]
                try simp only [List.set_cons_succ]
                try simp only [List.set_cons_zero]
                refine wpAnyH_done (by kernel_rfl) ?_ _
                go_wp2_with fail
                go_meet
                exact ⟨gZ, cA, kc, rfl, hzZ, setRow_heap _ _ _ _ _ _ hZ, ents_setRow hE2 hEZ _, hE2l, hEZ, below_setRow hB0 hzZ _⟩
              · skip
                go_simp
                refine (chain15_any inb _).mono ?_
                rintro e' yC ⟨cB, rfl, hE, hEn, hb⟩
                go_simp
                have hEl : ∀ z, 0 < (chE inb).length → cB = some z → x2.heap.size ≤ z.block := fun z _ hz => Nat.le_trans hB0.size (hEn z hz)
                replace hB0 := below_only hB0 hb
                replace hZ := row_below hZ hb
                refine hK.out _ _ (⟨row_below hS.1 hb, row_below hS.2.1 hb, (hb.cell (lt_of_cell hS.2.2.1)).trans hS.2.2.1, Nat.lt_of_lt_of_le hS.2.2.2 hb.size⟩) (fun hS => ?_)
                clear hK K
                try simp only [Act.put]
                try simp only [List.setIfInBounds_toArray]
                try simp only [List.set_cons_succ]
                try simp only [List.set_cons_zero]
                refine wpAnyH_ready (rs := [1]) (by kernel_rfl) (by simp) ?_
                refine AllReadyH.cons rfl (fun K hK => ?_) AllReadyH.nil
                go_simp
                refine k_alloc (fun yM hM hb => ?_)
                have hzM : x2.heap.size ≤ yC.heap.size := hB0.size
                obtain ⟨gM, HgM⟩ : ∃ x, x = yC.heap.size := ⟨_, rfl⟩
                replace hB0 := below_only hB0 hb
                replace hE := Ents.below hE hb
                replace hZ := row_below hZ hb
                rw [← HgM] at hM ⊢
                clear HgM
                refine hK.out _ _ (⟨row_below hS.1 hb, row_below hS.2.1 hb, (hb.cell (lt_of_cell hS.2.2.1)).trans hS.2.2.1, Nat.lt_of_lt_of_le hS.2.2.2 hb.size⟩) (fun hS => ?_)
                clear hK K
                try simp only [Act.put]
                try simp only [List.setIfInBounds_toArray]
                try simp only [List.set_cons_succ]
                try simp only [List.set_cons_zero]
                refine wpAnyH_ready (rs := [9]) (by kernel_rfl) (by simp) ?_
                refine AllReadyH.cons rfl (fun K hK => ?_) AllReadyH.nil
                go_simp
                obtain ⟨m0, m1, m2, m3, _⟩ := box4 hM
                refine (rof_any ⟨2, 1, 200, 320⟩ cB (chE inb).length (chE inb) ⟨7, 1, 0, 0, a0, b0, c0⟩ 0 0 0 0 gM 0 4 _ (Nat.le_refl _) (by unfold chE; split <;> simp) hE (by decide) (by decide) HCal.out (by decide) (by decide) (by decide) (by decide) (by decide) m0 m1 m2 m3).mono ?_
                rintro e' yO ⟨kc, cA, rfl, hE2, hE2n, hb⟩
                rw [HOf.out]
                go_simp
                clear m0 m1 m2 m3
                have hE2l : ∀ z, 0 < (chE inb).length → cA = some z → x2.heap.size ≤ z.block := fun z h0 hz => Nat.le_trans hB0.size (hE2n z h0 hz)
                have hEZ : ∀ z, 0 < (chE inb).length → cA = some z → z.block ≠ gZ := fun z h0 hz => by have := hE2n z h0 hz; have := lt_of_heap hZ; omega
                replace hB0 := below_only hB0 hb
                replace hM := row_below hM hb
                replace hE := Ents.below hE hb
                replace hZ := row_below hZ hb
                refine hK.out _ _ (⟨row_below hS.1 hb, row_below hS.2.1 hb, (hb.cell (lt_of_cell hS.2.2.1)).trans hS.2.2.1, Nat.lt_of_lt_of_le hS.2.2.2 hb.size⟩) (fun hS => ?_)
                clear hK K
                try simp only [Act.put]
                try simp only [List.setIfInBounds_toArray]
                try simp only [List.set_cons_succ]
                try simp only [List.set_cons_zero]
                refine wpAnyH_ready (rs := [11]) (by kernel_rfl) (by simp) ?_
                refine AllReadyH.cons rfl (fun K hK => ?_) AllReadyH.nil
                refine step_store_row none rfl rfl 42 (.tmp 14) (.tmp 77) rfl gZ (tkCall (chK inb : Int) a0 b0 c0 ⟨cA, (chE inb).length, kc⟩).arr rfl rfl 42 ZRun hZ infoRun rfl (Rn.one _) ?_
                refine hK.out _ _ (⟨(setRow_other _ _ _ _ hpz.1).trans hS.1, (setRow_other _ _ _ _ hpz.2).trans hS.2.1, (cell_setRow15 hzA.symm).trans hS.2.2.1, by simpa [World.setRow] using hS.2.2.2⟩) (fun hS => ?_)
                clear hK K
                try simp only [Act.put]
                try simp only [List.setIfInBounds_toArray]
                try simp only [List.set_cons_succ]
                try simp only [List.set_cons_zero]
                refine wpAnyH_done (by kernel_rfl) ?_ _
                go_wp2_with fail
                go_meet
                exact ⟨gZ, cA, kc, rfl, hzZ, setRow_heap _ _ _ _ _ _ hZ, ents_setRow hE2 hEZ _, hE2l, hEZ, below_setRow hB0 hzZ _⟩
        case rest =>
          obtain ⟨g_r, cA, kc, rfl, hlr, hr, hE, hEl, hEr, hb⟩ := hcut
          obtain ⟨x3, hwx⟩ : ∃ x, x = wc := ⟨_, rfl⟩
          subst hwx
          have hlB := B.out.size
          have N_r : Hid (g_r ∉ [p, b, X, q, d]) := Lib.hid (HT.out.fresh hlr)
          have M_p_r : Hid (g_p ≠ g_r) := Lib.hid (by have := lt_of_heap H_p.out; omega)
          have M_r_p : Hid (g_r ≠ g_p) := Lib.hid (by have := lt_of_heap H_p.out; omega)
          have M_c_r : Hid (g_c ≠ g_r) := Lib.hid (by have := lt_of_heap H_c.out; omega)
          have M_r_c : Hid (g_r ≠ g_c) := Lib.hid (by have := lt_of_heap H_c.out; omega)
          have L_r : Hid (w.heap.size ≤ g_r) := Lib.hid (by omega)
          clear hlr hlB
          have hsz := (hb).size
          replace H_p := Lib.hid (row_below H_p.out hb)
          replace H_c := Lib.hid (row_below H_c.out hb)
          replace HT := Lib.hid (HT.out.below hb)
          replace B := Lib.hid (below_only B.out hb)
          clear hb hsz
          have H_r := Lib.hid (show x3.heap[g_r]? = some (.cells (tkCall (chK inb : Int) a0 b0 c0 ⟨cA, (chE inb).length, kc⟩).arr 42 (0, 0)) from hr)
          clear hr
          clear cA0 zA hE hEl hEr HCa HOf HCal hi0 hlt4 hlt
          obtain ⟨r0, Hr0⟩ : ∃ x : Rn, Hid ((tkCall (chK inb : Int) a0 b0 c0 ⟨cA, (chE inb).length, kc⟩) = x) := ⟨_, Lib.hid rfl⟩
          rw [Hr0.out] at H_r
          have HR0 : Hid (TkRun (chK inb) (cOf ep inb) (baOf 200 inb) (buOf 200 u inb) ⟨cA, (chE inb).length, kc⟩ r0 ∧ r0.pc = 5 ∧ r0.c = ⟨7, 1, 0, 0, a0, b0, c0⟩) := Lib.hid (by rw [← Hr0.out]; exact ⟨tkRun_call Hab.out.1 Hab.out.2.1 Hab.out.2.2.1, rfl, rfl⟩)
          obtain ⟨ch, Hch⟩ : ∃ x, Hid ((⟨cA, (chE inb).length, kc⟩ : Sl) = x) := ⟨_, Lib.hid rfl⟩
          rw [Hch.out] at HR0
          clear Hr0 Hch
          obtain ⟨kk, Hkk⟩ : ∃ x, Hid (chK inb = x ∧ x ≤ 1) := ⟨_, Lib.hid ⟨rfl, by unfold chK; split <;> omega⟩⟩
          obtain ⟨cc, Hcc⟩ : ∃ x, Hid (cOf ep inb = x) := ⟨_, Lib.hid rfl⟩
          obtain ⟨ba, Hba⟩ : ∃ x, Hid (baOf 200 inb = x) := ⟨_, Lib.hid rfl⟩
          obtain ⟨bu, Hbu⟩ : ∃ x, Hid (buOf 200 u inb = x) := ⟨_, Lib.hid rfl⟩
          obtain ⟨tp, Htp⟩ : ∃ x, Hid (t inb = x) := ⟨_, Lib.hid rfl⟩
          have HBl : Hid (BlkOk 2 ws kk cc ba bu tp) := Lib.hid (by rw [← Hkk.out.1, ← Hcc.out, ← Hba.out, ← Hbu.out, ← Htp.out]; exact HS.out.blk inb)
          have Hst := Lib.hid (HS.out.four HR0.out.1 HR0.out.2.1)
          rw [Hkk.out.1, Hcc.out, Hba.out, Hbu.out, Htp.out] at Hst
          rw [Hkk.out.1, Hcc.out, Hba.out, Hbu.out] at HR0
          have hkk : (chK inb : Int) = (kk : Int) := by rw [Hkk.out.1]
          rw [hkk]
          clear hkk
          have Hbd : Hid (0 ≤ tp ∧ tp ≤ bu ∧ 128 ≤ ba ∧ ba + bu ≤ 648 ∧ ws.length = 81 ∧ kk ≤ 1) := Lib.hid (by have h1 := HBl.out.tp0; have h2 := HBl.out.tpb; have h3 := HBl.out.lo; have h4 := HBl.out.hi; have h5 := HS.out.len; have h6 := Hkk.out.2; omega)
          have HWl : Hid ((stepsW ws kk cc ba bu tp r0 4).length = 81) := Lib.hid (by obtain ⟨_, h⟩ := Hst.out; exact h.len)
          clear Hkk Hcc Hba Hbu Htp
          go_wp2_with fail
          have hl_p := lt_of_heap H_p.out
          have hl_c := lt_of_heap H_c.out
          have hl_r := lt_of_heap H_r.out
          have hfr := fun g h => HT.out.fresh (g := g) h
          refine (wordsL_any p b _ _ HT.out.a (by rw [Hbd.out.2.2.2.2.1]; decide)).mono ?_
          rintro r x4 ⟨b_u, o_u, c_u, rfl, hW, hnw, hlb, hb⟩
          rw [Hbd.out.2.2.2.2.1]
          have G_u : Hid (b_u ∉ [p, b, X, q, d]) := Lib.hid (hfr _ hnw)
          clear hfr
          have M_u_p : Hid (b_u ≠ g_p) := Lib.hid (by omega)
          clear hl_p
          have M_u_c : Hid (b_u ≠ g_c) := Lib.hid (by omega)
          clear hl_c
          have M_u_r : Hid (b_u ≠ g_r) := Lib.hid (by omega)
          clear hl_r
          clear hnw
          have hsz := (hb).size
          replace H_p := Lib.hid (row_below H_p.out hb)
          replace H_c := Lib.hid (row_below H_c.out hb)
          replace H_r := Lib.hid (row_below H_r.out hb)
          replace HT := Lib.hid (HT.out.below hb)
          replace B := Lib.hid (below_only B.out hb)
          clear hb hsz
          have W_u : Hid (∀ (jj : Nat) x, ws[jj]? = some x → x4.cell? ⟨b_u, o_u + jj, none⟩ = some (.int .u64 x)) := Lib.hid hW
          have Z_u : Hid (b_u < x4.heap.size) := Lib.hid hlb
          clear hW hlb
          go_wp2_with fail
          refine (rplanAt_any 3 (kk : Int) _ (by decide) (by have := Hbd.out; omega)).mono ?_
          rintro r xa ⟨rfl, e2⟩
          rw [e2, show 64 * (kk : Int) + 8 * 3 = (((8 * kk + 3) * 8 : Nat) : Int) by omega]
          clear e2 xa
          go_wp2_with fail
          refine (arnWord_any p b ws (8 * kk + 3) tp _ HT.out.a HBl.out.blk.tp).mono ?_
          rintro r xa ⟨rfl, e2⟩
          rw [e2]
          clear e2 xa
          go_wp2_with fail
          refine (rplanAt_any 1 (kk : Int) _ (by decide) (by have := Hbd.out; omega)).mono ?_
          rintro r xa ⟨rfl, e2⟩
          rw [e2, show 64 * (kk : Int) + 8 * 1 = (((8 * kk + 1) * 8 : Nat) : Int) by omega]
          clear e2 xa
          go_wp2_with fail
          refine (arnWord_any p b ws (8 * kk + 1) ba _ HT.out.a HBl.out.blk.ba).mono ?_
          rintro r xa ⟨rfl, e2⟩
          rw [e2]
          clear e2 xa
          go_wp2_with fail
          have hz : stepsR cc ba bu tp r0 0 = r0 ∧ stepsW ws kk cc ba bu tp r0 0 = ws := ⟨rfl, rfl⟩
          rw [← hz.1] at H_r
          have HT1 : Hid (TwoW w.heap.size x4 p b X q d 2 1 200 320 (stepsW ws kk cc ba bu tp r0 0) WS) := Lib.hid (by rw [hz.2]; exact HT.out)
          clear hz HT
          have HT := HT1
          clear HT1
          go_loopw [20] (fun tt wr => ∃ j : Nat, j ≤ 4 ∧ tt = .int .i64 j ∧ wr.heap[g_p]? = some (.cells #[.int .i64 2, .int .i64 1, .int .i64 200, .int .i64 320] 29 (0, 0)) ∧ wr.heap[g_c]? = some (.cells #[.int .u8 7, .int .u8 1, .int .u8 0, .int .u8 0, .int .i64 a0, .int .i64 b0, .int .i64 c0] 35 (0, 0)) ∧ wr.heap[g_r]? = some (.cells (stepsR cc ba bu tp r0 j).arr 42 (0, 0)) ∧ (∀ (jj : Nat) x, ws[jj]? = some x → wr.cell? ⟨b_u, o_u + jj, none⟩ = some (.int .u64 x)) ∧ b_u < wr.heap.size ∧ TwoW w.heap.size wr p b X q d 2 1 200 320 (stepsW ws kk cc ba bu tp r0 j) WS ∧ Below w.heap.size w wr) (fun t _ => (4 - intOf t).toNat)
          case atStart => exact ⟨0, by omega, rfl, H_p.out, H_c.out, H_r.out, W_u.out, Z_u.out, HT.out, B.out⟩
          case round =>
            clear H_p H_c H_r W_u Z_u HT B
            obtain ⟨j, hj, rfl, hrel⟩ := hrel
            obtain ⟨hq_H_p, hq_H_c, hq_H_r, hq_W_u, hq_Z_u, hq_HT, hq_B⟩ := hrel
            have H_p := Lib.hid hq_H_p
            have H_c := Lib.hid hq_H_c
            have H_r := Lib.hid hq_H_r
            have W_u := Lib.hid hq_W_u
            have Z_u := Lib.hid hq_Z_u
            have HT := Lib.hid hq_HT
            have B := Lib.hid hq_B
            clear hq_H_p hq_H_c hq_H_r hq_W_u hq_Z_u hq_HT hq_B
            by_cases hj4 : j < 4
            · skip
              have hst := steps_next (ws := ws) (tp := tp) HR0.out.1 HR0.out.2.1 hj4
              have HDn := Lib.hid hst.2.2.2.done
              have HT1 : Hid (TwoW w.heap.size wr p b X q d 2 1 200 320 ws WS) := Lib.hid (by rw [← hst.2.2.1]; exact HT.out)
              clear hst HT
              have HT := HT1
              clear HT1
              go_wp2_with fail
              have hl_p := lt_of_heap H_p.out
              have hl_c := lt_of_heap H_c.out
              have hl_r := lt_of_heap H_r.out
              have hfr := fun g h => HT.out.fresh (g := g) h
              refine (wordsL_any p b _ _ HT.out.a (by rw [Hbd.out.2.2.2.2.1]; decide)).mono ?_
              rintro r y1 ⟨b_v, o_v, c_v, rfl, hW, hnw, hlb, hb⟩
              rw [Hbd.out.2.2.2.2.1]
              have G_v : Hid (b_v ∉ [p, b, X, q, d]) := Lib.hid (hfr _ hnw)
              clear hfr
              have M_v_p : Hid (b_v ≠ g_p) := Lib.hid (by omega)
              clear hl_p
              have M_v_c : Hid (b_v ≠ g_c) := Lib.hid (by omega)
              clear hl_c
              have M_v_r : Hid (b_v ≠ g_r) := Lib.hid (by omega)
              clear hl_r
              clear hnw
              have hsz := (hb).size
              replace H_p := Lib.hid (row_below H_p.out hb)
              replace H_c := Lib.hid (row_below H_c.out hb)
              replace H_r := Lib.hid (row_below H_r.out hb)
              replace W_u := Lib.hid (fun n x hx => (hb.cell (lt_of_cell (W_u.out n x hx))).trans (W_u.out n x hx))
              replace Z_u := Lib.hid (Nat.lt_of_lt_of_le Z_u.out hsz)
              replace HT := Lib.hid (HT.out.below hb)
              replace B := Lib.hid (below_only B.out hb)
              clear hb hsz
              have W_v : Hid (∀ (jj : Nat) x, ws[jj]? = some x → y1.cell? ⟨b_v, o_v + jj, none⟩ = some (.int .u64 x)) := Lib.hid hW
              have Z_v : Hid (b_v < y1.heap.size) := Lib.hid hlb
              clear hW hlb
              go_wp2_with fail
              go_loopw [22, 23] (fun v22 v23 wz => ∃ n : Nat, n ≤ 81 ∧ v22 = .bool true ∧ v23 = .int .i64 n ∧ Below y1.heap.size y1 wz) (fun _ t _ => (81 - intOf t).toNat)
              case atStart => exact ⟨0, by omega, rfl, rfl, Below.refl _ _⟩
              case round =>
                obtain ⟨n, hn, rfl, rfl, hbz⟩ := hrel
                have HBz := Lib.hid hbz
                clear hbz
                by_cases hn4 : n < 81
                · skip
                  obtain ⟨e, he⟩ : ∃ x, ws[n]? = some x := ⟨_, List.getElem?_eq_getElem (by rw [Hbd.out.2.2.2.2.1]; exact hn4)⟩
                  have cu : wr.cell? ⟨b_u, o_u + n, none⟩ = some (.int .u64 e) := (HBz.out.cell (lt_of_cell (W_u.out n e he))).trans (W_u.out n e he)
                  have cv : wr.cell? ⟨b_v, o_v + n, none⟩ = some (.int .u64 e) := (HBz.out.cell (lt_of_cell (W_v.out n e he))).trans (W_v.out n e he)
                  have hnI : (n : Int) < 81 := by omega
                  have hnI0 : (0 : Int) ≤ (n : Int) := by omega
                  clear he
                  go_upto_region 25 with fail
                  try simp only [Act.put]
                  refine wp_region_held_drew (S := fun W' => W'.cell? ⟨b_u, o_u + n, none⟩ = some (.int .u64 e) ∧ W'.cell? ⟨b_v, o_v + n, none⟩ = some (.int .u64 e)) (by kernel_rfl) (by first | exact ⟨cu, cv⟩ | (dsimp only; exact ⟨cu, cv⟩)) ?_
                  intro hS
                  have hb0 : Below wr.heap.size wr wr.drew := Below.drew (Below.refl _ _)
                  clear cu cv
                  generalize wr.drew = v0 at hS hb0 ⊢
                  refine wpAnyH_take_at (i := 0) (v := ?v0x6) (some 114) rfl rfl (by kernel_rfl) (by kernel_rfl) (by kernel_rfl) (fun _ _ _ h => h) (Or.inl ⟨by kernel_rfl, ?h0x6⟩) (by assumption) ?r0x6
                  case h0x6 => (intro w hSw; obtain ⟨s0, s1⟩ := hSw; go_simp; first | done | (with_reducible rfl))
                  try simp only [Act.put]
                  try simp only [List.setIfInBounds_toArray]
                  try simp only [List.set_cons_succ]
                  try simp only [List.set_cons_zero]
                  refine wpAnyH_take_at (i := 1) (v := ?v1x7) (some 115) rfl rfl (by kernel_rfl) (by kernel_rfl) (by kernel_rfl) (fun _ _ _ h => h) (Or.inl ⟨by kernel_rfl, ?h1x7⟩) (by assumption) ?r1x7
                  case h1x7 => (intro w hSw; obtain ⟨s0, s1⟩ := hSw; go_simp; first | done | (with_reducible rfl))
                  try simp only [Act.put]
                  try simp only [List.setIfInBounds_toArray]
                  try simp only [List.set_cons_succ]
                  try simp only [List.set_cons_zero]
                  refine wpAnyH_take_at (i := 2) (v := ?v2x8) (some 116) rfl rfl (by kernel_rfl) (by kernel_rfl) (by kernel_rfl) (fun _ _ _ h => h) (Or.inl ⟨by kernel_rfl, ?h2x8⟩) (by assumption) ?r2x8
                  case h2x8 => (intro w hSw; obtain ⟨s0, s1⟩ := hSw; go_simp; first | done | (with_reducible rfl))
                  try simp only [Act.put]
                  try simp only [List.setIfInBounds_toArray]
                  try simp only [List.set_cons_succ]
                  try simp only [List.set_cons_zero]
                  refine wpAnyH_take_at (i := 3) (v := ?v3x9) (some 117) rfl rfl (by kernel_rfl) (by kernel_rfl) (by kernel_rfl) (fun _ _ _ h => h) (Or.inl ⟨by kernel_rfl, ?h3x9⟩) (by assumption) ?r3x9
                  case h3x9 => (intro w hSw; obtain ⟨s0, s1⟩ := hSw; go_simp; first | done | (with_reducible rfl))
                  try simp only [Act.put]
                  try simp only [List.setIfInBounds_toArray]
                  try simp only [List.set_cons_succ]
                  try simp only [List.set_cons_zero]
                  refine wpAnyH_take_at (i := 4) (v := ?v4x10) (some 118) rfl rfl (by kernel_rfl) (by kernel_rfl) (by kernel_rfl) (fun _ _ _ h => h) (Or.inl ⟨by kernel_rfl, ?h4x10⟩) (by assumption) ?r4x10
                  case h4x10 => (intro w hSw; obtain ⟨s0, s1⟩ := hSw; go_simp; first | done | (with_reducible rfl))
                  try simp only [Act.put]
                  try simp only [List.setIfInBounds_toArray]
                  try simp only [List.set_cons_succ]
                  try simp only [List.set_cons_zero]
                  refine wpAnyH_take_at (i := 5) (v := ?v5x11) (some 119) rfl rfl (by kernel_rfl) (by kernel_rfl) (by kernel_rfl) (fun _ _ _ h => h) (Or.inl ⟨by kernel_rfl, ?h5x11⟩) (by assumption) ?r5x11
                  case h5x11 => (intro w hSw; obtain ⟨s0, s1⟩ := hSw; go_simp; first | done | (with_reducible rfl))
                  try simp only [Act.put]
                  try simp only [List.setIfInBounds_toArray]
                  try simp only [List.set_cons_succ]
                  try simp only [List.set_cons_zero]
                  refine wpAnyH_take_at (i := 6) (v := ?v6x12) (some 120) rfl rfl (by kernel_rfl) (by kernel_rfl) (by kernel_rfl) (fun _ _ _ h => h) (Or.inl ⟨by kernel_rfl, ?h6x12⟩) (by assumption) ?r6x12
                  case h6x12 => (intro w hSw; obtain ⟨s0, s1⟩ := hSw; go_simp; first | done | (with_reducible rfl))
                  try simp only [Act.put]
                  try simp only [List.setIfInBounds_toArray]
                  try simp only [List.set_cons_succ]
                  try simp only [List.set_cons_zero]
                  refine wpAnyH_take_at (i := 7) (v := ?v7x13) (some 121) rfl rfl (by kernel_rfl) (by kernel_rfl) (by kernel_rfl) (fun _ _ _ h => h) (Or.inl ⟨by kernel_rfl, ?h7x13⟩) (by assumption) ?r7x13
                  case h7x13 => (intro w hSw; obtain ⟨s0, s1⟩ := hSw; go_simp; first | done | (with_reducible rfl))
                  try simp only [Act.put]
                  try simp only [List.setIfInBounds_toArray]
                  try simp only [List.set_cons_succ]
                  try simp only [List.set_cons_zero]
                  refine wpAnyH_take_at (i := 8) (v := ?v8x14) (some 122) rfl rfl (by kernel_rfl) (by kernel_rfl) (by kernel_rfl) (fun _ _ _ h => h) (Or.inl ⟨by kernel_rfl, ?h8x14⟩) (by assumption) ?r8x14
                  case h8x14 => (intro w hSw; obtain ⟨s0, s1⟩ := hSw; go_simp; first | done | (with_reducible rfl))
                  try simp only [Act.put]
                  try simp only [List.setIfInBounds_toArray]
                  try simp only [List.set_cons_succ]
                  try simp only [List.set_cons_zero]
                  refine wpAnyH_take_at (i := 9) (v := ?v9x15) (some 22) rfl rfl (by kernel_rfl) (by kernel_rfl) (by kernel_rfl) (fun _ _ _ h => h) (Or.inl ⟨by kernel_rfl, ?h9x15⟩) (by assumption) ?r9x15
                  case h9x15 => (intro w hSw; obtain ⟨s0, s1⟩ := hSw; go_simp; first | done | (with_reducible rfl))
                  try simp only [Act.put]
                  try simp only [List.setIfInBounds_toArray]
                  try simp only [List.set_cons_succ]
                  try simp only [List.set_cons_zero]
                  refine wpAnyH_done (by kernel_rfl) ?_ _
                  have HB4 := Lib.hid (below_only HBz.out hb0)
                  clear hb0 hS
                  go_wp2_with fail
                  go_roundw
                  case rel => exact ⟨n + 1, by omega, by first | rfl | simp, by go_num, HB4.out⟩
                  case measure => simp [intOf]; omega
                · skip
                  obtain rfl : n = 81 := by omega
                  have hb := HBz.out
                  clear HBz hn4 hn
                  have hsz := (hb).size
                  replace H_p := Lib.hid (row_below H_p.out hb)
                  replace H_c := Lib.hid (row_below H_c.out hb)
                  replace H_r := Lib.hid (row_below H_r.out hb)
                  replace W_u := Lib.hid (fun n x hx => (hb.cell (lt_of_cell (W_u.out n x hx))).trans (W_u.out n x hx))
                  replace Z_u := Lib.hid (Nat.lt_of_lt_of_le Z_u.out hsz)
                  replace W_v := Lib.hid (fun n x hx => (hb.cell (lt_of_cell (W_v.out n x hx))).trans (W_v.out n x hx))
                  replace Z_v := Lib.hid (Nat.lt_of_lt_of_le Z_v.out hsz)
                  replace HT := Lib.hid (HT.out.below hb)
                  replace B := Lib.hid (below_only B.out hb)
                  clear hb hsz
                  have r_21 : wr.cell? ⟨g_r, 21, none⟩ = some (.bool false) := by rw [row_cell H_r.out]; rw [← HDn.out]; rfl
                  have z_r := lt_of_heap H_r.out
                  obtain ⟨p_0, p_1, p_2, p_3, p_f0, p_f1, p_f2, p_f3⟩ := box4 H_p.out
                  have z_p := lt_of_heap H_p.out
                  obtain ⟨R, HRq⟩ : ∃ R, Hid (R = (stepsR cc ba bu tp r0 j)) := ⟨_, Lib.hid rfl⟩
                  rw [← HRq.out] at H_r
                  go_wp2_with (first | (refine wpList_load_row rfl 42 (.tmp 14) rfl g_r rfl 42 R.arr (0, 0) _ H_r.out undRun rfl infoRun ?_; (try simp only [Act.put]); (try simp only [List.setIfInBounds_toArray]); (try simp only [List.set_cons_succ]); (try simp only [List.set_cons_zero])))
                  clear r_21 z_r p_0 p_1 p_2 p_3 p_f0 p_f1 p_f2 p_f3 z_p
                  rw [HRq.out]
                  have HT1 : Hid (TwoW w.heap.size wr p b X q d 2 1 200 320 (stepsW ws kk cc ba bu tp r0 j) WS) := Lib.hid (by rw [(steps_next (ws := ws) (tp := tp) HR0.out.1 HR0.out.2.1 hj4).2.2.1]; exact HT.out)
                  clear HT
                  have HT := HT1
                  clear HT1
                  refine (steps15_any p b kk 2 1 200 320 ws cc ba bu tp ch r0 j _ HPl.out HBl.out HR0.out.1 HR0.out.2.1 hj4 HT.out.a).mono ?_
                  rintro r y5 ⟨rfl, hA, hK⟩
                  obtain ⟨R2, HR2⟩ : ∃ R, Hid (R = (stepsR cc ba bu tp r0 (j + 1))) := ⟨_, Lib.hid rfl⟩
                  rw [← HR2.out, ← HRq.out]
                  have hszK := hK.size
                  replace H_p := Lib.hid (hK.row H_p.out (by simpa using (HT.out.nb N_p.out).1))
                  replace H_c := Lib.hid (hK.row H_c.out (by simpa using (HT.out.nb N_c.out).1))
                  replace H_r := Lib.hid (hK.row H_r.out (by simpa using (HT.out.nb N_r.out).1))
                  replace W_u := Lib.hid (fun n x hx => hK.cell (W_u.out n x hx) (by simpa using (HT.out.nb G_u.out).1))
                  replace Z_u := Lib.hid (Nat.lt_of_lt_of_le Z_u.out hszK)
                  replace W_v := Lib.hid (fun n x hx => hK.cell (W_v.out n x hx) (by simpa using (HT.out.nb G_v.out).1))
                  replace Z_v := Lib.hid (Nat.lt_of_lt_of_le Z_v.out hszK)
                  replace B := Lib.hid (HT.out.under B.out hK (by simp))
                  replace HT := Lib.hid (HT.out.onA hA hK)
                  clear hA hK hszK
                  go_upto_region 19 with (first | (refine wpList_store_row rfl 42 (.tmp 14) (.tmp 134) rfl g_r R2.arr rfl rfl 42 R.arr H_r.out infoRun rfl (Rn.one _) ?_; (try simp only [Act.put]); (try simp only [List.setIfInBounds_toArray]); (try simp only [List.set_cons_succ]); (try simp only [List.set_cons_zero])))
                  refine set_row' y5 g_r _ _ _ H_r.out ?_
                  intro y6 hr hK
                  have hszK := hK.size
                  replace H_p := Lib.hid (hK.row H_p.out (by simpa using M_p_r.out))
                  replace H_c := Lib.hid (hK.row H_c.out (by simpa using M_c_r.out))
                  replace W_u := Lib.hid (fun n x hx => hK.cell (W_u.out n x hx) (by simpa using M_u_r.out))
                  replace Z_u := Lib.hid (Nat.lt_of_lt_of_le Z_u.out hszK)
                  replace W_v := Lib.hid (fun n x hx => hK.cell (W_v.out n x hx) (by simpa using M_v_r.out))
                  replace Z_v := Lib.hid (Nat.lt_of_lt_of_le Z_v.out hszK)
                  replace HT := Lib.hid (HT.out.kept hK (fun j hj => by simp only [List.mem_singleton] at hj; subst hj; exact N_r.out))
                  replace B := Lib.hid (Keep.under B.out hK (by have := B.out.size; omega) (by simp; exact L_r.out))
                  replace H_r := Lib.hid hr
                  clear hr hK hszK
                  rw [HR2.out] at H_r
                  go_wp2_with fail
                  go_roundw
                  case rel => exact ⟨j + 1, by omega, by go_num, H_p.out, H_c.out, H_r.out, W_u.out, Z_u.out, HT.out, B.out⟩
                  case measure => simp [intOf]; omega
            · skip
              obtain rfl : j = 4 := by omega
              clear hj4 hj
              obtain ⟨W4, HW4⟩ : ∃ x, Hid ((stepsW ws kk cc ba bu tp r0 4) = x) := ⟨_, Lib.hid rfl⟩
              obtain ⟨re, Hre⟩ : ∃ x, Hid ((stepsR cc ba bu tp r0 4) = x) := ⟨_, Lib.hid rfl⟩
              have He := Lib.hid (steps_end (c := cc) (ba := ba) (bu := bu) (tp := tp) r0)
              rw [HW4.out] at HT HWl Hst
              rw [Hre.out] at H_r He
              go_wp2_with fail
              have hl_p := lt_of_heap H_p.out
              have hl_c := lt_of_heap H_c.out
              have hl_r := lt_of_heap H_r.out
              have hfr := fun g h => HT.out.fresh (g := g) h
              refine (wordsL_any p b _ _ HT.out.a (by rw [HWl.out]; decide)).mono ?_
              rintro r y1 ⟨b_v, o_v, c_v, rfl, hW, hnw, hlb, hb⟩
              rw [HWl.out]
              have G_v : Hid (b_v ∉ [p, b, X, q, d]) := Lib.hid (hfr _ hnw)
              clear hfr
              have M_v_p : Hid (b_v ≠ g_p) := Lib.hid (by omega)
              clear hl_p
              have M_v_c : Hid (b_v ≠ g_c) := Lib.hid (by omega)
              clear hl_c
              have M_v_r : Hid (b_v ≠ g_r) := Lib.hid (by omega)
              clear hl_r
              clear hnw
              have hsz := (hb).size
              replace H_p := Lib.hid (row_below H_p.out hb)
              replace H_c := Lib.hid (row_below H_c.out hb)
              replace H_r := Lib.hid (row_below H_r.out hb)
              replace W_u := Lib.hid (fun n x hx => (hb.cell (lt_of_cell (W_u.out n x hx))).trans (W_u.out n x hx))
              replace Z_u := Lib.hid (Nat.lt_of_lt_of_le Z_u.out hsz)
              replace HT := Lib.hid (HT.out.below hb)
              replace B := Lib.hid (below_only B.out hb)
              clear hb hsz
              have W_v : Hid (∀ (jj : Nat) x, W4[jj]? = some x → y1.cell? ⟨b_v, o_v + jj, none⟩ = some (.int .u64 x)) := Lib.hid hW
              have Z_v : Hid (b_v < y1.heap.size) := Lib.hid hlb
              clear hW hlb
              have r_21 : y1.cell? ⟨g_r, 21, none⟩ = some (.bool true) := by rw [row_cell H_r.out]; rw [← He.out.done]; rfl
              have z_r := lt_of_heap H_r.out
              obtain ⟨cd, Hcd⟩ : ∃ x, Hid (re.code = x) := ⟨_, Lib.hid rfl⟩
              have HN : Hid (∀ (n : Nat) x y, ws[n]? = some x → W4[n]? = some y → y = x ∨ (y ≠ x ∧ cd = 0 ∧ ((n = 8 * kk + 3 ∧ y = tp + 8 * wordsN a0 b0 ∧ 8 * (n : Int) < ba + tp) ∨ 8 * (n : Int) = ba + tp ∨ 8 * (n : Int) = ba + tp + 8))) := Lib.hid fun n x y hx hy => by
                rw [← HW4.out] at hy
                rcases steps_changes HBl.out HR0.out.1 HR0.out.2.1 hx hy with h | ⟨h1, h2, h3⟩
                · exact .inl h
                · rw [HR0.out.2.2] at h2 h3
                  exact .inr ⟨h1, by rw [← Hcd.out, He.out.code, HR0.out.2.2, if_pos h2], h3⟩
              obtain ⟨bd0, bd1, bd2, bd3, _, bd5⟩ := Hbd.out
              have hbt : ba + tp ≤ 65536 := by omega
              have hbt2 : IntKind.u64.wrap (ba + tp) = ba + tp := by rw [IntKind.wrap_u64]; omega
              have hbt3 : decide (65536 < ba + tp) = false := decide_eq_false (by omega)
              go_wp2_with fail
              clear r_21 z_r
              go_loopw [25] (fun tt wz => ∃ n : Nat, n ≤ 81 ∧ tt = .int .i64 n ∧ Below y1.heap.size y1 wz) (fun t _ => (81 - intOf t).toNat)
              case atStart => exact ⟨0, by omega, rfl, Below.refl _ _⟩
              case round =>
                obtain ⟨n, hn, rfl, hbz⟩ := hrel
                have HBz := Lib.hid hbz
                clear hbz
                by_cases hn4 : n < 81
                · skip
                  obtain ⟨e, he⟩ : ∃ x, ws[n]? = some x := ⟨_, List.getElem?_eq_getElem (by rw [Hbd.out.2.2.2.2.1]; exact hn4)⟩
                  obtain ⟨f, hf⟩ : ∃ x, W4[n]? = some x := ⟨_, List.getElem?_eq_getElem (by rw [HWl.out]; exact hn4)⟩
                  have hNn := HN.out n e f he hf
                  have hf0 : 0 ≤ f ∧ f < 18446744073709551616 := HT.out.a.ok f (List.mem_of_getElem? hf)
                  have cu : wr.cell? ⟨b_u, o_u + n, none⟩ = some (.int .u64 e) := (HBz.out.cell (lt_of_cell (W_u.out n e he))).trans (W_u.out n e he)
                  have cv : wr.cell? ⟨b_v, o_v + n, none⟩ = some (.int .u64 f) := (HBz.out.cell (lt_of_cell (W_v.out n f hf))).trans (W_v.out n f hf)
                  have hnI : (n : Int) < 81 := by omega
                  have hnI0 : (0 : Int) ≤ (n : Int) := by omega
                  have HNn := Lib.hid hNn
                  clear he hf hNn
                  go_upto_region 35 with fail
                  try simp only [Act.put]
                  go_cut [168] from 160 to 168 (fun v wx => v = .bool (e == f) ∧ Below wr.heap.size wr wx)
                  case first =>
                    refine wp_region_held_drew (S := fun W' => W'.cell? ⟨b_u, o_u + n, none⟩ = some (.int .u64 e) ∧ W'.cell? ⟨b_v, o_v + n, none⟩ = some (.int .u64 f)) (by kernel_rfl) (by first | exact ⟨cu, cv⟩ | (dsimp only; exact ⟨cu, cv⟩)) ?_
                    intro hS
                    have hb0 : Below wr.heap.size wr wr.drew := Below.drew (Below.refl _ _)
                    clear cu cv HNn
                    generalize wr.drew = v0 at hS hb0 ⊢
                    refine wpAnyH_take_at (i := 0) (v := ?v0x16) (some 160) rfl rfl (by kernel_rfl) (by kernel_rfl) (by kernel_rfl) (fun _ _ _ h => h) (Or.inl ⟨by kernel_rfl, ?h0x16⟩) (by assumption) ?r0x16
                    case h0x16 => (intro w hSw; obtain ⟨s0, s1⟩ := hSw; go_simp; first | done | (with_reducible rfl))
                    try simp only [Act.put]
                    try simp only [List.setIfInBounds_toArray]
                    try simp only [List.set_cons_succ]
                    try simp only [List.set_cons_zero]
                    refine wpAnyH_take_at (i := 1) (v := ?v1x17) (some 161) rfl rfl (by kernel_rfl) (by kernel_rfl) (by kernel_rfl) (fun _ _ _ h => h) (Or.inl ⟨by kernel_rfl, ?h1x17⟩) (by assumption) ?r1x17
                    case h1x17 => (intro w hSw; obtain ⟨s0, s1⟩ := hSw; go_simp; first | done | (with_reducible rfl))
                    try simp only [Act.put]
                    try simp only [List.setIfInBounds_toArray]
                    try simp only [List.set_cons_succ]
                    try simp only [List.set_cons_zero]
                    refine wpAnyH_take_at (i := 2) (v := ?v2x18) (some 162) rfl rfl (by kernel_rfl) (by kernel_rfl) (by kernel_rfl) (fun _ _ _ h => h) (Or.inl ⟨by kernel_rfl, ?h2x18⟩) (by assumption) ?r2x18
                    case h2x18 => (intro w hSw; obtain ⟨s0, s1⟩ := hSw; go_simp; first | done | (with_reducible rfl))
                    try simp only [Act.put]
                    try simp only [List.setIfInBounds_toArray]
                    try simp only [List.set_cons_succ]
                    try simp only [List.set_cons_zero]
                    refine wpAnyH_take_at (i := 3) (v := ?v3x19) (some 163) rfl rfl (by kernel_rfl) (by kernel_rfl) (by kernel_rfl) (fun _ _ _ h => h) (Or.inl ⟨by kernel_rfl, ?h3x19⟩) (by assumption) ?r3x19
                    case h3x19 => (intro w hSw; obtain ⟨s0, s1⟩ := hSw; go_simp; first | done | (with_reducible rfl))
                    try simp only [Act.put]
                    try simp only [List.setIfInBounds_toArray]
                    try simp only [List.set_cons_succ]
                    try simp only [List.set_cons_zero]
                    refine wpAnyH_take_at (i := 4) (v := ?v4x20) (some 164) rfl rfl (by kernel_rfl) (by kernel_rfl) (by kernel_rfl) (fun _ _ _ h => h) (Or.inl ⟨by kernel_rfl, ?h4x20⟩) (by assumption) ?r4x20
                    case h4x20 => (intro w hSw; obtain ⟨s0, s1⟩ := hSw; go_simp; first | done | (with_reducible rfl))
                    try simp only [Act.put]
                    try simp only [List.setIfInBounds_toArray]
                    try simp only [List.set_cons_succ]
                    try simp only [List.set_cons_zero]
                    refine wpAnyH_take_at (i := 5) (v := ?v5x21) (some 165) rfl rfl (by kernel_rfl) (by kernel_rfl) (by kernel_rfl) (fun _ _ _ h => h) (Or.inl ⟨by kernel_rfl, ?h5x21⟩) (by assumption) ?r5x21
                    case h5x21 => (intro w hSw; obtain ⟨s0, s1⟩ := hSw; go_simp; first | done | (with_reducible rfl))
                    try simp only [Act.put]
                    try simp only [List.setIfInBounds_toArray]
                    try simp only [List.set_cons_succ]
                    try simp only [List.set_cons_zero]
                    refine wpAnyH_take_at (i := 6) (v := ?v6x22) (some 166) rfl rfl (by kernel_rfl) (by kernel_rfl) (by kernel_rfl) (fun _ _ _ h => h) (Or.inl ⟨by kernel_rfl, ?h6x22⟩) (by assumption) ?r6x22
                    case h6x22 => (intro w hSw; obtain ⟨s0, s1⟩ := hSw; go_simp; first | done | (with_reducible rfl))
                    try simp only [Act.put]
                    try simp only [List.setIfInBounds_toArray]
                    try simp only [List.set_cons_succ]
                    try simp only [List.set_cons_zero]
                    refine wpAnyH_take_at (i := 7) (v := ?v7x23) (some 167) rfl rfl (by kernel_rfl) (by kernel_rfl) (by kernel_rfl) (fun _ _ _ h => h) (Or.inl ⟨by kernel_rfl, ?h7x23⟩) (by assumption) ?r7x23
                    case h7x23 => (intro w hSw; obtain ⟨s0, s1⟩ := hSw; go_simp; first | done | (with_reducible rfl))
                    try simp only [Act.put]
                    try simp only [List.setIfInBounds_toArray]
                    try simp only [List.set_cons_succ]
                    try simp only [List.set_cons_zero]
                    refine wpAnyH_take_at (i := 8) (v := ?v8x24) (some 168) rfl rfl (by kernel_rfl) (by kernel_rfl) (by kernel_rfl) (fun _ _ _ h => h) (Or.inl ⟨by kernel_rfl, ?h8x24⟩) (by assumption) ?r8x24
                    case h8x24 => (intro w hSw; obtain ⟨s0, s1⟩ := hSw; go_simp; first | done | (with_reducible rfl))
                    try simp only [Act.put]
                    try simp only [List.setIfInBounds_toArray]
                    try simp only [List.set_cons_succ]
                    try simp only [List.set_cons_zero]
                    refine wpAnyH_done (by kernel_rfl) ?_ _
                    go_wp2_with fail
                    go_meet
                    exact ⟨by first | rfl | simp, hb0⟩
                  case rest =>
                    obtain ⟨rfl, hb⟩ := hcut
                    obtain ⟨z4, hwx⟩ : ∃ x, x = wc := ⟨_, rfl⟩
                    subst hwx
                    have HB4 := Lib.hid (below_only HBz.out hb)
                    have hb2 := hb
                    clear hb cu HBz
                    rcases HNn.out with h | ⟨h1, h2, h3⟩
                    · have t1 : (e == f) = true := by simp [h]
                      clear h HNn cv
                      go_wp2_with fail
                      go_roundw
                      case rel => exact ⟨n + 1, by omega, by go_num, HB4.out⟩
                      case measure => simp [intOf]; omega
                    · skip
                      have t1 : (e == f) = false := by simpa using fun h => h1 h.symm
                      simp only [t1]
                      subst h2
                      have cv2 : z4.cell? ⟨b_v, o_v + n, none⟩ = some (.int .u64 f) := (hb2.cell (lt_of_cell cv)).trans cv
                      have h8n : IntKind.i64.wrap (8 * (n : Int)) = 8 * (n : Int) := IntWalk.i64_in _ (by omega)
                      have h8u : IntKind.u64.wrap (8 * (n : Int)) = 8 * (n : Int) := by rw [IntKind.wrap_u64]; omega
                      have hb8 : IntKind.u64.wrap (ba + tp + 8) = ba + tp + 8 := by rw [IntKind.wrap_u64]; omega
                      clear HNn cv h1
                      go_upto_region 37 with fail
                      try simp only [Act.put]
                      have Hrow_c : Hid (z4.heap[g_c]? = some (.cells #[.int .u8 7, .int .u8 1, .int .u8 0, .int .u8 0, .int .i64 a0, .int .i64 b0, .int .i64 c0] 35 (0, 0))) := Lib.hid (row_below H_c.out HB4.out)
                      obtain ⟨ab0, ab1, ab2, ab3⟩ := Hab.out
                      obtain ⟨ab4, ab5⟩ := ab0
                      obtain ⟨ab6, ab7⟩ := ab1
                      have q1 : IntKind.i64.wrap (2 + a0) = 2 + a0 := IntWalk.i64_in _ (by omega)
                      have q2 : IntKind.i64.wrap (b0 + 7) = b0 + 7 := IntWalk.i64_in _ (by omega)
                      have q3 : (b0 + 7).tdiv 8 = (b0 + 7) / 8 := Int.tdiv_eq_ediv_of_nonneg (by omega)
                      obtain ⟨bq, hbq⟩ : ∃ x, (b0 + 7) / 8 = x := ⟨_, rfl⟩
                      have hbq0 : 0 ≤ bq ∧ bq ≤ 64 := by omega
                      have hwn : Hid (wordsN a0 b0 = 2 + a0 + bq) := Lib.hid (by unfold wordsN; rw [hbq])
                      rw [hbq] at q3
                      obtain ⟨bq0, bq1⟩ := hbq0
                      have q8 : IntKind.i64.wrap bq = bq := IntWalk.i64_in _ (by omega)
                      obtain ⟨nn, hnn⟩ : ∃ x, x = 2 + a0 + bq := ⟨_, rfl⟩
                      have q4 : IntKind.i64.wrap (2 + a0 + bq) = nn := by rw [hnn]; exact IntWalk.i64_in _ (by omega)
                      have hnn0 : 2 ≤ nn ∧ nn ≤ 72 := by omega
                      obtain ⟨nn0, nn1⟩ := hnn0
                      have Hwn : Hid (wordsN a0 b0 = nn) := Lib.hid (by rw [hwn.out, hnn])
                      have Hnn := Lib.hid hnn
                      have q5 : IntKind.i64.wrap (8 * nn) = 8 * nn := IntWalk.i64_in _ (by omega)
                      have q6 : IntKind.u64.wrap (8 * nn) = 8 * nn := by rw [IntKind.wrap_u64]; omega
                      have q7 : IntKind.u64.wrap (tp + 8 * nn) = tp + 8 * nn := by rw [IntKind.wrap_u64]; omega
                      clear hbq hwn hnn
                      rcases h3 with h3 | h3 | h3
                      · skip
                        obtain ⟨h4, h5, h6⟩ := h3
                        have g1 : ((8 * (n : Int)) == 64 * (kk : Int) + 24) = true := by simp; omega
                        have g2 : (f == tp + 8 * nn) = true := by simp [h5, Hwn.out]
                        have e1 : ((8 * (n : Int)) == ba + tp) = false := by simp; omega
                        have e2 : ((8 * (n : Int)) == ba + tp + 8) = false := by simp; omega
                        clear h4 h5 h6
                        have Hg1 := Lib.hid g1
                        go_cut [27] from 172 to 195 (fun v wx => v = .bool true ∧ Below z4.heap.size z4 wx)
                        case first =>
                          refine wp_region_held_drew (S := fun W' => W'.cell? ⟨b_v, o_v + n, none⟩ = some (.int .u64 f) ∧ W'.heap[g_c]? = some (.cells #[.int .u8 7, .int .u8 1, .int .u8 0, .int .u8 0, .int .i64 a0, .int .i64 b0, .int .i64 c0] 35 (0, 0))) (by kernel_rfl) (show z4.drew.cell? _ = _ ∧ z4.drew.heap[_]? = _ from ⟨cv2, Hrow_c.out⟩) ?_
                          intro hS
                          have hb0 : Below z4.heap.size z4 z4.drew := Below.drew (Below.refl _ _)
                          clear cv2
                          generalize z4.drew = v0 at hS hb0 ⊢
                          refine wpAnyH_take_at (i := 0) (v := ?v0x25) (some 172) rfl rfl (by kernel_rfl) (by kernel_rfl) (by kernel_rfl) (fun _ _ _ h => h) (Or.inl ⟨by kernel_rfl, ?h0x25⟩) (by assumption) ?r0x25
                          case h0x25 => (intro w' hSw; obtain ⟨s1, s2⟩ := hSw; obtain ⟨r0', r1', r2', r3', r4', r5', r6'⟩ := box7 s2; go_simp; first | done | (with_reducible rfl) | (simp [*]; done))
                          try simp only [Act.put]
                          try simp only [List.setIfInBounds_toArray]
                          try simp only [List.set_cons_succ]
                          try simp only [List.set_cons_zero]
                          refine wpAnyH_take_at (i := 1) (v := ?v1x26) (some 173) rfl rfl (by kernel_rfl) (by kernel_rfl) (by kernel_rfl) (fun _ _ _ h => h) (Or.inl ⟨by kernel_rfl, ?h1x26⟩) (by assumption) ?r1x26
                          case h1x26 => (intro w' hSw; obtain ⟨s1, s2⟩ := hSw; obtain ⟨r0', r1', r2', r3', r4', r5', r6'⟩ := box7 s2; go_simp; first | done | (with_reducible rfl) | (simp [*]; done))
                          try simp only [Act.put]
                          try simp only [List.setIfInBounds_toArray]
                          try simp only [List.set_cons_succ]
                          try simp only [List.set_cons_zero]
                          refine wpAnyH_take_at (i := 2) (v := ?v2x27) (some 174) rfl rfl (by kernel_rfl) (by kernel_rfl) (by kernel_rfl) (fun _ _ _ h => h) (Or.inl ⟨by kernel_rfl, ?h2x27⟩) (by assumption) ?r2x27
                          case h2x27 => (intro w' hSw; obtain ⟨s1, s2⟩ := hSw; obtain ⟨r0', r1', r2', r3', r4', r5', r6'⟩ := box7 s2; go_simp; first | done | (with_reducible rfl) | (simp [*]; done))
                          try simp only [Act.put]
                          try simp only [List.setIfInBounds_toArray]
                          try simp only [List.set_cons_succ]
                          try simp only [List.set_cons_zero]
                          refine wpAnyH_ready (rs := [3]) (by kernel_rfl) (by simp) ?_
                          refine AllReadyH.cons rfl (fun K hK => ?_) AllReadyH.nil
                          go_simp
                          refine (rplanAt_any 3 (kk : Int) _ (by decide) (by omega)).mono ?_
                          rintro e' v1 ⟨rfl, hv1⟩
                          subst hv1
                          go_simp
                          refine hK.out _ _ (hS) (fun hS => ?_)
                          clear hK K
                          try simp only [Act.put]
                          try simp only [List.setIfInBounds_toArray]
                          try simp only [List.set_cons_succ]
                          try simp only [List.set_cons_zero]
                          refine wpAnyH_take_at (i := 4) (v := ?v4x28) (some 176) rfl rfl (by kernel_rfl) (by kernel_rfl) (by kernel_rfl) (fun _ _ _ h => h) (Or.inl ⟨by kernel_rfl, ?h4x28⟩) (by assumption) ?r4x28
                          case h4x28 => (intro w' hSw; obtain ⟨s1, s2⟩ := hSw; obtain ⟨r0', r1', r2', r3', r4', r5', r6'⟩ := box7 s2; go_simp; first | done | (with_reducible rfl) | (simp [*]; done))
                          try simp only [Act.put]
                          try simp only [List.setIfInBounds_toArray]
                          try simp only [List.set_cons_succ]
                          try simp only [List.set_cons_zero]
                          refine wpAnyH_take_at (i := 5) (v := ?v5x29) (some 177) rfl rfl (by kernel_rfl) (by kernel_rfl) (by kernel_rfl) (fun _ _ _ h => h) (Or.inl ⟨by kernel_rfl, ?h5x29⟩) (by assumption) ?r5x29
                          case h5x29 => (intro w' hSw; obtain ⟨s1, s2⟩ := hSw; obtain ⟨r0', r1', r2', r3', r4', r5', r6'⟩ := box7 s2; go_simp; first | done | (with_reducible rfl) | (simp [*]; done))
                          try simp only [Act.put]
                          try simp only [List.setIfInBounds_toArray]
                          try simp only [List.set_cons_succ]
                          try simp only [List.set_cons_zero]
                          refine wpAnyH_take_at (i := 6) (v := ?v6x30) (some 178) rfl rfl (by kernel_rfl) (by kernel_rfl) (by kernel_rfl) (fun _ _ _ h => h) (Or.inl ⟨by kernel_rfl, ?h6x30⟩) (by assumption) ?r6x30
                          case h6x30 => (intro w' hSw; obtain ⟨s1, s2⟩ := hSw; obtain ⟨r0', r1', r2', r3', r4', r5', r6'⟩ := box7 s2; go_simp; first | done | (with_reducible rfl) | (simp [*]; done))
                          try simp only [Act.put]
                          try simp only [List.setIfInBounds_toArray]
                          try simp only [List.set_cons_succ]
                          try simp only [List.set_cons_zero]
                          refine wpAnyH_take_at (i := 7) (v := ?v7x31) (some 179) rfl rfl (by kernel_rfl) (by kernel_rfl) (by kernel_rfl) (fun _ _ _ h => h) (Or.inl ⟨by kernel_rfl, ?h7x31⟩) (by assumption) ?r7x31
                          case h7x31 => (intro w' hSw; obtain ⟨s1, s2⟩ := hSw; obtain ⟨r0', r1', r2', r3', r4', r5', r6'⟩ := box7 s2; go_simp; first | done | (with_reducible rfl) | (simp [*]; done))
                          try simp only [Act.put]
                          try simp only [List.setIfInBounds_toArray]
                          try simp only [List.set_cons_succ]
                          try simp only [List.set_cons_zero]
                          refine wpAnyH_take_at (i := 8) (v := ?v8x32) (some 180) rfl rfl (by kernel_rfl) (by kernel_rfl) (by kernel_rfl) (fun _ _ _ h => h) (Or.inl ⟨by kernel_rfl, ?h8x32⟩) (by assumption) ?r8x32
                          case h8x32 => (intro w' hSw; obtain ⟨s1, s2⟩ := hSw; obtain ⟨r0', r1', r2', r3', r4', r5', r6'⟩ := box7 s2; go_simp; first | done | (with_reducible rfl) | (simp [*]; done))
                          try simp only [Act.put]
                          try simp only [List.setIfInBounds_toArray]
                          try simp only [List.set_cons_succ]
                          try simp only [List.set_cons_zero]
                          refine wpAnyH_take_at (i := 9) (v := ?v9x33) (some 181) rfl rfl (by kernel_rfl) (by kernel_rfl) (by kernel_rfl) (fun _ _ _ h => h) (Or.inl ⟨by kernel_rfl, ?h9x33⟩) (by assumption) ?r9x33
                          case h9x33 => (intro w' hSw; obtain ⟨s1, s2⟩ := hSw; obtain ⟨r0', r1', r2', r3', r4', r5', r6'⟩ := box7 s2; go_simp; first | done | (with_reducible rfl) | (simp [*]; done))
                          try simp only [Act.put]
                          try simp only [List.setIfInBounds_toArray]
                          try simp only [List.set_cons_succ]
                          try simp only [List.set_cons_zero]
                          refine wpAnyH_take_at (i := 10) (v := ?v10x34) (some 182) rfl rfl (by kernel_rfl) (by kernel_rfl) (by kernel_rfl) (fun _ _ _ h => h) (Or.inl ⟨by kernel_rfl, ?h10x34⟩) (by assumption) ?r10x34
                          case h10x34 => (intro w' hSw; obtain ⟨s1, s2⟩ := hSw; obtain ⟨r0', r1', r2', r3', r4', r5', r6'⟩ := box7 s2; go_simp; first | done | (with_reducible rfl) | (simp [*]; done))
                          try simp only [Act.put]
                          try simp only [List.setIfInBounds_toArray]
                          try simp only [List.set_cons_succ]
                          try simp only [List.set_cons_zero]
                          refine wpAnyH_take_at (i := 11) (v := ?v11x35) (some 183) rfl rfl (by kernel_rfl) (by kernel_rfl) (by kernel_rfl) (fun _ _ _ h => h) (Or.inl ⟨by kernel_rfl, ?h11x35⟩) (by assumption) ?r11x35
                          case h11x35 => (intro w' hSw; obtain ⟨s1, s2⟩ := hSw; obtain ⟨r0', r1', r2', r3', r4', r5', r6'⟩ := box7 s2; go_simp; first | done | (with_reducible rfl) | (simp [*]; done))
                          try simp only [Act.put]
                          try simp only [List.setIfInBounds_toArray]
                          try simp only [List.set_cons_succ]
                          try simp only [List.set_cons_zero]
                          refine wpAnyH_take_at (i := 12) (v := ?v12x36) (some 184) rfl rfl (by kernel_rfl) (by kernel_rfl) (by kernel_rfl) (fun _ _ _ h => h) (Or.inl ⟨by kernel_rfl, ?h12x36⟩) (by assumption) ?r12x36
                          case h12x36 => (intro w' hSw; obtain ⟨s1, s2⟩ := hSw; obtain ⟨r0', r1', r2', r3', r4', r5', r6'⟩ := box7 s2; go_simp; first | done | (with_reducible rfl) | (simp [*]; done))
                          try simp only [Act.put]
                          try simp only [List.setIfInBounds_toArray]
                          try simp only [List.set_cons_succ]
                          try simp only [List.set_cons_zero]
                          refine wpAnyH_take_at (i := 13) (v := ?v13x37) (some 185) rfl rfl (by kernel_rfl) (by kernel_rfl) (by kernel_rfl) (fun _ _ _ h => h) (Or.inl ⟨by kernel_rfl, ?h13x37⟩) (by assumption) ?r13x37
                          case h13x37 => (intro w' hSw; obtain ⟨s1, s2⟩ := hSw; obtain ⟨r0', r1', r2', r3', r4', r5', r6'⟩ := box7 s2; go_simp; first | done | (with_reducible rfl) | (simp [*]; done))
                          try simp only [Act.put]
                          try simp only [List.setIfInBounds_toArray]
                          try simp only [List.set_cons_succ]
                          try simp only [List.set_cons_zero]
                          refine wpAnyH_take_at (i := 14) (v := ?v14x38) (some 186) rfl rfl (by kernel_rfl) (by kernel_rfl) (by kernel_rfl) (fun _ _ _ h => h) (Or.inl ⟨by kernel_rfl, ?h14x38⟩) (by assumption) ?r14x38
                          case h14x38 => (intro w' hSw; obtain ⟨s1, s2⟩ := hSw; obtain ⟨r0', r1', r2', r3', r4', r5', r6'⟩ := box7 s2; go_simp; first | done | (with_reducible rfl) | (simp [*]; done))
                          try simp only [Act.put]
                          try simp only [List.setIfInBounds_toArray]
                          try simp only [List.set_cons_succ]
                          try simp only [List.set_cons_zero]
                          refine wpAnyH_take_at (i := 15) (v := ?v15x39) (some 187) rfl rfl (by kernel_rfl) (by kernel_rfl) (by kernel_rfl) (fun _ _ _ h => h) (Or.inl ⟨by kernel_rfl, ?h15x39⟩) (by assumption) ?r15x39
                          case h15x39 => (intro w' hSw; obtain ⟨s1, s2⟩ := hSw; obtain ⟨r0', r1', r2', r3', r4', r5', r6'⟩ := box7 s2; go_simp; first | done | (with_reducible rfl) | (simp [*]; done))
                          try simp only [Act.put]
                          try simp only [List.setIfInBounds_toArray]
                          try simp only [List.set_cons_succ]
                          try simp only [List.set_cons_zero]
                          refine wpAnyH_take_at (i := 16) (v := ?v16x40) (some 188) rfl rfl (by kernel_rfl) (by kernel_rfl) (by kernel_rfl) (fun _ _ _ h => h) (Or.inl ⟨by kernel_rfl, ?h16x40⟩) (by assumption) ?r16x40
                          case h16x40 => (intro w' hSw; obtain ⟨s1, s2⟩ := hSw; obtain ⟨r0', r1', r2', r3', r4', r5', r6'⟩ := box7 s2; go_simp; first | done | (with_reducible rfl) | (simp [*]; done))
                          try simp only [Act.put]
                          try simp only [List.setIfInBounds_toArray]
                          try simp only [List.set_cons_succ]
                          try simp only [List.set_cons_zero]
                          refine wpAnyH_take_at (i := 17) (v := ?v17x41) (some 189) rfl rfl (by kernel_rfl) (by kernel_rfl) (by kernel_rfl) (fun _ _ _ h => h) (Or.inl ⟨by kernel_rfl, ?h17x41⟩) (by assumption) ?r17x41
                          case h17x41 => (intro w' hSw; obtain ⟨s1, s2⟩ := hSw; obtain ⟨r0', r1', r2', r3', r4', r5', r6'⟩ := box7 s2; go_simp; first | done | (with_reducible rfl) | (simp [*]; done))
                          try simp only [Act.put]
                          try simp only [List.setIfInBounds_toArray]
                          try simp only [List.set_cons_succ]
                          try simp only [List.set_cons_zero]
                          refine wpAnyH_take_at (i := 18) (v := ?v18x42) (some 190) rfl rfl (by kernel_rfl) (by kernel_rfl) (by kernel_rfl) (fun _ _ _ h => h) (Or.inl ⟨by kernel_rfl, ?h18x42⟩) (by assumption) ?r18x42
                          case h18x42 => (intro w' hSw; obtain ⟨s1, s2⟩ := hSw; obtain ⟨r0', r1', r2', r3', r4', r5', r6'⟩ := box7 s2; go_simp; first | done | (with_reducible rfl) | (simp [*]; done))
                          try simp only [Act.put]
                          try simp only [List.setIfInBounds_toArray]
                          try simp only [List.set_cons_succ]
                          try simp only [List.set_cons_zero]
                          refine wpAnyH_take_at (i := 19) (v := ?v19x43) (some 191) rfl rfl (by kernel_rfl) (by kernel_rfl) (by kernel_rfl) (fun _ _ _ h => h) (Or.inl ⟨by kernel_rfl, ?h19x43⟩) (by assumption) ?r19x43
                          case h19x43 => (intro w' hSw; obtain ⟨s1, s2⟩ := hSw; obtain ⟨r0', r1', r2', r3', r4', r5', r6'⟩ := box7 s2; go_simp; first | done | (with_reducible rfl) | (simp [*]; done))
                          try simp only [Act.put]
                          try simp only [List.setIfInBounds_toArray]
                          try simp only [List.set_cons_succ]
                          try simp only [List.set_cons_zero]
                          refine wpAnyH_take_at (i := 20) (v := ?v20x44) (some 192) rfl rfl (by kernel_rfl) (by kernel_rfl) (by kernel_rfl) (fun _ _ _ h => h) (Or.inl ⟨by kernel_rfl, ?h20x44⟩) (by assumption) ?r20x44
                          case h20x44 => (intro w' hSw; obtain ⟨s1, s2⟩ := hSw; obtain ⟨r0', r1', r2', r3', r4', r5', r6'⟩ := box7 s2; go_simp; first | done | (with_reducible rfl) | (simp [*]; done))
                          try simp only [Act.put]
                          try simp only [List.setIfInBounds_toArray]
                          try simp only [List.set_cons_succ]
                          try simp only [List.set_cons_zero]
                          refine wpAnyH_take_at (i := 21) (v := ?v21x45) (some 193) rfl rfl (by kernel_rfl) (by kernel_rfl) (by kernel_rfl) (fun _ _ _ h => h) (Or.inl ⟨by kernel_rfl, ?h21x45⟩) (by assumption) ?r21x45
                          case h21x45 => (intro w' hSw; obtain ⟨s1, s2⟩ := hSw; obtain ⟨r0', r1', r2', r3', r4', r5', r6'⟩ := box7 s2; go_simp; first | done | (with_reducible rfl) | (simp [*]; done))
                          try simp only [Act.put]
                          try simp only [List.setIfInBounds_toArray]
                          try simp only [List.set_cons_succ]
                          try simp only [List.set_cons_zero]
                          refine wpAnyH_take_at (i := 22) (v := ?v22x46) (some 194) rfl rfl (by kernel_rfl) (by kernel_rfl) (by kernel_rfl) (fun _ _ _ h => h) (Or.inl ⟨by kernel_rfl, ?h22x46⟩) (by assumption) ?r22x46
                          case h22x46 => (intro w' hSw; obtain ⟨s1, s2⟩ := hSw; obtain ⟨r0', r1', r2', r3', r4', r5', r6'⟩ := box7 s2; go_simp; first | done | (with_reducible rfl) | (simp [*]; done))
                          try simp only [Act.put]
                          try simp only [List.setIfInBounds_toArray]
                          try simp only [List.set_cons_succ]
                          try simp only [List.set_cons_zero]
                          refine wpAnyH_take_at (i := 23) (v := ?v23x47) (some 195) rfl rfl (by kernel_rfl) (by kernel_rfl) (by kernel_rfl) (fun _ _ _ h => h) (Or.inl ⟨by kernel_rfl, ?h23x47⟩) (by assumption) ?r23x47
                          case h23x47 => (intro w' hSw; obtain ⟨s1, s2⟩ := hSw; obtain ⟨r0', r1', r2', r3', r4', r5', r6'⟩ := box7 s2; go_simp; first | done | (with_reducible rfl) | (simp [*]; done))
                          try simp only [Act.put]
                          try simp only [List.setIfInBounds_toArray]
                          try simp only [List.set_cons_succ]
                          try simp only [List.set_cons_zero]
                          refine wpAnyH_take_at (i := 24) (v := ?v24x48) (some 27) rfl rfl (by kernel_rfl) (by kernel_rfl) (by kernel_rfl) (fun _ _ _ h => h) (Or.inl ⟨by kernel_rfl, ?h24x48⟩) (by assumption) ?r24x48
                          case h24x48 => (intro w' hSw; obtain ⟨s1, s2⟩ := hSw; obtain ⟨r0', r1', r2', r3', r4', r5', r6'⟩ := box7 s2; go_simp; first | done | (with_reducible rfl) | (simp [*]; done))
                          try simp only [Act.put]
                          try simp only [List.setIfInBounds_toArray]
                          try simp only [List.set_cons_succ]
                          try simp only [List.set_cons_zero]
                          refine wpAnyH_done (by kernel_rfl) ?_ _
                          go_wp2_with fail
                          go_meet
                          exact ⟨by first | rfl | simp [*], hb0⟩
                        case rest =>
                          obtain ⟨rfl, hb⟩ := hcut
                          obtain ⟨z5, hwx⟩ : ∃ x, x = wc := ⟨_, rfl⟩
                          subst hwx
                          have HB5 := Lib.hid (below_only HB4.out hb)
                          have r23 : z5.cell? ⟨g_r, 23, none⟩ = some (.int .i64 0) := by rw [row_cell (row_below H_r.out HB5.out)]; rw [← Hcd.out]; rfl
                          have zr : g_r < z5.heap.size := lt_of_heap (row_below H_r.out HB5.out)
                          clear hb cv2 Hrow_c
                          go_wp2_with fail
                          go_roundw
                          case rel => exact ⟨n + 1, by omega, by go_num, HB5.out⟩
                          case measure => simp [intOf]; omega
                      · skip
                        have g1 : ((8 * (n : Int)) == 64 * (kk : Int) + 24) = false := by simp; omega
                        have e1 : ((8 * (n : Int)) == ba + tp) = true := by simpa using h3
                        clear h3
                        have Hg1 := Lib.hid g1
                        go_cut [27] from 172 to 195 (fun v wx => v = .bool false ∧ Below z4.heap.size z4 wx)
                        case first =>
                          refine wp_region_held_drew (S := fun W' => W'.cell? ⟨b_v, o_v + n, none⟩ = some (.int .u64 f) ∧ W'.heap[g_c]? = some (.cells #[.int .u8 7, .int .u8 1, .int .u8 0, .int .u8 0, .int .i64 a0, .int .i64 b0, .int .i64 c0] 35 (0, 0))) (by kernel_rfl) (show z4.drew.cell? _ = _ ∧ z4.drew.heap[_]? = _ from ⟨cv2, Hrow_c.out⟩) ?_
                          intro hS
                          have hb0 : Below z4.heap.size z4 z4.drew := Below.drew (Below.refl _ _)
                          clear cv2
                          generalize z4.drew = v0 at hS hb0 ⊢
                          refine wpAnyH_take_at (i := 0) (v := ?v0x49) (some 172) rfl rfl (by kernel_rfl) (by kernel_rfl) (by kernel_rfl) (fun _ _ _ h => h) (Or.inl ⟨by kernel_rfl, ?h0x49⟩) (by assumption) ?r0x49
                          case h0x49 => (intro w' hSw; obtain ⟨s1, s2⟩ := hSw; obtain ⟨r0', r1', r2', r3', r4', r5', r6'⟩ := box7 s2; go_simp; first | done | (with_reducible rfl) | (simp [*]; done))
                          try simp only [Act.put]
                          try simp only [List.setIfInBounds_toArray]
                          try simp only [List.set_cons_succ]
                          try simp only [List.set_cons_zero]
                          refine wpAnyH_take_at (i := 1) (v := ?v1x50) (some 173) rfl rfl (by kernel_rfl) (by kernel_rfl) (by kernel_rfl) (fun _ _ _ h => h) (Or.inl ⟨by kernel_rfl, ?h1x50⟩) (by assumption) ?r1x50
                          case h1x50 => (intro w' hSw; obtain ⟨s1, s2⟩ := hSw; obtain ⟨r0', r1', r2', r3', r4', r5', r6'⟩ := box7 s2; go_simp; first | done | (with_reducible rfl) | (simp [*]; done))
                          try simp only [Act.put]
                          try simp only [List.setIfInBounds_toArray]
                          try simp only [List.set_cons_succ]
                          try simp only [List.set_cons_zero]
                          refine wpAnyH_take_at (i := 2) (v := ?v2x51) (some 174) rfl rfl (by kernel_rfl) (by kernel_rfl) (by kernel_rfl) (fun _ _ _ h => h) (Or.inl ⟨by kernel_rfl, ?h2x51⟩) (by assumption) ?r2x51
                          case h2x51 => (intro w' hSw; obtain ⟨s1, s2⟩ := hSw; obtain ⟨r0', r1', r2', r3', r4', r5', r6'⟩ := box7 s2; go_simp; first | done | (with_reducible rfl) | (simp [*]; done))
                          try simp only [Act.put]
                          try simp only [List.setIfInBounds_toArray]
                          try simp only [List.set_cons_succ]
                          try simp only [List.set_cons_zero]
                          refine wpAnyH_ready (rs := [3]) (by kernel_rfl) (by simp) ?_
                          refine AllReadyH.cons rfl (fun K hK => ?_) AllReadyH.nil
                          go_simp
                          refine (rplanAt_any 3 (kk : Int) _ (by decide) (by omega)).mono ?_
                          rintro e' v1 ⟨rfl, hv1⟩
                          subst hv1
                          go_simp
                          refine hK.out _ _ (hS) (fun hS => ?_)
                          clear hK K
                          try simp only [Act.put]
                          try simp only [List.setIfInBounds_toArray]
                          try simp only [List.set_cons_succ]
                          try simp only [List.set_cons_zero]
                          refine wpAnyH_take_at (i := 4) (v := ?v4x52) (some 176) rfl rfl (by kernel_rfl) (by kernel_rfl) (by kernel_rfl) (fun _ _ _ h => h) (Or.inl ⟨by kernel_rfl, ?h4x52⟩) (by assumption) ?r4x52
                          case h4x52 => (intro w' hSw; obtain ⟨s1, s2⟩ := hSw; obtain ⟨r0', r1', r2', r3', r4', r5', r6'⟩ := box7 s2; go_simp; first | done | (with_reducible rfl) | (simp [*]; done))
                          try simp only [Act.put]
                          try simp only [List.setIfInBounds_toArray]
                          try simp only [List.set_cons_succ]
                          try simp only [List.set_cons_zero]
                          refine wpAnyH_take_at (i := 5) (v := ?v5x53) (some 177) rfl rfl (by kernel_rfl) (by kernel_rfl) (by kernel_rfl) (fun _ _ _ h => h) (Or.inl ⟨by kernel_rfl, ?h5x53⟩) (by assumption) ?r5x53
                          case h5x53 => (intro w' hSw; obtain ⟨s1, s2⟩ := hSw; obtain ⟨r0', r1', r2', r3', r4', r5', r6'⟩ := box7 s2; go_simp; first | done | (with_reducible rfl) | (simp [*]; done))
                          try simp only [Act.put]
                          try simp only [List.setIfInBounds_toArray]
                          try simp only [List.set_cons_succ]
                          try simp only [List.set_cons_zero]
                          refine wpAnyH_take_at (i := 6) (v := undef) (some 178) rfl rfl (by kernel_rfl) (by kernel_rfl) (by kernel_rfl) (fun _ _ _ h => h) (Or.inr ⟨by kernel_rfl, rfl⟩) (by assumption) ?_
                          try simp only [Act.put]
                          try simp only [List.setIfInBounds_toArray]
                          try simp only [List.set_cons_succ]
                          try simp only [List.set_cons_zero]
                          refine wpAnyH_take_at (i := 7) (v := undef) (some 179) rfl rfl (by kernel_rfl) (by kernel_rfl) (by kernel_rfl) (fun _ _ _ h => h) (Or.inr ⟨by kernel_rfl, rfl⟩) (by assumption) ?_
                          try simp only [Act.put]
                          try simp only [List.setIfInBounds_toArray]
                          try simp only [List.set_cons_succ]
                          try simp only [List.set_cons_zero]
                          refine wpAnyH_take_at (i := 8) (v := undef) (some 180) rfl rfl (by kernel_rfl) (by kernel_rfl) (by kernel_rfl) (fun _ _ _ h => h) (Or.inr ⟨by kernel_rfl, rfl⟩) (by assumption) ?_
                          try simp only [Act.put]
                          try simp only [List.setIfInBounds_toArray]
                          try simp only [List.set_cons_succ]
                          try simp only [List.set_cons_zero]
                          refine wpAnyH_take_at (i := 9) (v := undef) (some 181) rfl rfl (by kernel_rfl) (by kernel_rfl) (by kernel_rfl) (fun _ _ _ h => h) (Or.inr ⟨by kernel_rfl, rfl⟩) (by assumption) ?_
                          try simp only [Act.put]
                          try simp only [List.setIfInBounds_toArray]
                          try simp only [List.set_cons_succ]
                          try simp only [List.set_cons_zero]
                          refine wpAnyH_take_at (i := 10) (v := undef) (some 182) rfl rfl (by kernel_rfl) (by kernel_rfl) (by kernel_rfl) (fun _ _ _ h => h) (Or.inr ⟨by kernel_rfl, rfl⟩) (by assumption) ?_
                          try simp only [Act.put]
                          try simp only [List.setIfInBounds_toArray]
                          try simp only [List.set_cons_succ]
                          try simp only [List.set_cons_zero]
                          refine wpAnyH_take_at (i := 11) (v := undef) (some 183) rfl rfl (by kernel_rfl) (by kernel_rfl) (by kernel_rfl) (fun _ _ _ h => h) (Or.inr ⟨by kernel_rfl, rfl⟩) (by assumption) ?_
                          try simp only [Act.put]
                          try simp only [List.setIfInBounds_toArray]
                          try simp only [List.set_cons_succ]
                          try simp only [List.set_cons_zero]
                          refine wpAnyH_take_at (i := 12) (v := undef) (some 184) rfl rfl (by kernel_rfl) (by kernel_rfl) (by kernel_rfl) (fun _ _ _ h => h) (Or.inr ⟨by kernel_rfl, rfl⟩) (by assumption) ?_
                          try simp only [Act.put]
                          try simp only [List.setIfInBounds_toArray]
                          try simp only [List.set_cons_succ]
                          try simp only [List.set_cons_zero]
                          refine wpAnyH_take_at (i := 13) (v := undef) (some 185) rfl rfl (by kernel_rfl) (by kernel_rfl) (by kernel_rfl) (fun _ _ _ h => h) (Or.inr ⟨by kernel_rfl, rfl⟩) (by assumption) ?_
                          try simp only [Act.put]
                          try simp only [List.setIfInBounds_toArray]
                          try simp only [List.set_cons_succ]
                          try simp only [List.set_cons_zero]
                          refine wpAnyH_take_at (i := 14) (v := undef) (some 186) rfl rfl (by kernel_rfl) (by kernel_rfl) (by kernel_rfl) (fun _ _ _ h => h) (Or.inr ⟨by kernel_rfl, rfl⟩) (by assumption) ?_
                          try simp only [Act.put]
                          try simp only [List.setIfInBounds_toArray]
                          try simp only [List.set_cons_succ]
                          try simp only [List.set_cons_zero]
                          refine wpAnyH_take_at (i := 15) (v := undef) (some 187) rfl rfl (by kernel_rfl) (by kernel_rfl) (by kernel_rfl) (fun _ _ _ h => h) (Or.inr ⟨by kernel_rfl, rfl⟩) (by assumption) ?_
                          try simp only [Act.put]
                          try simp only [List.setIfInBounds_toArray]
                          try simp only [List.set_cons_succ]
                          try simp only [List.set_cons_zero]
                          refine wpAnyH_take_at (i := 16) (v := undef) (some 188) rfl rfl (by kernel_rfl) (by kernel_rfl) (by kernel_rfl) (fun _ _ _ h => h) (Or.inr ⟨by kernel_rfl, rfl⟩) (by assumption) ?_
                          try simp only [Act.put]
                          try simp only [List.setIfInBounds_toArray]
                          try simp only [List.set_cons_succ]
                          try simp only [List.set_cons_zero]
                          refine wpAnyH_take_at (i := 17) (v := undef) (some 189) rfl rfl (by kernel_rfl) (by kernel_rfl) (by kernel_rfl) (fun _ _ _ h => h) (Or.inr ⟨by kernel_rfl, rfl⟩) (by assumption) ?_
                          try simp only [Act.put]
                          try simp only [List.setIfInBounds_toArray]
                          try simp only [List.set_cons_succ]
                          try simp only [List.set_cons_zero]
                          refine wpAnyH_take_at (i := 18) (v := undef) (some 190) rfl rfl (by kernel_rfl) (by kernel_rfl) (by kernel_rfl) (fun _ _ _ h => h) (Or.inr ⟨by kernel_rfl, rfl⟩) (by assumption) ?_
                          try simp only [Act.put]
                          try simp only [List.setIfInBounds_toArray]
                          try simp only [List.set_cons_succ]
                          try simp only [List.set_cons_zero]
                          refine wpAnyH_take_at (i := 19) (v := undef) (some 191) rfl rfl (by kernel_rfl) (by kernel_rfl) (by kernel_rfl) (fun _ _ _ h => h) (Or.inr ⟨by kernel_rfl, rfl⟩) (by assumption) ?_
                          try simp only [Act.put]
                          try simp only [List.setIfInBounds_toArray]
                          try simp only [List.set_cons_succ]
                          try simp only [List.set_cons_zero]
                          refine wpAnyH_take_at (i := 20) (v := undef) (some 192) rfl rfl (by kernel_rfl) (by kernel_rfl) (by kernel_rfl) (fun _ _ _ h => h) (Or.inr ⟨by kernel_rfl, rfl⟩) (by assumption) ?_
                          try simp only [Act.put]
                          try simp only [List.setIfInBounds_toArray]
                          try simp only [List.set_cons_succ]
                          try simp only [List.set_cons_zero]
                          refine wpAnyH_take_at (i := 21) (v := undef) (some 193) rfl rfl (by kernel_rfl) (by kernel_rfl) (by kernel_rfl) (fun _ _ _ h => h) (Or.inr ⟨by kernel_rfl, rfl⟩) (by assumption) ?_
                          try simp only [Act.put]
                          try simp only [List.setIfInBounds_toArray]
                          try simp only [List.set_cons_succ]
                          try simp only [List.set_cons_zero]
                          refine wpAnyH_take_at (i := 22) (v := undef) (some 194) rfl rfl (by kernel_rfl) (by kernel_rfl) (by kernel_rfl) (fun _ _ _ h => h) (Or.inr ⟨by kernel_rfl, rfl⟩) (by assumption) ?_
                          try simp only [Act.put]
                          try simp only [List.setIfInBounds_toArray]
                          try simp only [List.set_cons_succ]
                          try simp only [List.set_cons_zero]
                          refine wpAnyH_take_at (i := 23) (v := ?v23x54) (some 195) rfl rfl (by kernel_rfl) (by kernel_rfl) (by kernel_rfl) (fun _ _ _ h => h) (Or.inl ⟨by kernel_rfl, ?h23x54⟩) (by assumption) ?r23x54
                          case h23x54 => (intro w' hSw; obtain ⟨s1, s2⟩ := hSw; obtain ⟨r0', r1', r2', r3', r4', r5', r6'⟩ := box7 s2; go_simp; first | done | (with_reducible rfl) | (simp [*]; done))
                          try simp only [Act.put]
                          try simp only [List.setIfInBounds_toArray]
                          try simp only [List.set_cons_succ]
                          try simp only [List.set_cons_zero]
                          refine wpAnyH_take_at (i := 24) (v := ?v24x55) (some 27) rfl rfl (by kernel_rfl) (by kernel_rfl) (by kernel_rfl) (fun _ _ _ h => h) (Or.inl ⟨by kernel_rfl, ?h24x55⟩) (by assumption) ?r24x55
                          case h24x55 => (intro w' hSw; obtain ⟨s1, s2⟩ := hSw; obtain ⟨r0', r1', r2', r3', r4', r5', r6'⟩ := box7 s2; go_simp; first | done | (with_reducible rfl) | (simp [*]; done))
                          try simp only [Act.put]
                          try simp only [List.setIfInBounds_toArray]
                          try simp only [List.set_cons_succ]
                          try simp only [List.set_cons_zero]
                          refine wpAnyH_done (by kernel_rfl) ?_ _
                          go_wp2_with fail
                          go_meet
                          exact ⟨by first | rfl | simp [*], hb0⟩
                        case rest =>
                          obtain ⟨rfl, hb⟩ := hcut
                          obtain ⟨z5, hwx⟩ : ∃ x, x = wc := ⟨_, rfl⟩
                          subst hwx
                          have HB5 := Lib.hid (below_only HB4.out hb)
                          have r23 : z5.cell? ⟨g_r, 23, none⟩ = some (.int .i64 0) := by rw [row_cell (row_below H_r.out HB5.out)]; rw [← Hcd.out]; rfl
                          have zr : g_r < z5.heap.size := lt_of_heap (row_below H_r.out HB5.out)
                          clear hb cv2 Hrow_c
                          go_wp2_with fail
                          go_roundw
                          case rel => exact ⟨n + 1, by omega, by go_num, HB5.out⟩
                          case measure => simp [intOf]; omega
                      · skip
                        have g1 : ((8 * (n : Int)) == 64 * (kk : Int) + 24) = false := by simp; omega
                        have e1 : ((8 * (n : Int)) == ba + tp) = false := by simp; omega
                        have e2 : ((8 * (n : Int)) == ba + tp + 8) = true := by simpa using h3
                        clear h3
                        have Hg1 := Lib.hid g1
                        go_cut [27] from 172 to 195 (fun v wx => v = .bool false ∧ Below z4.heap.size z4 wx)
                        case first =>
                          refine wp_region_held_drew (S := fun W' => W'.cell? ⟨b_v, o_v + n, none⟩ = some (.int .u64 f) ∧ W'.heap[g_c]? = some (.cells #[.int .u8 7, .int .u8 1, .int .u8 0, .int .u8 0, .int .i64 a0, .int .i64 b0, .int .i64 c0] 35 (0, 0))) (by kernel_rfl) (show z4.drew.cell? _ = _ ∧ z4.drew.heap[_]? = _ from ⟨cv2, Hrow_c.out⟩) ?_
                          intro hS
                          have hb0 : Below z4.heap.size z4 z4.drew := Below.drew (Below.refl _ _)
                          clear cv2
                          generalize z4.drew = v0 at hS hb0 ⊢
                          refine wpAnyH_take_at (i := 0) (v := ?v0x56) (some 172) rfl rfl (by kernel_rfl) (by kernel_rfl) (by kernel_rfl) (fun _ _ _ h => h) (Or.inl ⟨by kernel_rfl, ?h0x56⟩) (by assumption) ?r0x56
                          case h0x56 => (intro w' hSw; obtain ⟨s1, s2⟩ := hSw; obtain ⟨r0', r1', r2', r3', r4', r5', r6'⟩ := box7 s2; go_simp; first | done | (with_reducible rfl) | (simp [*]; done))
                          try simp only [Act.put]
                          try simp only [List.setIfInBounds_toArray]
                          try simp only [List.set_cons_succ]
                          try simp only [List.set_cons_zero]
                          refine wpAnyH_take_at (i := 1) (v := ?v1x57) (some 173) rfl rfl (by kernel_rfl) (by kernel_rfl) (by kernel_rfl) (fun _ _ _ h => h) (Or.inl ⟨by kernel_rfl, ?h1x57⟩) (by assumption) ?r1x57
                          case h1x57 => (intro w' hSw; obtain ⟨s1, s2⟩ := hSw; obtain ⟨r0', r1', r2', r3', r4', r5', r6'⟩ := box7 s2; go_simp; first | done | (with_reducible rfl) | (simp [*]; done))
                          try simp only [Act.put]
                          try simp only [List.setIfInBounds_toArray]
                          try simp only [List.set_cons_succ]
                          try simp only [List.set_cons_zero]
                          refine wpAnyH_take_at (i := 2) (v := ?v2x58) (some 174) rfl rfl (by kernel_rfl) (by kernel_rfl) (by kernel_rfl) (fun _ _ _ h => h) (Or.inl ⟨by kernel_rfl, ?h2x58⟩) (by assumption) ?r2x58
                          case h2x58 => (intro w' hSw; obtain ⟨s1, s2⟩ := hSw; obtain ⟨r0', r1', r2', r3', r4', r5', r6'⟩ := box7 s2; go_simp; first | done | (with_reducible rfl) | (simp [*]; done))
                          try simp only [Act.put]
                          try simp only [List.setIfInBounds_toArray]
                          try simp only [List.set_cons_succ]
                          try simp only [List.set_cons_zero]
                          refine wpAnyH_ready (rs := [3]) (by kernel_rfl) (by simp) ?_
                          refine AllReadyH.cons rfl (fun K hK => ?_) AllReadyH.nil
                          go_simp
                          refine (rplanAt_any 3 (kk : Int) _ (by decide) (by omega)).mono ?_
                          rintro e' v1 ⟨rfl, hv1⟩
                          subst hv1
                          go_simp
                          refine hK.out _ _ (hS) (fun hS => ?_)
                          clear hK K
                          try simp only [Act.put]
                          try simp only [List.setIfInBounds_toArray]
                          try simp only [List.set_cons_succ]
                          try simp only [List.set_cons_zero]
                          refine wpAnyH_take_at (i := 4) (v := ?v4x59) (some 176) rfl rfl (by kernel_rfl) (by kernel_rfl) (by kernel_rfl) (fun _ _ _ h => h) (Or.inl ⟨by kernel_rfl, ?h4x59⟩) (by assumption) ?r4x59
                          case h4x59 => (intro w' hSw; obtain ⟨s1, s2⟩ := hSw; obtain ⟨r0', r1', r2', r3', r4', r5', r6'⟩ := box7 s2; go_simp; first | done | (with_reducible rfl) | (simp [*]; done))
                          try simp only [Act.put]
                          try simp only [List.setIfInBounds_toArray]
                          try simp only [List.set_cons_succ]
                          try simp only [List.set_cons_zero]
                          refine wpAnyH_take_at (i := 5) (v := ?v5x60) (some 177) rfl rfl (by kernel_rfl) (by kernel_rfl) (by kernel_rfl) (fun _ _ _ h => h) (Or.inl ⟨by kernel_rfl, ?h5x60⟩) (by assumption) ?r5x60
                          case h5x60 => (intro w' hSw; obtain ⟨s1, s2⟩ := hSw; obtain ⟨r0', r1', r2', r3', r4', r5', r6'⟩ := box7 s2; go_simp; first | done | (with_reducible rfl) | (simp [*]; done))
                          try simp only [Act.put]
                          try simp only [List.setIfInBounds_toArray]
                          try simp only [List.set_cons_succ]
                          try simp only [List.set_cons_zero]
                          refine wpAnyH_take_at (i := 6) (v := undef) (some 178) rfl rfl (by kernel_rfl) (by kernel_rfl) (by kernel_rfl) (fun _ _ _ h => h) (Or.inr ⟨by kernel_rfl, rfl⟩) (by assumption) ?_
                          try simp only [Act.put]
                          try simp only [List.setIfInBounds_toArray]
                          try simp only [List.set_cons_succ]
                          try simp only [List.set_cons_zero]
                          refine wpAnyH_take_at (i := 7) (v := undef) (some 179) rfl rfl (by kernel_rfl) (by kernel_rfl) (by kernel_rfl) (fun _ _ _ h => h) (Or.inr ⟨by kernel_rfl, rfl⟩) (by assumption) ?_
                          try simp only [Act.put]
                          try simp only [List.setIfInBounds_toArray]
                          try simp only [List.set_cons_succ]
                          try simp only [List.set_cons_zero]
                          refine wpAnyH_take_at (i := 8) (v := undef) (some 180) rfl rfl (by kernel_rfl) (by kernel_rfl) (by kernel_rfl) (fun _ _ _ h => h) (Or.inr ⟨by kernel_rfl, rfl⟩) (by assumption) ?_
                          try simp only [Act.put]
                          try simp only [List.setIfInBounds_toArray]
                          try simp only [List.set_cons_succ]
                          try simp only [List.set_cons_zero]
                          refine wpAnyH_take_at (i := 9) (v := undef) (some 181) rfl rfl (by kernel_rfl) (by kernel_rfl) (by kernel_rfl) (fun _ _ _ h => h) (Or.inr ⟨by kernel_rfl, rfl⟩) (by assumption) ?_
                          try simp only [Act.put]
                          try simp only [List.setIfInBounds_toArray]
                          try simp only [List.set_cons_succ]
                          try simp only [List.set_cons_zero]
                          refine wpAnyH_take_at (i := 10) (v := undef) (some 182) rfl rfl (by kernel_rfl) (by kernel_rfl) (by kernel_rfl) (fun _ _ _ h => h) (Or.inr ⟨by kernel_rfl, rfl⟩) (by assumption) ?_
                          try simp only [Act.put]
                          try simp only [List.setIfInBounds_toArray]
                          try simp only [List.set_cons_succ]
                          try simp only [List.set_cons_zero]
                          refine wpAnyH_take_at (i := 11) (v := undef) (some 183) rfl rfl (by kernel_rfl) (by kernel_rfl) (by kernel_rfl) (fun _ _ _ h => h) (Or.inr ⟨by kernel_rfl, rfl⟩) (by assumption) ?_
                          try simp only [Act.put]
                          try simp only [List.setIfInBounds_toArray]
                          try simp only [List.set_cons_succ]
                          try simp only [List.set_cons_zero]
                          refine wpAnyH_take_at (i := 12) (v := undef) (some 184) rfl rfl (by kernel_rfl) (by kernel_rfl) (by kernel_rfl) (fun _ _ _ h => h) (Or.inr ⟨by kernel_rfl, rfl⟩) (by assumption) ?_
                          try simp only [Act.put]
                          try simp only [List.setIfInBounds_toArray]
                          try simp only [List.set_cons_succ]
                          try simp only [List.set_cons_zero]
                          refine wpAnyH_take_at (i := 13) (v := undef) (some 185) rfl rfl (by kernel_rfl) (by kernel_rfl) (by kernel_rfl) (fun _ _ _ h => h) (Or.inr ⟨by kernel_rfl, rfl⟩) (by assumption) ?_
                          try simp only [Act.put]
                          try simp only [List.setIfInBounds_toArray]
                          try simp only [List.set_cons_succ]
                          try simp only [List.set_cons_zero]
                          refine wpAnyH_take_at (i := 14) (v := undef) (some 186) rfl rfl (by kernel_rfl) (by kernel_rfl) (by kernel_rfl) (fun _ _ _ h => h) (Or.inr ⟨by kernel_rfl, rfl⟩) (by assumption) ?_
                          try simp only [Act.put]
                          try simp only [List.setIfInBounds_toArray]
                          try simp only [List.set_cons_succ]
                          try simp only [List.set_cons_zero]
                          refine wpAnyH_take_at (i := 15) (v := undef) (some 187) rfl rfl (by kernel_rfl) (by kernel_rfl) (by kernel_rfl) (fun _ _ _ h => h) (Or.inr ⟨by kernel_rfl, rfl⟩) (by assumption) ?_
                          try simp only [Act.put]
                          try simp only [List.setIfInBounds_toArray]
                          try simp only [List.set_cons_succ]
                          try simp only [List.set_cons_zero]
                          refine wpAnyH_take_at (i := 16) (v := undef) (some 188) rfl rfl (by kernel_rfl) (by kernel_rfl) (by kernel_rfl) (fun _ _ _ h => h) (Or.inr ⟨by kernel_rfl, rfl⟩) (by assumption) ?_
                          try simp only [Act.put]
                          try simp only [List.setIfInBounds_toArray]
                          try simp only [List.set_cons_succ]
                          try simp only [List.set_cons_zero]
                          refine wpAnyH_take_at (i := 17) (v := undef) (some 189) rfl rfl (by kernel_rfl) (by kernel_rfl) (by kernel_rfl) (fun _ _ _ h => h) (Or.inr ⟨by kernel_rfl, rfl⟩) (by assumption) ?_
                          try simp only [Act.put]
                          try simp only [List.setIfInBounds_toArray]
                          try simp only [List.set_cons_succ]
                          try simp only [List.set_cons_zero]
                          refine wpAnyH_take_at (i := 18) (v := undef) (some 190) rfl rfl (by kernel_rfl) (by kernel_rfl) (by kernel_rfl) (fun _ _ _ h => h) (Or.inr ⟨by kernel_rfl, rfl⟩) (by assumption) ?_
                          try simp only [Act.put]
                          try simp only [List.setIfInBounds_toArray]
                          try simp only [List.set_cons_succ]
                          try simp only [List.set_cons_zero]
                          refine wpAnyH_take_at (i := 19) (v := undef) (some 191) rfl rfl (by kernel_rfl) (by kernel_rfl) (by kernel_rfl) (fun _ _ _ h => h) (Or.inr ⟨by kernel_rfl, rfl⟩) (by assumption) ?_
                          try simp only [Act.put]
                          try simp only [List.setIfInBounds_toArray]
                          try simp only [List.set_cons_succ]
                          try simp only [List.set_cons_zero]
                          refine wpAnyH_take_at (i := 20) (v := undef) (some 192) rfl rfl (by kernel_rfl) (by kernel_rfl) (by kernel_rfl) (fun _ _ _ h => h) (Or.inr ⟨by kernel_rfl, rfl⟩) (by assumption) ?_
                          try simp only [Act.put]
                          try simp only [List.setIfInBounds_toArray]
                          try simp only [List.set_cons_succ]
                          try simp only [List.set_cons_zero]
                          refine wpAnyH_take_at (i := 21) (v := undef) (some 193) rfl rfl (by kernel_rfl) (by kernel_rfl) (by kernel_rfl) (fun _ _ _ h => h) (Or.inr ⟨by kernel_rfl, rfl⟩) (by assumption) ?_
                          try simp only [Act.put]
                          try simp only [List.setIfInBounds_toArray]
                          try simp only [List.set_cons_succ]
                          try simp only [List.set_cons_zero]
                          refine wpAnyH_take_at (i := 22) (v := undef) (some 194) rfl rfl (by kernel_rfl) (by kernel_rfl) (by kernel_rfl) (fun _ _ _ h => h) (Or.inr ⟨by kernel_rfl, rfl⟩) (by assumption) ?_
                          try simp only [Act.put]
                          try simp only [List.setIfInBounds_toArray]
                          try simp only [List.set_cons_succ]
                          try simp only [List.set_cons_zero]
                          refine wpAnyH_take_at (i := 23) (v := ?v23x61) (some 195) rfl rfl (by kernel_rfl) (by kernel_rfl) (by kernel_rfl) (fun _ _ _ h => h) (Or.inl ⟨by kernel_rfl, ?h23x61⟩) (by assumption) ?r23x61
                          case h23x61 => (intro w' hSw; obtain ⟨s1, s2⟩ := hSw; obtain ⟨r0', r1', r2', r3', r4', r5', r6'⟩ := box7 s2; go_simp; first | done | (with_reducible rfl) | (simp [*]; done))
                          try simp only [Act.put]
                          try simp only [List.setIfInBounds_toArray]
                          try simp only [List.set_cons_succ]
                          try simp only [List.set_cons_zero]
                          refine wpAnyH_take_at (i := 24) (v := ?v24x62) (some 27) rfl rfl (by kernel_rfl) (by kernel_rfl) (by kernel_rfl) (fun _ _ _ h => h) (Or.inl ⟨by kernel_rfl, ?h24x62⟩) (by assumption) ?r24x62
                          case h24x62 => (intro w' hSw; obtain ⟨s1, s2⟩ := hSw; obtain ⟨r0', r1', r2', r3', r4', r5', r6'⟩ := box7 s2; go_simp; first | done | (with_reducible rfl) | (simp [*]; done))
                          try simp only [Act.put]
                          try simp only [List.setIfInBounds_toArray]
                          try simp only [List.set_cons_succ]
                          try simp only [List.set_cons_zero]
                          refine wpAnyH_done (by kernel_rfl) ?_ _
                          go_wp2_with fail
                          go_meet
                          exact ⟨by first | rfl | simp [*], hb0⟩
                        case rest =>
                          obtain ⟨rfl, hb⟩ := hcut
                          obtain ⟨z5, hwx⟩ : ∃ x, x = wc := ⟨_, rfl⟩
                          subst hwx
                          have HB5 := Lib.hid (below_only HB4.out hb)
                          have r23 : z5.cell? ⟨g_r, 23, none⟩ = some (.int .i64 0) := by rw [row_cell (row_below H_r.out HB5.out)]; rw [← Hcd.out]; rfl
                          have zr : g_r < z5.heap.size := lt_of_heap (row_below H_r.out HB5.out)
                          clear hb cv2 Hrow_c
                          go_wp2_with fail
                          go_roundw
                          case rel => exact ⟨n + 1, by omega, by go_num, HB5.out⟩
                          case measure => simp [intOf]; omega
                · obtain rfl : n = 81 := by omega
                  go_wp2_with fail
                  obtain ⟨t', hst'⟩ := Hst.out
                  go_roundw
                  case rel => exact ⟨i + 1, W4, t', by have := Hlt.out; omega, by omega, by go_num, hst', HT.out.below HBz.out, row_below H_p.out HBz.out, below_only B.out HBz.out⟩
                  case measure => simp [intOf]; omega
    · by_cases hl : i < L.length
      · have h100 : ¬ i < 20 := fun h => hlt ⟨hl, h⟩
        have B2 := B.out
        clear B hlt
        go_wp2_with fail
        go_ret
        exact ⟨rfl, B2⟩
      · have B2 := B.out
        clear B hlt
        go_wp2_with fail
        go_ret
        exact ⟨rfl, B2⟩

end Go.Proofs.Ytoadddfiibeenaa
