/- Layer 15: the walk of TakeShares. (Printed.) -/
import Derived.Test.YtoadddfiibeenaaShare
namespace Go.Proofs.Ytoadddfiibeenaa
open Go.RowKit
set_option linter.unusedVariables false
set_option linter.unusedSimpArgs false

set_option maxRecDepth 100000 in
set_option maxHeartbeats 16000000 in
theorem takeShares_walk (size ep : Int) (A : Option Addr) (cp : Nat) (L : List Tkk) (tn : Int) (w : World) (z0 : (Lit.int .u8 size).wf = true) (z1 : (Lit.int .u16 ep).wf = true) (hc0 : L.length ≤ cp ∧ cp ≤ maxLen ∧ Cells w A (L.flatMap tkCells) ∧ ∀ t ∈ L, TkOk t) (htn : 0 ≤ tn ∧ tn ≤ 18446744073709551615) :
    Calls Try.prog 5 #[.int .u8 size, .int .u16 ep, .agg #[.slice A L.length cp, .int .u64 tn]] w fun r w' => r = .returned (.bool true) ∧ Below w.heap.size w w' := by
  obtain ⟨hLk, hkm, hL, hq⟩ := hc0
  have hlm : L.length ≤ 9223372036854775807 := by unfold maxLen at hkm; omega
  have HL0 := Lib.hid hL
  have Hq := Lib.hid hq
  obtain ⟨tn0, tn1⟩ := htn
  clear hL hq hkm
  have hsz0 := wf_u8 z0
  have hep0 := wf_u16 z1
  obtain ⟨se0, se1⟩ := hsz0
  obtain ⟨ep0, ep1⟩ := hep0
  have HBo : Hid (BothOk 2 8 (8 + size) ep) := Lib.hid ⟨by decide, by decide, by decide, by omega, by omega⟩
  have HS0 := Lib.hid (st2_both HBo.out)
  have HPl := Lib.hid HBo.out.plan
  clear z0 z1
  go_enter Try.func5, Try.ntmps5
  have B := Lib.hid (Below.refl w.heap.size w)
  go_upto_region 1 with fail
  refine one_row w _ _ ?_
  intro w0 hr hb
  have hlB := B.out.size
  have hsz := (hb).size
  replace B := Lib.hid (below_only B.out hb)
  clear hb hsz
  have H_cs := Lib.hid (show w0.heap[w.heap.size]? = some (.cells #[.slice A L.length cp, .int .u64 tn] 26 (0, 0)) from hr)
  clear hr
  obtain ⟨g_cs, hg_cs⟩ : ∃ x, x = w.heap.size := ⟨_, rfl⟩
  rw [← hg_cs] at H_cs ⊢
  have L_cs : Hid (w.heap.size ≤ g_cs) := Lib.hid (by omega)
  clear hg_cs hlB
  go_wp2_with fail
  refine (shown15_any _).mono ?_
  rintro r w1 ⟨rfl, hb⟩
  have hsz := (hb).size
  replace H_cs := Lib.hid (row_below H_cs.out hb)
  replace B := Lib.hid (below_only B.out hb)
  clear hb hsz
  go_upto_region 3 with fail
  refine one_row w1 _ _ ?_
  intro w2 hr hb
  have hlB := B.out.size
  have hl_cs := lt_of_heap H_cs.out
  have hsz := (hb).size
  replace H_cs := Lib.hid (row_below H_cs.out hb)
  replace B := Lib.hid (below_only B.out hb)
  clear hb hsz
  have H_p := Lib.hid (show w2.heap[w1.heap.size]? = some (.cells #[.int .i64 2, .int .i64 2, .int .i64 8, .int .i64 320] 29 (0, 0)) from hr)
  clear hr
  obtain ⟨g_p, hg_p⟩ : ∃ x, x = w1.heap.size := ⟨_, rfl⟩
  rw [← hg_p] at H_p ⊢
  have M_cs_p : Hid (g_cs ≠ g_p) := Lib.hid (by omega)
  have M_p_cs : Hid (g_p ≠ g_cs) := Lib.hid (by omega)
  clear hl_cs
  have L_p : Hid (w.heap.size ≤ g_p) := Lib.hid (by omega)
  clear hg_p hlB
  obtain ⟨p_0, p_1, p_2, p_3, p_f0, p_f1, p_f2, p_f3⟩ := box4 H_p.out
  have z_p := lt_of_heap H_p.out
  go_wp2_with fail
  clear p_0 p_1 p_2 p_3 p_f0 p_f1 p_f2 p_f3 z_p
  refine (both_any 2 8 (8 + size) ep _ HBo.out).mono ?_
  rintro r w3 ⟨p, b, X, q, d, rfl, hT, hb⟩
  have HT0 := Lib.hid hT
  have hlp := lt_of_heap H_p.out
  have hlc := lt_of_heap H_cs.out
  have HBB := Lib.hid B.out.size
  clear hT
  obtain ⟨wl, hwl⟩ : ∃ x, x = w2.heap.size := ⟨_, rfl⟩
  rw [← hwl] at hlp hlc HT0 HBB
  have hsz := (hb).size
  replace H_cs := Lib.hid (row_below H_cs.out hb)
  replace H_p := Lib.hid (row_below H_p.out hb)
  replace B := Lib.hid (below_only B.out hb)
  clear hb hsz
  have N_p : Hid (g_p ∉ [p, b, X, q, d]) := Lib.hid (HT0.out.elder hlp)
  have N_cs : Hid (g_cs ∉ [p, b, X, q, d]) := Lib.hid (HT0.out.elder hlc)
  have HT : Hid (TwoW w.heap.size w3 p b X q d 2 2 8 320 (bothWs 8 (8 + size) ep) (bothWs 8 (8 + size) ep)) := Lib.hid { HT0.out with low := by have := HT0.out.low; have := HBB.out; omega }
  clear HT0 hlp hlc hwl HBB
  obtain ⟨WS, HWS⟩ : ∃ x, Hid (bothWs 8 (8 + size) ep = x) := ⟨_, Lib.hid rfl⟩
  rw [HWS.out] at HT HS0
  obtain ⟨u, Hu⟩ : ∃ x, Hid (up8 (8 + size) = x) := ⟨_, Lib.hid rfl⟩
  have Hub : Hid (8 ≤ u ∧ u ≤ 264) := Lib.hid (by rw [← Hu.out]; unfold up8; omega)
  rw [Hu.out] at HS0
  have HB1 : Hid (BlkOk 2 WS 1 (upC ep) 136 u 0) := Lib.hid (HS0.out.blk true)
  obtain ⟨ub0, ub1⟩ := Hub.out
  have HUL : Hid (WS.length = 57) := Lib.hid HS0.out.len
  go_wp2_with fail
  refine (rallGet_any X q d 2 2 8 320 WS 9 136 1 1 _ HT.out.x HB1.out.blk.ba (by decide) (by decide) (by decide)).mono ?_
  rintro r w4 ⟨rfl, hb⟩
  have hsz := (hb).size
  replace H_cs := Lib.hid (row_below H_cs.out hb)
  replace H_p := Lib.hid (row_below H_p.out hb)
  replace HT := Lib.hid (HT.out.below hb)
  replace B := Lib.hid (below_only B.out hb)
  clear hb hsz
  go_wp2_with fail
  refine (rallGet_any X q d 2 2 8 320 WS 10 u 2 1 _ HT.out.x HB1.out.blk.bu (by decide) (by decide) (by decide)).mono ?_
  rintro r w5 ⟨rfl, hb⟩
  have hsz := (hb).size
  replace H_cs := Lib.hid (row_below H_cs.out hb)
  replace H_p := Lib.hid (row_below H_p.out hb)
  replace HT := Lib.hid (HT.out.below hb)
  replace B := Lib.hid (below_only B.out hb)
  clear hb hsz
  go_upto_region 9 with (first | (refine wpList_build_to rfl 42 _ rfl dRn.arr (by simp only [List.map_toArray, List.map_cons, List.map_nil]; exact built_d) ?_; (try simp only [Act.put]); (try simp only [List.setIfInBounds_toArray]); (try simp only [List.set_cons_succ]); (try simp only [List.set_cons_zero])) | (refine wpList_build_to rfl 43 _ rfl (runsA [dRn, dRn]) (by simp only [List.map_toArray, List.map_cons, List.map_nil]; exact built_2R dRn dRn) ?_; (try simp only [Act.put]); (try simp only [List.setIfInBounds_toArray]); (try simp only [List.set_cons_succ]); (try simp only [List.set_cons_zero])) | (refine wpList_alloc_to rfl 43 rfl _ (alloc2R _) ?_; (try simp only [Act.put]); (try simp only [List.setIfInBounds_toArray]); (try simp only [List.set_cons_succ]); (try simp only [List.set_cons_zero])) | (refine wpList_store_row rfl 43 (.tmp 13) (.tmp 54) rfl w5.heap.size (runsA [dRn, dRn]) rfl rfl 43 _ (row_new _ _ _) info2R rfl (runs_one _) ?_; (try simp only [Act.put]); (try simp only [List.setIfInBounds_toArray]); (try simp only [List.set_cons_succ]); (try simp only [List.set_cons_zero])))
  refine alloc_set' w5 _ _ _ ?_
  intro w6 hr hb
  have hlB := B.out.size
  have hfr := HT.out.fresh (Nat.le_refl w5.heap.size)
  have hl_cs := lt_of_heap H_cs.out
  have hl_p := lt_of_heap H_p.out
  have hsz := (hb).size
  replace H_cs := Lib.hid (row_below H_cs.out hb)
  replace H_p := Lib.hid (row_below H_p.out hb)
  replace HT := Lib.hid (HT.out.below hb)
  replace B := Lib.hid (below_only B.out hb)
  clear hb hsz
  have H_g := Lib.hid (show w6.heap[w5.heap.size]? = some (.cells (runsA [dRn, dRn]) 43 (0, 0)) from hr)
  clear hr
  obtain ⟨g_g, hg_g⟩ : ∃ x, x = w5.heap.size := ⟨_, rfl⟩
  rw [← hg_g] at H_g ⊢
  have N_g : Hid (g_g ∉ [p, b, X, q, d]) := Lib.hid (by rw [hg_g]; exact hfr)
  clear hfr
  have M_cs_g : Hid (g_cs ≠ g_g) := Lib.hid (by omega)
  have M_g_cs : Hid (g_g ≠ g_cs) := Lib.hid (by omega)
  clear hl_cs
  have M_p_g : Hid (g_p ≠ g_g) := Lib.hid (by omega)
  have M_g_p : Hid (g_g ≠ g_p) := Lib.hid (by omega)
  clear hl_p
  have L_g : Hid (w.heap.size ≤ g_g) := Lib.hid (by omega)
  clear hg_g hlB
  go_upto_region 10 with (first | (refine wpList_build_to rfl 77 _ rfl (heldA 0) (by simp only [List.map_toArray, List.map_nil]; exact builtB64) ?_; (try simp only [Act.put]); (try simp only [List.setIfInBounds_toArray]); (try simp only [List.set_cons_succ]); (try simp only [List.set_cons_zero])) | (refine wpList_alloc_to rfl 77 rfl _ allocB64 ?_; (try simp only [Act.put]); (try simp only [List.setIfInBounds_toArray]); (try simp only [List.set_cons_succ]); (try simp only [List.set_cons_zero])) | (refine wpList_store_row rfl 77 (.tmp 14) (.tmp 55) rfl w6.heap.size (heldA 0) rfl rfl 77 _ (row_new _ _ _) infoB64 rfl (held_one _) ?_; (try simp only [Act.put]); (try simp only [List.setIfInBounds_toArray]); (try simp only [List.set_cons_succ]); (try simp only [List.set_cons_zero])))
  refine alloc_set' w6 _ _ _ ?_
  intro w7 hr hb
  have hlB := B.out.size
  have hfr := HT.out.fresh (Nat.le_refl w6.heap.size)
  have hl_cs := lt_of_heap H_cs.out
  have hl_p := lt_of_heap H_p.out
  have hl_g := lt_of_heap H_g.out
  have hsz := (hb).size
  replace H_cs := Lib.hid (row_below H_cs.out hb)
  replace H_p := Lib.hid (row_below H_p.out hb)
  replace H_g := Lib.hid (row_below H_g.out hb)
  replace HT := Lib.hid (HT.out.below hb)
  replace B := Lib.hid (below_only B.out hb)
  clear hb hsz
  have H_h := Lib.hid (show w7.heap[w6.heap.size]? = some (.cells (heldA 0) 77 (0, 0)) from hr)
  clear hr
  obtain ⟨g_h, hg_h⟩ : ∃ x, x = w6.heap.size := ⟨_, rfl⟩
  rw [← hg_h] at H_h ⊢
  have N_h : Hid (g_h ∉ [p, b, X, q, d]) := Lib.hid (by rw [hg_h]; exact hfr)
  clear hfr
  have M_cs_h : Hid (g_cs ≠ g_h) := Lib.hid (by omega)
  have M_h_cs : Hid (g_h ≠ g_cs) := Lib.hid (by omega)
  clear hl_cs
  have M_p_h : Hid (g_p ≠ g_h) := Lib.hid (by omega)
  have M_h_p : Hid (g_h ≠ g_p) := Lib.hid (by omega)
  clear hl_p
  have M_g_h : Hid (g_g ≠ g_h) := Lib.hid (by omega)
  have M_h_g : Hid (g_h ≠ g_g) := Lib.hid (by omega)
  clear hl_g
  have L_h : Hid (w.heap.size ≤ g_h) := Lib.hid (by omega)
  clear hg_h hlB
  obtain ⟨FF, HFF⟩ : ∃ x, Hid (x = [b, d, g_g, g_h]) := ⟨_, Lib.hid rfl⟩
  have HAll : Hid (AllS ep u w7 FF 2 [dRn, dRn]) := Lib.hid ⟨rfl, fun r hr => .inl (by simp at hr; rw [hr]; rfl)⟩
  try simp only [Act.put]
  go_upto_block 0 with fail
  try simp only [Act.put]
  go_cut [15] from 15 to 206 (fun v15 wx => ∃ ws sm, v15 = .int .i64 sm ∧ BlkOk 2 ws 1 (upC ep) 136 u sm ∧ TwoW w.heap.size wx p b X q d 2 2 8 320 ws WS ∧ Below w.heap.size w wx)
  case first =>
    go_wp2_with fail
    go_loopw [15, 16, 17] (fun t15 t16 t17 wr => ∃ (i nx : Nat) (ws : List Int) (sm : Int) (l : List Rn), i ≤ 160 ∧ nx ≤ L.length ∧ nx ≤ 20 ∧ t15 = .int .i64 sm ∧ t16 = .int .i64 nx ∧ t17 = .int .i64 i ∧ BlkOk 2 ws 1 (upC ep) 136 u sm ∧ AllS ep u wr FF 2 l ∧ TwoW w.heap.size wr p b X q d 2 2 8 320 ws WS ∧ wr.heap[g_p]? = some (.cells #[.int .i64 2, .int .i64 2, .int .i64 8, .int .i64 320] 29 (0, 0)) ∧ wr.heap[g_cs]? = some (.cells #[.slice A L.length cp, .int .u64 tn] 26 (0, 0)) ∧ wr.heap[g_g]? = some (.cells (runsA l) 43 (0, 0)) ∧ wr.heap[g_h]? = some (.cells (heldA (sm / 8).toNat) 77 (0, 0)) ∧ Below w.heap.size w wr) (fun _ _ t _ => (160 - intOf t).toNat)
    case atStart => exact ⟨0, 0, WS, 0, _, by omega, by omega, by omega, rfl, rfl, rfl, HB1.out, HAll.out, HT.out, H_p.out, H_cs.out, H_g.out, H_h.out, B.out⟩
    case round =>
      clear HT H_p H_cs H_g H_h B HS0 HAll HB1
      obtain ⟨i, nx, ws, sm, l, hi, hn1, hn2, rfl, rfl, rfl, hS, hall, hT, hp, hcs, hg, hh, hB⟩ := hrel
      have HS := Lib.hid hS
      have HAll := Lib.hid hall
      have HT := Lib.hid hT
      have H_p := Lib.hid hp
      have H_cs := Lib.hid hcs
      have H_g := Lib.hid hg
      have H_h := Lib.hid hh
      have B := Lib.hid hB
      clear hS hall hT hp hcs hg hh hB
      by_cases hlt : i < 160
      · skip
        have hltI : (i : Int) < 160 := by omega
        have hltB : decide ((i : Int) < 160) = true := decide_eq_true hltI
        have cs_0 : wr.cell? ⟨g_cs, 0, none⟩ = some (.slice A L.length cp) := by rw [row_cell H_cs.out]; rfl
        have cs_1 : wr.cell? ⟨g_cs, 1, none⟩ = some (.int .u64 tn) := by rw [row_cell H_cs.out]; rfl
        have z_cs := lt_of_heap H_cs.out
        go_upto_region 15 with fail
        try simp only [Act.put]
        go_cut [18] from 60 to 66 (fun v wx => ∃ kn : Nat, kn < 2 ∧ v = .int .i64 kn ∧ wr = wx)
        case first =>
          have m1 : bits .and .i64 (i : Int) 63 = (i : Int) % 64 := mask6 _
          go_wp2_with fail
          go_meet
          exact (bit_ex _).imp fun kn h => ⟨h.1, h.2, rfl⟩
        case rest =>
          clear cs_0 cs_1 z_cs
          obtain ⟨kn, hkn2, rfl, hwx⟩ := hcut
          subst hwx
          have hkI : (kn : Int) < 2 := by omega
          have hkI0 : (0 : Int) ≤ (kn : Int) := by omega
          obtain ⟨rk, hrk⟩ : ∃ r, l[kn]? = some r := ⟨_, List.getElem?_eq_getElem (by rw [HAll.out.1]; exact hkn2)⟩
          have HRk := Lib.hid hrk
          clear hrk
          obtain ⟨dn, Hdn⟩ : ∃ x, Hid (rk.done = x) := ⟨_, Lib.hid rfl⟩
          by_cases hbr : dn = true ∧ ¬ (nx < L.length ∧ nx < 20)
          · skip
            obtain ⟨hdn, hnn⟩ := hbr
            subst hdn
            have d8 : wr.cell? ⟨g_g, kn * 26 + 21, none⟩ = some (.bool true) := runs_cell H_g.out HRk.out (by rw [← Hdn.out]; rfl)
            have z_g := lt_of_heap H_g.out
            have cs_0 : wr.cell? ⟨g_cs, 0, none⟩ = some (.slice A L.length cp) := by rw [row_cell H_cs.out]; rfl
            have cs_1 : wr.cell? ⟨g_cs, 1, none⟩ = some (.int .u64 tn) := by rw [row_cell H_cs.out]; rfl
            have z_cs := lt_of_heap H_cs.out
            by_cases hl : nx < L.length
            · have hl2 : ¬ nx < 20 := fun h => hnn ⟨hl, h⟩
              have hI : (20 : Int) ≤ (nx : Int) := by omega
              have hB2 : decide ((L.length : Int) ≤ (nx : Int)) = false := decide_eq_false (by omega)
              have hB3 : decide ((20 : Int) ≤ (nx : Int)) = true := decide_eq_true hI
              go_wp2_with fail
              go_meet
              exact ⟨ws, sm, rfl, HS.out, HT.out, B.out⟩
            · have hI : (L.length : Int) ≤ (nx : Int) := by omega
              have hB2 : decide (L.length ≤ nx) = true := decide_eq_true (by omega)
              go_wp2_with fail
              go_meet
              exact ⟨ws, sm, rfl, HS.out, HT.out, B.out⟩
          · skip
            have d8 : wr.cell? ⟨g_g, kn * 26 + 21, none⟩ = some (.bool dn) := runs_cell H_g.out HRk.out (by rw [← Hdn.out]; rfl)
            have z_g := lt_of_heap H_g.out
            have cs_0 : wr.cell? ⟨g_cs, 0, none⟩ = some (.slice A L.length cp) := by rw [row_cell H_cs.out]; rfl
            have cs_1 : wr.cell? ⟨g_cs, 1, none⟩ = some (.int .u64 tn) := by rw [row_cell H_cs.out]; rfl
            have z_cs := lt_of_heap H_cs.out
            go_upto_if 70 with fail
            clear d8 z_g cs_0 cs_1 z_cs
            try simp only [Act.put]
            go_cut [16] from 70 to 94 (fun va wx => ∃ (n2 : Nat) (l2 : List Rn) (r2 : Rn) (ch : Sl), n2 ≤ L.length ∧ n2 ≤ 20 ∧ va = .int .i64 n2 ∧ l2[kn]? = some r2 ∧ TkRun 1 (upC ep) 136 u ch r2 ∧ AllS ep u wx FF 2 l2 ∧ TwoW w.heap.size wx p b X q d 2 2 8 320 ws WS ∧ wx.heap[g_p]? = some (.cells #[.int .i64 2, .int .i64 2, .int .i64 8, .int .i64 320] 29 (0, 0)) ∧ wx.heap[g_cs]? = some (.cells #[.slice A L.length cp, .int .u64 tn] 26 (0, 0)) ∧ wx.heap[g_g]? = some (.cells (runsA l2) 43 (0, 0)) ∧ wx.heap[g_h]? = some (.cells (heldA (sm / 8).toNat) 77 (0, 0)) ∧ Below w.heap.size w wx)
            case first =>
              cases dn with
              | false =>
                go_wp2_with fail
                go_meet
                rcases HAll.out.2 rk (List.mem_of_getElem? HRk.out) with h | ⟨ch, h3⟩
                · rw [Hdn.out] at h; cases h
                · exact ⟨nx, l, rk, ch, hn1, hn2, rfl, HRk.out, h3, HAll.out, HT.out, H_p.out, H_cs.out, H_g.out, H_h.out, B.out⟩
              | true =>
                have hnx : nx < L.length ∧ nx < 20 := Decidable.not_not.1 (fun h => hbr ⟨rfl, h⟩)
                obtain ⟨hnx1, hnx2⟩ := hnx
                have hI1 : (nx : Int) < (L.length : Int) := by omega
                have hI2 : (nx : Int) < 20 := by omega
                have hI0 : (0 : Int) ≤ (nx : Int) := by omega
                have hB1 : decide (L.length ≤ nx) = false := decide_eq_false (by omega)
                have hB1' : decide ((L.length : Int) ≤ (nx : Int)) = false := decide_eq_false (by omega)
                have hB3 : decide ((20 : Int) ≤ (nx : Int)) = false := decide_eq_false (by omega)
                obtain ⟨bA, off, rfl, hbA, hcA⟩ := tks_at HL0.out (by omega)
                obtain ⟨⟨inb, ⟨x, y, z⟩⟩, hop⟩ : ∃ o, L[nx]? = some o := ⟨_, List.getElem?_eq_getElem hnx1⟩
                have Hxyz : Hid (N3Ok ⟨x, y, z⟩) := Lib.hid (Hq.out _ (List.mem_of_getElem? hop))
                obtain ⟨k0, k1, k2, k3⟩ := hcA nx _ hop
                simp only at k0 k1 k2 k3
                have cA1 := (B.out.cell (p := ⟨bA, off + nx * 4 + 1, none⟩) hbA).trans k1
                have cA2 := (B.out.cell (p := ⟨bA, off + nx * 4 + 2, none⟩) hbA).trans k2
                have cA3 := (B.out.cell (p := ⟨bA, off + nx * 4 + 3, none⟩) hbA).trans k3
                have zA : bA < wr.heap.size := Nat.lt_of_lt_of_le hbA B.out.size
                have HbA : Hid (bA < w.heap.size) := Lib.hid hbA
                clear hcA hop k0 k1 k2 k3 hbA
                obtain ⟨a0, Ha0⟩ : ∃ a, Hid (x % 7 = a) := ⟨_, Lib.hid rfl⟩
                obtain ⟨b0, Hb0⟩ : ∃ a, Hid (y % 61 = a) := ⟨_, Lib.hid rfl⟩
                obtain ⟨c0, Hc0⟩ : ∃ a, Hid (z % 8 = a) := ⟨_, Lib.hid rfl⟩
                have hxyz := Hxyz.out
                obtain ⟨⟨x0, x1⟩, ⟨y0, y1⟩, ⟨z0, z1⟩⟩ := hxyz
                simp only at x0 x1 y0 y1 z0 z1
                have Hab : Hid ((0 ≤ a0 ∧ a0 ≤ 6) ∧ (0 ≤ b0 ∧ b0 ≤ 512) ∧ (0 ≤ c0 ∧ c0 ≤ 7)) := Lib.hid (by have := Ha0.out; have := Hb0.out; have := Hc0.out; omega)
                have HCal : Hid (CalOk ⟨7, 1, 0, 0, a0, b0, c0⟩) := Lib.hid (cal15 Hab.out.1 Hab.out.2.1 Hab.out.2.2)
                have HOf : Hid (∀ ch, rbeginRn 2 (chE true) ⟨7, 1, 0, 0, a0, b0, c0⟩ (rregR 0 0 0 0 0) (rregR 0 0 0 0 0) ch = tkCall (chK true : Int) a0 b0 c0 ch) := Lib.hid fun ch => of15 true Hab.out.1 Hab.out.2.1 Hab.out.2.2 ch
                have HCa := fun w' => Lib.hid (call15_any x y z w' Hxyz.out.hx Hxyz.out.hy Hxyz.out.hz)
                simp only [Ha0.out, Hb0.out, Hc0.out] at HCa
                clear x0 x1 y0 y1 z0 z1
                have HlG : Hid (kn < l.length) := Lib.hid (by rw [HAll.out.1]; exact hkn2)
                have cs_0 : wr.cell? ⟨g_cs, 0, none⟩ = some (.slice (some ⟨bA, off, none⟩) L.length cp) := by rw [row_cell H_cs.out]; rfl
                have z_cs := lt_of_heap H_cs.out
                go_upto_region 18 with fail
                clear cs_0 z_cs
                try simp only [Act.put]
                go_cut [] from 80 to 92 (fun wx => ∃ cA kc, wx.heap[g_g]? = some (.cells (runsA (l.set kn (tkCall (chK true : Int) a0 b0 c0 ⟨cA, (chE true).length, kc⟩))) 43 (0, 0)) ∧ Keep [g_g] wr wx)
                case first =>
                  as_aux_lemma =>
                    refine wp_region_held_drew (S := fun W' => (W'.heap[g_p]? = some (.cells #[.int .i64 2, .int .i64 2, .int .i64 8, .int .i64 320] 29 (0, 0)) ∧ W'.heap[g_cs]? = some (.cells #[.slice (some ⟨bA, off, none⟩) L.length cp, .int .u64 tn] 26 (0, 0))) ∧ W'.cell? ⟨bA, off + nx * 4 + 1, none⟩ = some (.int .u8 x) ∧ W'.cell? ⟨bA, off + nx * 4 + 2, none⟩ = some (.int .u8 y) ∧ W'.cell? ⟨bA, off + nx * 4 + 3, none⟩ = some (.int .u8 z) ∧ bA < W'.heap.size) (by kernel_rfl) (show (wr.drew.heap[g_p]? = _ ∧ wr.drew.heap[g_cs]? = _) ∧ wr.drew.cell? _ = _ ∧ wr.drew.cell? _ = _ ∧ wr.drew.cell? _ = _ ∧ _ from ⟨⟨H_p.out, H_cs.out⟩, cA1, cA2, cA3, zA⟩) ?_
                    intro hS
                    have hB0 : Below wr.heap.size wr wr.drew := Below.drew (Below.refl _ _)
                    have hH : wr.drew.heap[g_g]? = some (.cells (runsA l) 43 (0, 0)) := H_g.out
                    have zh : g_g < wr.heap.size := lt_of_heap H_g.out
                    have hgA : g_g ≠ bA := by have h1 := L_g.out; have h2 := HbA.out; omega
                    clear cA1 cA2 cA3 zA
                    generalize wr.drew = y0 at hS hB0 hH ⊢
                    refine wpAnyH_take_at (i := 0) (v := ?v0x1) (some 80) rfl rfl (by kernel_rfl) (by kernel_rfl) (by kernel_rfl) (fun _ _ _ h => h) (Or.inl ⟨by kernel_rfl, ?h0x1⟩) (by assumption) ?r0x1
                    case h0x1 => (intro w' hSw; obtain ⟨⟨s1, s2⟩, s3, s4, s5, s6⟩ := hSw; obtain ⟨r0', r1', _, _⟩ := box2 s2; go_simp; first | done | (with_reducible rfl))
                    try simp only [Act.put]
                    try simp only [List.setIfInBounds_toArray]
                    try simp only [List.set_cons_succ]
                    try simp only [List.set_cons_zero]
                    refine wpAnyH_take_at (i := 1) (v := .agg #[.int .i64 2, .int .i64 2, .int .i64 8, .int .i64 320]) (some 81) rfl rfl (by kernel_rfl) (by kernel_rfl) (by kernel_rfl) (fun _ _ _ h => h) (yieldsIf_load_row (by kernel_rfl) 29 (.tmp 8) rfl g_p rfl #[.int .i64 2, .int .i64 2, .int .i64 8, .int .i64 320] (fun W' hW' => hW'.1.1) undPln4 rfl infoPln4) (by assumption) ?_
                    try simp only [Act.put]
                    try simp only [List.setIfInBounds_toArray]
                    try simp only [List.set_cons_succ]
                    try simp only [List.set_cons_zero]
                    refine wpAnyH_take_at (i := 4) (v := ?v4x2) (some 84) rfl rfl (by kernel_rfl) (by kernel_rfl) (by kernel_rfl) (fun _ _ _ h => h) (Or.inl ⟨by kernel_rfl, ?h4x2⟩) (by assumption) ?r4x2
                    case h4x2 => (intro w' hSw; obtain ⟨⟨s1, s2⟩, s3, s4, s5, s6⟩ := hSw; obtain ⟨r0', r1', _, _⟩ := box2 s2; go_simp; first | done | (with_reducible rfl))
                    try simp only [Act.put]
                    try simp only [List.setIfInBounds_toArray]
                    try simp only [List.set_cons_succ]
                    try simp only [List.set_cons_zero]
                    refine wpAnyH_take_at (i := 5) (v := ?v5x3) (some 85) rfl rfl (by kernel_rfl) (by kernel_rfl) (by kernel_rfl) (fun _ _ _ h => h) (Or.inl ⟨by kernel_rfl, ?h5x3⟩) (by assumption) ?r5x3
                    case h5x3 => (intro w' hSw; obtain ⟨⟨s1, s2⟩, s3, s4, s5, s6⟩ := hSw; obtain ⟨r0', r1', _, _⟩ := box2 s2; go_simp; first | done | (with_reducible rfl))
                    try simp only [Act.put]
                    try simp only [List.setIfInBounds_toArray]
                    try simp only [List.set_cons_succ]
                    try simp only [List.set_cons_zero]
                    refine wpAnyH_take_at (i := 6) (v := ?v6x4) (some 86) rfl rfl (by kernel_rfl) (by kernel_rfl) (by kernel_rfl) (fun _ _ _ h => h) (Or.inl ⟨by kernel_rfl, ?h6x4⟩) (by assumption) ?r6x4
                    case h6x4 => (intro w' hSw; obtain ⟨⟨s1, s2⟩, s3, s4, s5, s6⟩ := hSw; obtain ⟨r0', r1', _, _⟩ := box2 s2; go_simp; first | done | (with_reducible rfl))
                    try simp only [Act.put]
                    try simp only [List.setIfInBounds_toArray]
                    try simp only [List.set_cons_succ]
                    try simp only [List.set_cons_zero]
                    refine wpAnyH_take_at (i := 7) (v := ?v7x5) (some 87) rfl rfl (by kernel_rfl) (by kernel_rfl) (by kernel_rfl) (fun _ _ _ h => h) (Or.inl ⟨by kernel_rfl, ?h7x5⟩) (by assumption) ?r7x5
                    case h7x5 => (intro w' hSw; obtain ⟨⟨s1, s2⟩, s3, s4, s5, s6⟩ := hSw; obtain ⟨r0', r1', _, _⟩ := box2 s2; go_simp; first | done | (with_reducible rfl))
                    try simp only [Act.put]
                    try simp only [List.setIfInBounds_toArray]
                    try simp only [List.set_cons_succ]
                    try simp only [List.set_cons_zero]
                    refine wpAnyH_take_at (i := 8) (v := ?v8x6) (some 88) rfl rfl (by kernel_rfl) (by kernel_rfl) (by kernel_rfl) (fun _ _ _ h => h) (Or.inl ⟨by kernel_rfl, ?h8x6⟩) (by assumption) ?r8x6
                    case h8x6 => (intro w' hSw; obtain ⟨⟨s1, s2⟩, s3, s4, s5, s6⟩ := hSw; obtain ⟨r0', r1', _, _⟩ := box2 s2; go_simp; first | done | (with_reducible rfl))
                    try simp only [Act.put]
                    try simp only [List.setIfInBounds_toArray]
                    try simp only [List.set_cons_succ]
                    try simp only [List.set_cons_zero]
                    refine wpAnyH_take_at (i := 9) (v := ?v9x7) (some 89) rfl rfl (by kernel_rfl) (by kernel_rfl) (by kernel_rfl) (fun _ _ _ h => h) (Or.inl ⟨by kernel_rfl, ?h9x7⟩) (by assumption) ?r9x7
                    case h9x7 => (intro w' hSw; obtain ⟨⟨s1, s2⟩, s3, s4, s5, s6⟩ := hSw; obtain ⟨r0', r1', _, _⟩ := box2 s2; go_simp; first | done | (with_reducible rfl))
                    try simp only [Act.put]
                    try simp only [List.setIfInBounds_toArray]
                    try simp only [List.set_cons_succ]
                    try simp only [List.set_cons_zero]
                    refine wpAnyH_ready (rs := [2, 3]) (by kernel_rfl) (by simp) ?_
                    refine AllReadyH.cons rfl (fun K hK => ?_) (AllReadyH.cons rfl (fun K hK => ?_) AllReadyH.nil)
                    · skip
                      go_simp
                      refine k_alloc (fun yM hM hb => ?_)
                      obtain ⟨gM, HgM⟩ : ∃ x, x = y0.heap.size := ⟨_, rfl⟩
                      replace hB0 := below_only hB0 hb
                      replace hH := row_below hH hb
                      rw [← HgM] at hM ⊢
                      clear HgM
                      refine hK.out _ _ (by obtain ⟨⟨s1, s2⟩, s3, s4, s5, s6⟩ := hS; exact ⟨⟨row_below s1 hb, row_below s2 hb⟩, (hb.cell (lt_of_cell s3)).trans s3, (hb.cell (lt_of_cell s4)).trans s4, (hb.cell (lt_of_cell s5)).trans s5, Nat.lt_of_lt_of_le s6 hb.size⟩) (fun hS => ?_)
                      clear hK K
                      try simp only [Act.put]
                      try simp only [List.setIfInBounds_toArray]
                      try simp only [List.set_cons_succ]
                      try simp only [List.set_cons_zero]
                      refine wpAnyH_ready (rs := [3]) (by kernel_rfl) (by simp) ?_
                      refine AllReadyH.cons rfl (fun K hK => ?_) AllReadyH.nil
                      go_simp
                      refine (chain15_any true _).mono ?_
                      rintro e' yC ⟨cB, rfl, hE, hEn, hb⟩
                      go_simp
                      replace hB0 := below_only hB0 hb
                      replace hH := row_below hH hb
                      replace hM := row_below hM hb
                      refine hK.out _ _ (by obtain ⟨⟨s1, s2⟩, s3, s4, s5, s6⟩ := hS; exact ⟨⟨row_below s1 hb, row_below s2 hb⟩, (hb.cell (lt_of_cell s3)).trans s3, (hb.cell (lt_of_cell s4)).trans s4, (hb.cell (lt_of_cell s5)).trans s5, Nat.lt_of_lt_of_le s6 hb.size⟩) (fun hS => ?_)
                      clear hK K
                      try simp only [Act.put]
                      try simp only [List.setIfInBounds_toArray]
                      try simp only [List.set_cons_succ]
                      try simp only [List.set_cons_zero]
                      refine wpAnyH_ready (rs := [10]) (by kernel_rfl) (by simp) ?_
                      refine AllReadyH.cons rfl (fun K hK => ?_) AllReadyH.nil
                      go_simp
                      refine (HCa _).out.mono ?_
                      rintro e' yK ⟨rfl, hb⟩
                      go_simp
                      replace hB0 := below_only hB0 hb
                      replace hH := row_below hH hb
                      replace hM := row_below hM hb
                      replace hE := Ents.below hE hb
                      refine hK.out _ _ (by obtain ⟨⟨s1, s2⟩, s3, s4, s5, s6⟩ := hS; exact ⟨⟨row_below s1 hb, row_below s2 hb⟩, (hb.cell (lt_of_cell s3)).trans s3, (hb.cell (lt_of_cell s4)).trans s4, (hb.cell (lt_of_cell s5)).trans s5, Nat.lt_of_lt_of_le s6 hb.size⟩) (fun hS => ?_)
                      clear hK K
                      try simp only [Act.put]
                      try simp only [List.setIfInBounds_toArray]
                      try simp only [List.set_cons_succ]
                      try simp only [List.set_cons_zero]
                      refine wpAnyH_ready (rs := [11]) (by kernel_rfl) (by simp) ?_
                      refine AllReadyH.cons rfl (fun K hK => ?_) AllReadyH.nil
                      go_simp
                      obtain ⟨m0, m1, m2, m3, _⟩ := box4 hM
                      refine (rof_any ⟨2, 2, 8, 320⟩ cB (chE true).length (chE true) ⟨7, 1, 0, 0, a0, b0, c0⟩ 0 0 0 0 gM 0 4 _ (Nat.le_refl _) (by unfold chE; split <;> simp) hE (by decide) (by decide) HCal.out (by decide) (by decide) (by decide) (by decide) (by decide) m0 m1 m2 m3).mono ?_
                      rintro e' yO ⟨kc, cA, rfl, hE2, hE2n, hb⟩
                      rw [HOf.out]
                      go_simp
                      clear m0 m1 m2 m3
                      replace hB0 := below_only hB0 hb
                      replace hH := row_below hH hb
                      replace hM := row_below hM hb
                      replace hE := Ents.below hE hb
                      refine hK.out _ _ (by obtain ⟨⟨s1, s2⟩, s3, s4, s5, s6⟩ := hS; exact ⟨⟨row_below s1 hb, row_below s2 hb⟩, (hb.cell (lt_of_cell s3)).trans s3, (hb.cell (lt_of_cell s4)).trans s4, (hb.cell (lt_of_cell s5)).trans s5, Nat.lt_of_lt_of_le s6 hb.size⟩) (fun hS => ?_)
                      clear hK K
                      try simp only [Act.put]
                      try simp only [List.setIfInBounds_toArray]
                      try simp only [List.set_cons_succ]
                      try simp only [List.set_cons_zero]
                      refine wpAnyH_take_at (i := 12) (v := (.pointer (some ⟨g_g, kn * 26, none⟩))) (some 92) rfl rfl (by kernel_rfl) (by kernel_rfl) (by kernel_rfl) (fun _ _ _ h => h) (Or.inl ⟨by kernel_rfl, by (intro w' hSw; obtain ⟨⟨s1, s2⟩, s3, s4, s5, s6⟩ := hSw; obtain ⟨r0', r1', _, _⟩ := box2 s2; go_simp; first | done | (with_reducible rfl))⟩) (by assumption) ?_
                      try simp only [Act.put]
                      try simp only [List.setIfInBounds_toArray]
                      try simp only [List.set_cons_succ]
                      try simp only [List.set_cons_zero]
                      refine wpAnyH_ready (rs := [13]) (by kernel_rfl) (by simp) ?_
                      refine AllReadyH.cons rfl (fun K hK => ?_) AllReadyH.nil
                      refine step_store_sub none rfl rfl 42 (.tmp 92) (.tmp 91) rfl g_g (kn * 26) (tkCall (chK true : Int) a0 b0 c0 ⟨cA, (chE true).length, kc⟩).arr rfl rfl 43 _ hH infoRun (by rw [runs_size]; have := HlG.out; have : (Rn.arr (tkCall (chK true : Int) a0 b0 c0 ⟨cA, (chE true).length, kc⟩)).size = 26 := rfl; omega) (Rn.one _) ?_
                      refine hK.out _ _ (by obtain ⟨⟨s1, s2⟩, s3, s4, s5, s6⟩ := hS; exact ⟨⟨(setRow_other _ _ _ _ M_p_g.out).trans s1, (setRow_other _ _ _ _ M_cs_g.out).trans s2⟩, (cell_setRow15 hgA.symm).trans s3, (cell_setRow15 hgA.symm).trans s4, (cell_setRow15 hgA.symm).trans s5, by simpa [World.setRow] using s6⟩) (fun hS => ?_)
                      clear hK K
                      try simp only [Act.put]
                      try simp only [List.setIfInBounds_toArray]
                      try simp only [List.set_cons_succ]
                      try simp only [List.set_cons_zero]
                      refine wpAnyH_done (by kernel_rfl) ?_ _
                      go_wp2_with fail
                      go_meet
                      have hst := runs_set HlG.out (tkCall (chK true : Int) a0 b0 c0 ⟨cA, (chE true).length, kc⟩)
                      rw [hst]
                      exact ⟨cA, kc, setRow_heap _ _ _ _ _ _ hH, (keep_below hB0 [g_g]).setRow (.inl (by simp)) _⟩
                    · skip
                      go_simp
                      refine (chain15_any true _).mono ?_
                      rintro e' yC ⟨cB, rfl, hE, hEn, hb⟩
                      go_simp
                      replace hB0 := below_only hB0 hb
                      replace hH := row_below hH hb
                      refine hK.out _ _ (by obtain ⟨⟨s1, s2⟩, s3, s4, s5, s6⟩ := hS; exact ⟨⟨row_below s1 hb, row_below s2 hb⟩, (hb.cell (lt_of_cell s3)).trans s3, (hb.cell (lt_of_cell s4)).trans s4, (hb.cell (lt_of_cell s5)).trans s5, Nat.lt_of_lt_of_le s6 hb.size⟩) (fun hS => ?_)
                      clear hK K
                      try simp only [Act.put]
                      try simp only [List.setIfInBounds_toArray]
                      try simp only [List.set_cons_succ]
                      try simp only [List.set_cons_zero]
                      refine wpAnyH_ready (rs := [2, 10]) (by kernel_rfl) (by simp) ?_
                      refine AllReadyH.cons rfl (fun K hK => ?_) (AllReadyH.cons rfl (fun K hK => ?_) AllReadyH.nil)
                      · skip
                        go_simp
                        refine k_alloc (fun yM hM hb => ?_)
                        obtain ⟨gM, HgM⟩ : ∃ x, x = yC.heap.size := ⟨_, rfl⟩
                        replace hB0 := below_only hB0 hb
                        replace hH := row_below hH hb
                        replace hE := Ents.below hE hb
                        rw [← HgM] at hM ⊢
                        clear HgM
                        refine hK.out _ _ (by obtain ⟨⟨s1, s2⟩, s3, s4, s5, s6⟩ := hS; exact ⟨⟨row_below s1 hb, row_below s2 hb⟩, (hb.cell (lt_of_cell s3)).trans s3, (hb.cell (lt_of_cell s4)).trans s4, (hb.cell (lt_of_cell s5)).trans s5, Nat.lt_of_lt_of_le s6 hb.size⟩) (fun hS => ?_)
                        clear hK K
                        try simp only [Act.put]
                        try simp only [List.setIfInBounds_toArray]
                        try simp only [List.set_cons_succ]
                        try simp only [List.set_cons_zero]
                        refine wpAnyH_ready (rs := [10]) (by kernel_rfl) (by simp) ?_
                        refine AllReadyH.cons rfl (fun K hK => ?_) AllReadyH.nil
                        go_simp
                        refine (HCa _).out.mono ?_
                        rintro e' yK ⟨rfl, hb⟩
                        go_simp
                        replace hB0 := below_only hB0 hb
                        replace hH := row_below hH hb
                        replace hM := row_below hM hb
                        replace hE := Ents.below hE hb
                        refine hK.out _ _ (by obtain ⟨⟨s1, s2⟩, s3, s4, s5, s6⟩ := hS; exact ⟨⟨row_below s1 hb, row_below s2 hb⟩, (hb.cell (lt_of_cell s3)).trans s3, (hb.cell (lt_of_cell s4)).trans s4, (hb.cell (lt_of_cell s5)).trans s5, Nat.lt_of_lt_of_le s6 hb.size⟩) (fun hS => ?_)
                        clear hK K
                        try simp only [Act.put]
                        try simp only [List.setIfInBounds_toArray]
                        try simp only [List.set_cons_succ]
                        try simp only [List.set_cons_zero]
                        refine wpAnyH_ready (rs := [11]) (by kernel_rfl) (by simp) ?_
                        refine AllReadyH.cons rfl (fun K hK => ?_) AllReadyH.nil
                        go_simp
                        obtain ⟨m0, m1, m2, m3, _⟩ := box4 hM
                        refine (rof_any ⟨2, 2, 8, 320⟩ cB (chE true).length (chE true) ⟨7, 1, 0, 0, a0, b0, c0⟩ 0 0 0 0 gM 0 4 _ (Nat.le_refl _) (by unfold chE; split <;> simp) hE (by decide) (by decide) HCal.out (by decide) (by decide) (by decide) (by decide) (by decide) m0 m1 m2 m3).mono ?_
                        rintro e' yO ⟨kc, cA, rfl, hE2, hE2n, hb⟩
                        rw [HOf.out]
                        go_simp
                        clear m0 m1 m2 m3
                        replace hB0 := below_only hB0 hb
                        replace hH := row_below hH hb
                        replace hM := row_below hM hb
                        replace hE := Ents.below hE hb
                        refine hK.out _ _ (by obtain ⟨⟨s1, s2⟩, s3, s4, s5, s6⟩ := hS; exact ⟨⟨row_below s1 hb, row_below s2 hb⟩, (hb.cell (lt_of_cell s3)).trans s3, (hb.cell (lt_of_cell s4)).trans s4, (hb.cell (lt_of_cell s5)).trans s5, Nat.lt_of_lt_of_le s6 hb.size⟩) (fun hS => ?_)
                        clear hK K
                        try simp only [Act.put]
                        try simp only [List.setIfInBounds_toArray]
                        try simp only [List.set_cons_succ]
                        try simp only [List.set_cons_zero]
                        refine wpAnyH_take_at (i := 12) (v := (.pointer (some ⟨g_g, kn * 26, none⟩))) (some 92) rfl rfl (by kernel_rfl) (by kernel_rfl) (by kernel_rfl) (fun _ _ _ h => h) (Or.inl ⟨by kernel_rfl, by (intro w' hSw; obtain ⟨⟨s1, s2⟩, s3, s4, s5, s6⟩ := hSw; obtain ⟨r0', r1', _, _⟩ := box2 s2; go_simp; first | done | (with_reducible rfl))⟩) (by assumption) ?_
                        try simp only [Act.put]
                        try simp only [List.setIfInBounds_toArray]
                        try simp only [List.set_cons_succ]
                        try simp only [List.set_cons_zero]
                        refine wpAnyH_ready (rs := [13]) (by kernel_rfl) (by simp) ?_
                        refine AllReadyH.cons rfl (fun K hK => ?_) AllReadyH.nil
                        refine step_store_sub none rfl rfl 42 (.tmp 92) (.tmp 91) rfl g_g (kn * 26) (tkCall (chK true : Int) a0 b0 c0 ⟨cA, (chE true).length, kc⟩).arr rfl rfl 43 _ hH infoRun (by rw [runs_size]; have := HlG.out; have : (Rn.arr (tkCall (chK true : Int) a0 b0 c0 ⟨cA, (chE true).length, kc⟩)).size = 26 := rfl; omega) (Rn.one _) ?_
                        refine hK.out _ _ (by obtain ⟨⟨s1, s2⟩, s3, s4, s5, s6⟩ := hS; exact ⟨⟨(setRow_other _ _ _ _ M_p_g.out).trans s1, (setRow_other _ _ _ _ M_cs_g.out).trans s2⟩, (cell_setRow15 hgA.symm).trans s3, (cell_setRow15 hgA.symm).trans s4, (cell_setRow15 hgA.symm).trans s5, by simpa [World.setRow] using s6⟩) (fun hS => ?_)
                        clear hK K
                        try simp only [Act.put]
                        try simp only [List.setIfInBounds_toArray]
                        try simp only [List.set_cons_succ]
                        try simp only [List.set_cons_zero]
                        refine wpAnyH_done (by kernel_rfl) ?_ _
                        go_wp2_with fail
                        go_meet
                        have hst := runs_set HlG.out (tkCall (chK true : Int) a0 b0 c0 ⟨cA, (chE true).length, kc⟩)
                        rw [hst]
                        exact ⟨cA, kc, setRow_heap _ _ _ _ _ _ hH, (keep_below hB0 [g_g]).setRow (.inl (by simp)) _⟩
                      · skip
                        go_simp
                        refine (HCa _).out.mono ?_
                        rintro e' yK ⟨rfl, hb⟩
                        go_simp
                        replace hB0 := below_only hB0 hb
                        replace hH := row_below hH hb
                        replace hE := Ents.below hE hb
                        refine hK.out _ _ (by obtain ⟨⟨s1, s2⟩, s3, s4, s5, s6⟩ := hS; exact ⟨⟨row_below s1 hb, row_below s2 hb⟩, (hb.cell (lt_of_cell s3)).trans s3, (hb.cell (lt_of_cell s4)).trans s4, (hb.cell (lt_of_cell s5)).trans s5, Nat.lt_of_lt_of_le s6 hb.size⟩) (fun hS => ?_)
                        clear hK K
                        try simp only [Act.put]
                        try simp only [List.setIfInBounds_toArray]
                        try simp only [List.set_cons_succ]
                        try simp only [List.set_cons_zero]
                        refine wpAnyH_ready (rs := [2]) (by kernel_rfl) (by simp) ?_
                        refine AllReadyH.cons rfl (fun K hK => ?_) AllReadyH.nil
                        go_simp
                        refine k_alloc (fun yM hM hb => ?_)
                        obtain ⟨gM, HgM⟩ : ∃ x, x = yK.heap.size := ⟨_, rfl⟩
                        replace hB0 := below_only hB0 hb
                        replace hH := row_below hH hb
                        replace hE := Ents.below hE hb
                        rw [← HgM] at hM ⊢
                        clear HgM
                        refine hK.out _ _ (by obtain ⟨⟨s1, s2⟩, s3, s4, s5, s6⟩ := hS; exact ⟨⟨row_below s1 hb, row_below s2 hb⟩, (hb.cell (lt_of_cell s3)).trans s3, (hb.cell (lt_of_cell s4)).trans s4, (hb.cell (lt_of_cell s5)).trans s5, Nat.lt_of_lt_of_le s6 hb.size⟩) (fun hS => ?_)
                        clear hK K
                        try simp only [Act.put]
                        try simp only [List.setIfInBounds_toArray]
                        try simp only [List.set_cons_succ]
                        try simp only [List.set_cons_zero]
                        refine wpAnyH_ready (rs := [11]) (by kernel_rfl) (by simp) ?_
                        refine AllReadyH.cons rfl (fun K hK => ?_) AllReadyH.nil
                        go_simp
                        obtain ⟨m0, m1, m2, m3, _⟩ := box4 hM
                        refine (rof_any ⟨2, 2, 8, 320⟩ cB (chE true).length (chE true) ⟨7, 1, 0, 0, a0, b0, c0⟩ 0 0 0 0 gM 0 4 _ (Nat.le_refl _) (by unfold chE; split <;> simp) hE (by decide) (by decide) HCal.out (by decide) (by decide) (by decide) (by decide) (by decide) m0 m1 m2 m3).mono ?_
                        rintro e' yO ⟨kc, cA, rfl, hE2, hE2n, hb⟩
                        rw [HOf.out]
                        go_simp
                        clear m0 m1 m2 m3
                        replace hB0 := below_only hB0 hb
                        replace hH := row_below hH hb
                        replace hM := row_below hM hb
                        replace hE := Ents.below hE hb
                        refine hK.out _ _ (by obtain ⟨⟨s1, s2⟩, s3, s4, s5, s6⟩ := hS; exact ⟨⟨row_below s1 hb, row_below s2 hb⟩, (hb.cell (lt_of_cell s3)).trans s3, (hb.cell (lt_of_cell s4)).trans s4, (hb.cell (lt_of_cell s5)).trans s5, Nat.lt_of_lt_of_le s6 hb.size⟩) (fun hS => ?_)
                        clear hK K
                        try simp only [Act.put]
                        try simp only [List.setIfInBounds_toArray]
                        try simp only [List.set_cons_succ]
                        try simp only [List.set_cons_zero]
                        refine wpAnyH_take_at (i := 12) (v := (.pointer (some ⟨g_g, kn * 26, none⟩))) (some 92) rfl rfl (by kernel_rfl) (by kernel_rfl) (by kernel_rfl) (fun _ _ _ h => h) (Or.inl ⟨by kernel_rfl, by (intro w' hSw; obtain ⟨⟨s1, s2⟩, s3, s4, s5, s6⟩ := hSw; obtain ⟨r0', r1', _, _⟩ := box2 s2; go_simp; first | done | (with_reducible rfl))⟩) (by assumption) ?_
                        try simp only [Act.put]
                        try simp only [List.setIfInBounds_toArray]
                        try simp only [List.set_cons_succ]
                        try simp only [List.set_cons_zero]
                        refine wpAnyH_ready (rs := [13]) (by kernel_rfl) (by simp) ?_
                        refine AllReadyH.cons rfl (fun K hK => ?_) AllReadyH.nil
                        refine step_store_sub none rfl rfl 42 (.tmp 92) (.tmp 91) rfl g_g (kn * 26) (tkCall (chK true : Int) a0 b0 c0 ⟨cA, (chE true).length, kc⟩).arr rfl rfl 43 _ hH infoRun (by rw [runs_size]; have := HlG.out; have : (Rn.arr (tkCall (chK true : Int) a0 b0 c0 ⟨cA, (chE true).length, kc⟩)).size = 26 := rfl; omega) (Rn.one _) ?_
                        refine hK.out _ _ (by obtain ⟨⟨s1, s2⟩, s3, s4, s5, s6⟩ := hS; exact ⟨⟨(setRow_other _ _ _ _ M_p_g.out).trans s1, (setRow_other _ _ _ _ M_cs_g.out).trans s2⟩, (cell_setRow15 hgA.symm).trans s3, (cell_setRow15 hgA.symm).trans s4, (cell_setRow15 hgA.symm).trans s5, by simpa [World.setRow] using s6⟩) (fun hS => ?_)
                        clear hK K
                        try simp only [Act.put]
                        try simp only [List.setIfInBounds_toArray]
                        try simp only [List.set_cons_succ]
                        try simp only [List.set_cons_zero]
                        refine wpAnyH_done (by kernel_rfl) ?_ _
                        go_wp2_with fail
                        go_meet
                        have hst := runs_set HlG.out (tkCall (chK true : Int) a0 b0 c0 ⟨cA, (chE true).length, kc⟩)
                        rw [hst]
                        exact ⟨cA, kc, setRow_heap _ _ _ _ _ _ hH, (keep_below hB0 [g_g]).setRow (.inl (by simp)) _⟩
                case rest =>
                  obtain ⟨cA, kc, hr, hK⟩ := hcut
                  obtain ⟨x2, hwx⟩ : ∃ x, x = wc := ⟨_, rfl⟩
                  subst hwx
                  clear cA1 cA2 cA3 zA
                  obtain ⟨r0, Hr0⟩ : ∃ x : Rn, Hid ((tkCall (chK true : Int) a0 b0 c0 ⟨cA, (chE true).length, kc⟩) = x) := ⟨_, Lib.hid rfl⟩
                  have HR0 : Hid (TkRun 1 (upC ep) 136 u ⟨cA, (chE true).length, kc⟩ r0) := Lib.hid (by rw [← Hr0.out]; exact tkRun_call Hab.out.1 Hab.out.2.1 Hab.out.2.2)
                  rw [Hr0.out] at hr
                  clear Hr0 HCa HOf HCal
                  go_wp2_with fail
                  go_meet
                  exact ⟨nx + 1, _, r0, _, by omega, by omega, by go_num, by rw [List.getElem?_set, if_pos rfl, if_pos HlG.out], HR0.out, (HAll.out.kept hK (by rw [HFF.out]; simp)).set kn (.inr ⟨_, HR0.out⟩), HT.out.kept hK (fun j hj => by simp only [List.mem_singleton] at hj; subst hj; exact N_g.out), hK.row H_p.out (by simpa using M_p_g.out), hK.row H_cs.out (by simpa using M_cs_g.out), hr, hK.row H_h.out (by simpa using M_h_g.out), Keep.under B.out hK (by have := B.out.size; omega) (by simp; exact L_g.out)⟩
            case rest =>
              obtain ⟨n2, l2, r2, ch, hn1, hn2, rfl, hk2, hR2, hall, hT, hp, hcs, hg, hh, hB⟩ := hcut
              obtain ⟨x4, hwx⟩ : ∃ x, x = wc := ⟨_, rfl⟩
              subst hwx
              clear HT H_p H_cs H_g H_h B HAll HRk Hdn hbr
              have HAll := Lib.hid hall
              have HT := Lib.hid hT
              have H_p := Lib.hid hp
              have H_cs := Lib.hid hcs
              have H_g := Lib.hid hg
              have H_h := Lib.hid hh
              have B := Lib.hid hB
              have Hk2 := Lib.hid hk2
              have HR2 := Lib.hid hR2
              have HlG : Hid (kn < l2.length) := Lib.hid (by rw [HAll.out.1]; exact hkn2)
              clear hk2 hR2 hall hT hp hcs hg hh hB
              obtain ⟨cc, Hcc⟩ : ∃ x, Hid (upC ep = x) := ⟨_, Lib.hid rfl⟩
              have HIn : Hid (TkIn 2 ws 1 cc 136 u sm r2) := Lib.hid (by rw [← Hcc.out]; exact tkIn_of HS.out HR2.out)
              have HS2 : Hid (BlkOk 2 (takeW ws 1 sm r2) 1 (upC ep) 136 u (takeT sm r2)) := Lib.hid (take_blk HS.out HR2.out)
              have HRun := Lib.hid (take_run (tp := sm) HR2.out)
              have HEnd := Lib.hid (share_end HS.out HR2.out)
              have HSta := Lib.hid (take_stays (tp := sm) HR2.out)
              rw [Hcc.out] at HRun HEnd HSta
              have Hd2 := Lib.hid HR2.out.done
              obtain ⟨R3, HR3⟩ : ∃ x, Hid (takeR cc 136 u sm r2 = x) := ⟨_, Lib.hid rfl⟩
              obtain ⟨W3, HW3⟩ : ∃ x, Hid (takeW ws 1 sm r2 = x) := ⟨_, Lib.hid rfl⟩
              rw [HW3.out] at HS2
              rw [HR3.out] at HRun HEnd HSta
              go_upto_region 20 with fail
              try simp only [Act.put]
              go_cut [19, 20] from 96 to 103 (fun vd ve wx => ∃ gZ, vd = .pointer (some ⟨gZ, 0, none⟩) ∧ ve = .int .i64 0 ∧ x4.heap.size ≤ gZ ∧ wx.heap[gZ]? = some (.cells R3.arr 42 (0, 0)) ∧ Arn wx p b W3 ∧ Keep [b] x4 wx)
              case first =>
                as_aux_lemma =>
                  refine wp_region_held_drew (S := fun W' => W'.heap[g_p]? = some (.cells #[.int .i64 2, .int .i64 2, .int .i64 8, .int .i64 320] 29 (0, 0)) ∧ W'.heap[g_g]? = some (.cells (runsA l2) 43 (0, 0))) (by kernel_rfl) (show x4.drew.heap[g_p]? = _ ∧ x4.drew.heap[g_g]? = _ from ⟨H_p.out, H_g.out⟩) ?_
                  intro hS
                  have hA : Arn x4.drew p b ws := HT.out.a.drew
                  have hK0 : Keep [b] x4 x4.drew := (Keep.refl _ _).drew
                  generalize x4.drew = y0 at hS hA hK0 ⊢
                  refine wpAnyH_take_at (i := 0) (v := .agg #[.int .i64 2, .int .i64 2, .int .i64 8, .int .i64 320]) (some 96) rfl rfl (by kernel_rfl) (by kernel_rfl) (by kernel_rfl) (fun _ _ _ h => h) (yieldsIf_load_row (by kernel_rfl) 29 (.tmp 8) rfl g_p rfl #[.int .i64 2, .int .i64 2, .int .i64 8, .int .i64 320] (fun W' hW' => hW'.1) undPln4 rfl infoPln4) (by assumption) ?_
                  try simp only [Act.put]
                  try simp only [List.setIfInBounds_toArray]
                  try simp only [List.set_cons_succ]
                  try simp only [List.set_cons_zero]
                  refine wpAnyH_take_at (i := 1) (v := ?v1x8) (some 97) rfl rfl (by kernel_rfl) (by kernel_rfl) (by kernel_rfl) (fun _ _ _ h => h) (Or.inl ⟨by kernel_rfl, ?h1x8⟩) (by assumption) ?r1x8
                  case h1x8 => (intro w' hSw; obtain ⟨s1, s2⟩ := hSw; go_simp; first | done | (with_reducible rfl))
                  try simp only [Act.put]
                  try simp only [List.setIfInBounds_toArray]
                  try simp only [List.set_cons_succ]
                  try simp only [List.set_cons_zero]
                  refine wpAnyH_take_at (i := 2) (v := ?v2x9) (some 98) rfl rfl (by kernel_rfl) (by kernel_rfl) (by kernel_rfl) (fun _ _ _ h => h) (Or.inl ⟨by kernel_rfl, ?h2x9⟩) (by assumption) ?r2x9
                  case h2x9 => (intro w' hSw; obtain ⟨s1, s2⟩ := hSw; go_simp; first | done | (with_reducible rfl))
                  try simp only [Act.put]
                  try simp only [List.setIfInBounds_toArray]
                  try simp only [List.set_cons_succ]
                  try simp only [List.set_cons_zero]
                  refine wpAnyH_take_at (i := 3) (v := ?v3x10) (some 99) rfl rfl (by kernel_rfl) (by kernel_rfl) (by kernel_rfl) (fun _ _ _ h => h) (Or.inl ⟨by kernel_rfl, ?h3x10⟩) (by assumption) ?r3x10
                  case h3x10 => (intro w' hSw; obtain ⟨s1, s2⟩ := hSw; go_simp; first | done | (with_reducible rfl))
                  try simp only [Act.put]
                  try simp only [List.setIfInBounds_toArray]
                  try simp only [List.set_cons_succ]
                  try simp only [List.set_cons_zero]
                  refine wpAnyH_take_at (i := 4) (v := .agg (Rn.arr r2)) (some 100) rfl rfl (by kernel_rfl) (by kernel_rfl) (by kernel_rfl) (fun _ _ _ h => h) (yieldsIf_load_sub (by kernel_rfl) 42 (.tmp 99) rfl g_g (kn * 26) rfl (runsA l2) (Rn.arr r2) (fun W' hW' => hW'.2) (fun j v hv => runs_get Hk2.out hv) undRun rfl infoRun) (by assumption) ?_
                  try simp only [Act.put]
                  try simp only [List.setIfInBounds_toArray]
                  try simp only [List.set_cons_succ]
                  try simp only [List.set_cons_zero]
                  refine wpAnyH_ready (rs := [5, 9]) (by kernel_rfl) (by simp) ?_
                  refine AllReadyH.cons rfl (fun K hK => ?_) (AllReadyH.cons rfl (fun K hK => ?_) AllReadyH.nil)
                  · skip
                    go_simp
                    refine (takeStep_any p b 1 2 2 8 320 ws cc 136 u sm r2 _ HPl.out hA HIn.out Hd2.out).mono ?_
                    rw [HR3.out, HW3.out]
                    rintro e' yS ⟨rfl, hA1, hK1⟩
                    go_simp
                    replace hK0 := hK0.trans hK1
                    clear hA
                    have hA := hA1
                    clear hA1
                    refine hK.out _ _ (⟨hK1.row hS.1 (by simpa using (HT.out.nb N_p.out).1), hK1.row hS.2 (by simpa using (HT.out.nb N_g.out).1)⟩) (fun hS => ?_)
                    clear hK K
                    try simp only [Act.put]
                    try simp only [List.setIfInBounds_toArray]
                    try simp only [List.set_cons_succ]
                    try simp only [List.set_cons_zero]
                    refine wpAnyH_take_at (i := 6) (v := ?v6x11) (some 95) rfl rfl (by kernel_rfl) (by kernel_rfl) (by kernel_rfl) (fun _ _ _ h => h) (Or.inl ⟨by kernel_rfl, ?h6x11⟩) (by assumption) ?r6x11
                    case h6x11 => (intro w' hSw; obtain ⟨s1, s2⟩ := hSw; go_simp; first | done | (with_reducible rfl))
                    try simp only [Act.put]
                    try simp only [List.setIfInBounds_toArray]
                    try simp only [List.set_cons_succ]
                    try simp only [List.set_cons_zero]
                    refine wpAnyH_take_at (i := 7) (v := ?v7x12) (some 102) rfl rfl (by kernel_rfl) (by kernel_rfl) (by kernel_rfl) (fun _ _ _ h => h) (Or.inl ⟨by kernel_rfl, ?h7x12⟩) (by assumption) ?r7x12
                    case h7x12 => (intro w' hSw; obtain ⟨s1, s2⟩ := hSw; go_simp; first | done | (with_reducible rfl))
                    try simp only [Act.put]
                    try simp only [List.setIfInBounds_toArray]
                    try simp only [List.set_cons_succ]
                    try simp only [List.set_cons_zero]
                    refine wpAnyH_take_at (i := 8) (v := ?v8x13) (some 103) rfl rfl (by kernel_rfl) (by kernel_rfl) (by kernel_rfl) (fun _ _ _ h => h) (Or.inl ⟨by kernel_rfl, ?h8x13⟩) (by assumption) ?r8x13
                    case h8x13 => (intro w' hSw; obtain ⟨s1, s2⟩ := hSw; go_simp; first | done | (with_reducible rfl))
                    try simp only [Act.put]
                    try simp only [List.setIfInBounds_toArray]
                    try simp only [List.set_cons_succ]
                    try simp only [List.set_cons_zero]
                    refine wpAnyH_ready (rs := [9]) (by kernel_rfl) (by simp) ?_
                    refine AllReadyH.cons rfl (fun K hK => ?_) AllReadyH.nil
                    refine step_alloc_run (some 19) rfl rfl rfl ?_
                    refine k_alloc (fun yZ hZ hb => ?_)
                    have hz1 := lt_of_heap hA.box
                    have hz2 := lt_of_heap hA.row
                    have hz3 := lt_of_heap hS.1
                    have hz5 := lt_of_heap hS.2
                    have hz4 := hK0.size
                    obtain ⟨gZ, HgZ⟩ : ∃ x, x = yS.heap.size := ⟨_, rfl⟩
                    rw [← HgZ] at hZ hz1 hz2 hz3 hz4 hz5 ⊢
                    clear HgZ
                    have hq1 : p ≠ gZ := by omega
                    have hq2 : gZ ≠ b := by omega
                    have hq3 : g_p ≠ gZ := by omega
                    have hq4 : g_g ≠ gZ := by omega
                    clear hz1 hz2 hz3 hz5
                    replace hA := hA.below hb
                    replace hK0 := hK0.call hb
                    refine hK.out _ _ (⟨row_below hS.1 hb, row_below hS.2 hb⟩) (fun hS => ?_)
                    clear hK K
                    try simp only [Act.put]
                    try simp only [List.setIfInBounds_toArray]
                    try simp only [List.set_cons_succ]
                    try simp only [List.set_cons_zero]
                    refine wpAnyH_ready (rs := [10]) (by kernel_rfl) (by simp) ?_
                    refine AllReadyH.cons rfl (fun K hK => ?_) AllReadyH.nil
                    refine step_store_row none rfl rfl 42 (.tmp 19) (.tmp 102) rfl gZ R3.arr rfl rfl 42 ZRun hZ infoRun rfl (Rn.one _) ?_
                    refine hK.out _ _ (⟨(setRow_other _ _ _ _ hq3).trans hS.1, (setRow_other _ _ _ _ hq4).trans hS.2⟩) (fun hS => ?_)
                    clear hK K
                    try simp only [Act.put]
                    try simp only [List.setIfInBounds_toArray]
                    try simp only [List.set_cons_succ]
                    try simp only [List.set_cons_zero]
                    refine wpAnyH_take_at (i := 11) (v := ?v11x14) (some 20) rfl rfl (by kernel_rfl) (by kernel_rfl) (by kernel_rfl) (fun _ _ _ h => h) (Or.inl ⟨by kernel_rfl, ?h11x14⟩) (by assumption) ?r11x14
                    case h11x14 => (intro w' hSw; obtain ⟨s1, s2⟩ := hSw; go_simp; first | done | (with_reducible rfl))
                    try simp only [Act.put]
                    try simp only [List.setIfInBounds_toArray]
                    try simp only [List.set_cons_succ]
                    try simp only [List.set_cons_zero]
                    refine wpAnyH_done (by kernel_rfl) ?_ _
                    go_wp2_with fail
                    go_meet
                    have hks := (Keep.refl [gZ] yZ).setRow (g := gZ) (.inl (by simp)) R3.arr
                    exact ⟨gZ, rfl, rfl, hz4, setRow_heap _ _ _ _ _ _ hZ, hA.kept hks (by simpa using hq1) (by simpa using fun e => hq2 e.symm), hK0.setRow (.inr hz4) _⟩
                  · skip
                    refine step_alloc_run (some 19) rfl rfl rfl ?_
                    refine k_alloc (fun yZ hZ hb => ?_)
                    have hz1 := lt_of_heap hA.box
                    have hz2 := lt_of_heap hA.row
                    have hz3 := lt_of_heap hS.1
                    have hz5 := lt_of_heap hS.2
                    have hz4 := hK0.size
                    obtain ⟨gZ, HgZ⟩ : ∃ x, x = y0.heap.size := ⟨_, rfl⟩
                    rw [← HgZ] at hZ hz1 hz2 hz3 hz4 hz5 ⊢
                    clear HgZ
                    have hq1 : p ≠ gZ := by omega
                    have hq2 : gZ ≠ b := by omega
                    have hq3 : g_p ≠ gZ := by omega
                    have hq4 : g_g ≠ gZ := by omega
                    clear hz1 hz2 hz3 hz5
                    replace hA := hA.below hb
                    replace hK0 := hK0.call hb
                    refine hK.out _ _ (⟨row_below hS.1 hb, row_below hS.2 hb⟩) (fun hS => ?_)
                    clear hK K
                    try simp only [Act.put]
                    try simp only [List.setIfInBounds_toArray]
                    try simp only [List.set_cons_succ]
                    try simp only [List.set_cons_zero]
                    refine wpAnyH_ready (rs := [5]) (by kernel_rfl) (by simp) ?_
                    refine AllReadyH.cons rfl (fun K hK => ?_) AllReadyH.nil
                    go_simp
                    refine (takeStep_any p b 1 2 2 8 320 ws cc 136 u sm r2 _ HPl.out hA HIn.out Hd2.out).mono ?_
                    rw [HR3.out, HW3.out]
                    rintro e' yS ⟨rfl, hA1, hK1⟩
                    go_simp
                    replace hK0 := hK0.trans hK1
                    replace hZ := hK1.row hZ (by simpa using hq2)
                    clear hA
                    have hA := hA1
                    clear hA1
                    refine hK.out _ _ (⟨hK1.row hS.1 (by simpa using (HT.out.nb N_p.out).1), hK1.row hS.2 (by simpa using (HT.out.nb N_g.out).1)⟩) (fun hS => ?_)
                    clear hK K
                    try simp only [Act.put]
                    try simp only [List.setIfInBounds_toArray]
                    try simp only [List.set_cons_succ]
                    try simp only [List.set_cons_zero]
                    refine wpAnyH_take_at (i := 6) (v := ?v6x15) (some 95) rfl rfl (by kernel_rfl) (by kernel_rfl) (by kernel_rfl) (fun _ _ _ h => h) (Or.inl ⟨by kernel_rfl, ?h6x15⟩) (by assumption) ?r6x15
                    case h6x15 => (intro w' hSw; obtain ⟨s1, s2⟩ := hSw; go_simp; first | done | (with_reducible rfl))
                    try simp only [Act.put]
                    try simp only [List.setIfInBounds_toArray]
                    try simp only [List.set_cons_succ]
                    try simp only [List.set_cons_zero]
                    refine wpAnyH_take_at (i := 7) (v := ?v7x16) (some 102) rfl rfl (by kernel_rfl) (by kernel_rfl) (by kernel_rfl) (fun _ _ _ h => h) (Or.inl ⟨by kernel_rfl, ?h7x16⟩) (by assumption) ?r7x16
                    case h7x16 => (intro w' hSw; obtain ⟨s1, s2⟩ := hSw; go_simp; first | done | (with_reducible rfl))
                    try simp only [Act.put]
                    try simp only [List.setIfInBounds_toArray]
                    try simp only [List.set_cons_succ]
                    try simp only [List.set_cons_zero]
                    refine wpAnyH_take_at (i := 8) (v := ?v8x17) (some 103) rfl rfl (by kernel_rfl) (by kernel_rfl) (by kernel_rfl) (fun _ _ _ h => h) (Or.inl ⟨by kernel_rfl, ?h8x17⟩) (by assumption) ?r8x17
                    case h8x17 => (intro w' hSw; obtain ⟨s1, s2⟩ := hSw; go_simp; first | done | (with_reducible rfl))
                    try simp only [Act.put]
                    try simp only [List.setIfInBounds_toArray]
                    try simp only [List.set_cons_succ]
                    try simp only [List.set_cons_zero]
                    refine wpAnyH_ready (rs := [10]) (by kernel_rfl) (by simp) ?_
                    refine AllReadyH.cons rfl (fun K hK => ?_) AllReadyH.nil
                    refine step_store_row none rfl rfl 42 (.tmp 19) (.tmp 102) rfl gZ R3.arr rfl rfl 42 ZRun hZ infoRun rfl (Rn.one _) ?_
                    refine hK.out _ _ (⟨(setRow_other _ _ _ _ hq3).trans hS.1, (setRow_other _ _ _ _ hq4).trans hS.2⟩) (fun hS => ?_)
                    clear hK K
                    try simp only [Act.put]
                    try simp only [List.setIfInBounds_toArray]
                    try simp only [List.set_cons_succ]
                    try simp only [List.set_cons_zero]
                    refine wpAnyH_take_at (i := 11) (v := ?v11x18) (some 20) rfl rfl (by kernel_rfl) (by kernel_rfl) (by kernel_rfl) (fun _ _ _ h => h) (Or.inl ⟨by kernel_rfl, ?h11x18⟩) (by assumption) ?r11x18
                    case h11x18 => (intro w' hSw; obtain ⟨s1, s2⟩ := hSw; go_simp; first | done | (with_reducible rfl))
                    try simp only [Act.put]
                    try simp only [List.setIfInBounds_toArray]
                    try simp only [List.set_cons_succ]
                    try simp only [List.set_cons_zero]
                    refine wpAnyH_done (by kernel_rfl) ?_ _
                    go_wp2_with fail
                    go_meet
                    have hks := (Keep.refl [gZ] yS).setRow (g := gZ) (.inl (by simp)) R3.arr
                    exact ⟨gZ, rfl, rfl, hz4, setRow_heap _ _ _ _ _ _ hZ, hA.kept hks (by simpa using hq1) (by simpa using fun e => hq2 e.symm), hK0.setRow (.inr hz4) _⟩
              case rest =>
                obtain ⟨g_o, rfl, rfl, hgo, hro, hA, hK⟩ := hcut
                obtain ⟨x5, hwx⟩ : ∃ x, x = wc := ⟨_, rfl⟩
                subst hwx
                have N_o : Hid (g_o ∉ [p, b, X, q, d]) := Lib.hid (HT.out.fresh hgo)
                have M_o_g : Hid (g_o ≠ g_g) := Lib.hid (by have := lt_of_heap H_g.out; omega)
                have M_o_h : Hid (g_o ≠ g_h) := Lib.hid (by have := lt_of_heap H_h.out; omega)
                clear hgo
                replace HAll := Lib.hid (HAll.out.kept hK (by rw [HFF.out]; simp))
                have hszK := hK.size
                replace H_cs := Lib.hid (hK.row H_cs.out (by simpa using (HT.out.nb N_cs.out).1))
                replace H_p := Lib.hid (hK.row H_p.out (by simpa using (HT.out.nb N_p.out).1))
                replace H_g := Lib.hid (hK.row H_g.out (by simpa using (HT.out.nb N_g.out).1))
                replace H_h := Lib.hid (hK.row H_h.out (by simpa using (HT.out.nb N_h.out).1))
                replace B := Lib.hid (HT.out.under B.out hK (by simp))
                replace HT := Lib.hid (HT.out.onA hA hK)
                clear hA hK hszK
                have H_o := Lib.hid (show x5.heap[g_o]? = some (.cells R3.arr 42 (0, 0)) from hro)
                clear hro
                go_upto_region 22 with (first | (refine wpList_load_row rfl 42 (.tmp 19) rfl g_o rfl 42 R3.arr (0, 0) _ H_o.out undRun rfl infoRun ?_; (try simp only [Act.put]); (try simp only [List.setIfInBounds_toArray]); (try simp only [List.set_cons_succ]); (try simp only [List.set_cons_zero])) | (refine wpList_store_sub rfl 42 (.tmp 106) (.tmp 105) rfl g_g (kn * 26) (Rn.arr R3) rfl rfl 43 _ H_g.out infoRun (by rw [runs_size]; have h1 := HlG.out; have h2 : (Rn.arr R3).size = 26 := rfl; omega) (Rn.one _) ?_; (try simp only [Act.put]); (try simp only [List.setIfInBounds_toArray]); (try simp only [List.set_cons_succ]); (try simp only [List.set_cons_zero])))
                rw [runs_set HlG.out R3]
                refine set_row' x5 g_g _ _ _ H_g.out ?_
                intro x6 hr hK
                have hszK := hK.size
                replace HAll := Lib.hid (HAll.out.kept hK (by rw [HFF.out]; simp))
                replace H_cs := Lib.hid (hK.row H_cs.out (by simpa using M_cs_g.out))
                replace H_p := Lib.hid (hK.row H_p.out (by simpa using M_p_g.out))
                replace H_h := Lib.hid (hK.row H_h.out (by simpa using M_h_g.out))
                replace H_o := Lib.hid (hK.row H_o.out (by simpa using M_o_g.out))
                replace HT := Lib.hid (HT.out.kept hK (fun j hj => by simp only [List.mem_singleton] at hj; subst hj; exact N_g.out))
                replace B := Lib.hid (Keep.under B.out hK (by have := B.out.size; omega) (by simp; exact L_g.out))
                replace H_g := Lib.hid hr
                clear hr hK hszK
                obtain ⟨dn3, Hdn3⟩ : ∃ x, Hid (R3.done = x) := ⟨_, Lib.hid rfl⟩
                have o_21 : x6.cell? ⟨g_o, 21, none⟩ = some (.bool dn3) := by rw [row_cell H_o.out]; rw [← Hdn3.out]; rfl
                have z_o := lt_of_heap H_o.out
                cases dn3 with
                | false =>
                  have hts := HEnd.out.1 Hdn3.out
                  have HS3 : Hid (BlkOk 2 W3 1 (upC ep) 136 u sm) := Lib.hid (by have h9 := HS2.out; rwa [hts] at h9)
                  clear hts
                  go_wp2_with fail
                  go_roundw
                  case rel => exact ⟨i + 1, n2, W3, sm, l2.set kn R3, by omega, hn1, hn2, rfl, rfl, by go_num, HS3.out, HAll.out.set kn (by
                      rcases HRun.out with h | h
                      · exact .inl h.1
                      · exact .inr ⟨ch, by have h9 := h.1; rwa [← Hcc.out] at h9⟩), HT.out, H_p.out, H_cs.out, H_g.out, H_h.out, B.out⟩
                  case measure => simp [intOf]; omega
                | true =>
                  clear o_21 z_o
                  obtain ⟨n, hnw, hn0, hn1', hcase⟩ := HEnd.out.2 Hdn3.out
                  have hbA := HR2.out.ca
                  have hbB := HR2.out.cb
                  have Hc3 : Hid (R3.c = r2.c) := Lib.hid HSta.out.2.2.2.2.1
                  obtain ⟨a0, Ha0⟩ : ∃ x, Hid (r2.c.a = x) := ⟨_, Lib.hid rfl⟩
                  obtain ⟨b0, Hb0⟩ : ∃ x, Hid (r2.c.b = x) := ⟨_, Lib.hid rfl⟩
                  rw [Ha0.out] at hbA hnw
                  rw [Hb0.out] at hbB hnw
                  obtain ⟨a00, a01⟩ := hbA
                  obtain ⟨b00, b01⟩ := hbB
                  have q1 : IntKind.i64.wrap (2 + a0) = 2 + a0 := IntWalk.i64_in _ (by omega)
                  have q2 : IntKind.i64.wrap (b0 + 7) = b0 + 7 := IntWalk.i64_in _ (by omega)
                  have q3 : (b0 + 7).tdiv 8 = (b0 + 7) / 8 := Int.tdiv_eq_ediv_of_nonneg (by omega)
                  have hnw2 : 2 + a0 + (b0 + 7) / 8 = n := hnw
                  have q5 : IntKind.i64.wrap (8 * n) = 8 * n := IntWalk.i64_in _ (by omega)
                  have o4 : x6.cell? ⟨g_o, 4, none⟩ = some (.int .i64 a0) := by rw [row_cell H_o.out, ← Ha0.out, ← Hc3.out]; rfl
                  have o5 : x6.cell? ⟨g_o, 5, none⟩ = some (.int .i64 b0) := by rw [row_cell H_o.out, ← Hb0.out, ← Hc3.out]; rfl
                  have o_21 : x6.cell? ⟨g_o, 21, none⟩ = some (.bool true) := by rw [row_cell H_o.out]; rw [← Hdn3.out]; rfl
                  have z_o := lt_of_heap H_o.out
                  go_upto_region 26 with fail
                  try simp only [hnw2]
                  clear hnw hnw2 q1 q2 q3 o4 o5
                  have Hsm := Lib.hid (And.intro HS.out.tp0 HS.out.tpb)
                  obtain ⟨s0, s1⟩ := Hsm.out
                  have q6 : IntKind.i64.wrap (sm + 8 * n) = sm + 8 * n := IntWalk.i64_in _ (by omega)
                  rcases hcase with ⟨h1, h2, h3⟩ | ⟨h1, h2, h3, h4⟩
                  · skip
                    have o_23 : x6.cell? ⟨g_o, 23, none⟩ = some (.int .i64 17) := by rw [row_cell H_o.out]; rw [← h2]; rfl
                    have t2 : decide (u < sm + 8 * n) = true := decide_eq_true (by omega)
                    have HS3 : Hid (BlkOk 2 W3 1 (upC ep) 136 u sm) := Lib.hid (by have h9 := HS2.out; rwa [h3] at h9)
                    clear h1 h3
                    go_wp2_with fail
                    go_roundw
                    case rel => exact ⟨i + 1, n2, W3, sm, l2.set kn R3, by omega, hn1, hn2, rfl, rfl, by go_num, HS3.out, HAll.out.set kn (by
                        rcases HRun.out with h | h
                        · exact .inl h.1
                        · exact .inr ⟨ch, by have h9 := h.1; rwa [← Hcc.out] at h9⟩), HT.out, H_p.out, H_cs.out, H_g.out, H_h.out, B.out⟩
                    case measure => simp [intOf]; omega
                  · skip
                    obtain ⟨hd, Hhd⟩ : ∃ x, Hid (R3.an = x) := ⟨_, Lib.hid rfl⟩
                    have HUp : Hid (unpackR hd = ((1, ep, 136 + sm), 0) ∧ 0 ≤ hd ∧ hd ≤ 9223372036854775807) := Lib.hid (by rw [← Hhd.out, h3]; exact share_hdl HS.out (by omega) ep0 ep1)
                    obtain ⟨_, hd0, hd1⟩ := HUp.out
                    have hu9 : IntKind.u64.wrap hd = hd := by rw [IntKind.wrap_u64]; omega
                    have HS3 : Hid (BlkOk 2 W3 1 (upC ep) 136 u (sm + 8 * n)) := Lib.hid (by have h9 := HS2.out; rwa [h4] at h9)
                    have o24 : x6.cell? ⟨g_o, 24, none⟩ = some (.int .i64 hd) := by rw [row_cell H_o.out, ← Hhd.out]; rfl
                    have o_23 : x6.cell? ⟨g_o, 23, none⟩ = some (.int .i64 0) := by rw [row_cell H_o.out]; rw [← h2]; rfl
                    have H2 := Lib.hid h2
                    have H1 := Lib.hid h1
                    clear h1 h2 h3 h4
                    go_wp2_with fail
                    clear o_21 z_o o_23
                    refine (runpackR_as HUp.out.1 hd0 (by omega) _).mono ?_
                    rintro r x7 ⟨rfl, hb⟩
                    clear o24
                    replace HAll := Lib.hid (HAll.out.below hb)
                    have hsz := (hb).size
                    replace H_cs := Lib.hid (row_below H_cs.out hb)
                    replace H_p := Lib.hid (row_below H_p.out hb)
                    replace H_g := Lib.hid (row_below H_g.out hb)
                    replace H_h := Lib.hid (row_below H_h.out hb)
                    replace H_o := Lib.hid (row_below H_o.out hb)
                    replace HT := Lib.hid (HT.out.below hb)
                    replace B := Lib.hid (below_only B.out hb)
                    clear hb hsz
                    go_upto_region 28 with fail
                    refine one_row x7 _ _ ?_
                    intro x8 hr hb
                    have hlB := B.out.size
                    have hfr := HT.out.fresh (Nat.le_refl x7.heap.size)
                    have hl_h := lt_of_heap H_h.out
                    replace HAll := Lib.hid (HAll.out.below hb)
                    have hsz := (hb).size
                    replace H_cs := Lib.hid (row_below H_cs.out hb)
                    replace H_p := Lib.hid (row_below H_p.out hb)
                    replace H_g := Lib.hid (row_below H_g.out hb)
                    replace H_h := Lib.hid (row_below H_h.out hb)
                    replace H_o := Lib.hid (row_below H_o.out hb)
                    replace HT := Lib.hid (HT.out.below hb)
                    replace B := Lib.hid (below_only B.out hb)
                    clear hb hsz
                    have H_f := Lib.hid (show x8.heap[x7.heap.size]? = some (.cells #[.int .i64 1, .int .i64 ep, .int .i64 (136 + sm)] 69 (0, 0)) from hr)
                    clear hr
                    obtain ⟨g_f, hg_f⟩ : ∃ x, x = x7.heap.size := ⟨_, rfl⟩
                    rw [← hg_f] at H_f ⊢
                    have N_f : Hid (g_f ∉ [p, b, X, q, d]) := Lib.hid (by rw [hg_f]; exact hfr)
                    clear hfr
                    have M_h_f : Hid (g_h ≠ g_f) := Lib.hid (by omega)
                    have M_f_h : Hid (g_f ≠ g_h) := Lib.hid (by omega)
                    clear hl_h
                    have L_f : Hid (w.heap.size ≤ g_f) := Lib.hid (by omega)
                    clear hg_f hlB
                    have o_23 : x8.cell? ⟨g_o, 23, none⟩ = some (.int .i64 0) := by rw [row_cell H_o.out]; rw [← H2.out]; rfl
                    have z_o := lt_of_heap H_o.out
                    obtain ⟨f_0, f_1, f_2, f_f0, f_f1, f_f2⟩ := box3 H_f.out
                    have z_f := lt_of_heap H_f.out
                    have h1 := H1.out
                    have v1 : IntKind.i64.wrap (136 + sm + 8 * n) = 136 + sm + 8 * n := IntWalk.i64_in _ (by omega)
                    have v2 : IntKind.i64.wrap (136 + u) = 136 + u := IntWalk.i64_in _ (by omega)
                    have v3 : decide (136 + u < 136 + sm + 8 * n) = false := decide_eq_false (by omega)
                    have v4 : decide (136 + sm < 136) = false := decide_eq_false (by omega)
                    obtain ⟨m, hm⟩ : ∃ m : Nat, (m : Int) = n := ⟨n.toNat, by omega⟩
                    obtain ⟨k8, hk8⟩ : ∃ k : Nat, (k : Int) * 8 = sm := ⟨(sm / 8).toNat, by have := HS.out.tp8; omega⟩
                    have Hk8 : Hid ((sm / 8).toNat = k8 ∧ ((sm + 8 * n) / 8).toNat = k8 + m) := Lib.hid (by omega)
                    have Hmk : Hid (k8 + m ≤ 33) := Lib.hid (by omega)
                    have hd8 : (8 * n).tdiv 8 = (m : Int) := by rw [Int.tdiv_eq_ediv_of_nonneg (by omega)]; omega
                    have hd8' : (8 * n) / 8 = (m : Int) := by omega
                    have hs8 : sm.tdiv 8 = (k8 : Int) := by rw [Int.tdiv_eq_ediv_of_nonneg (by omega)]; omega
                    have hs8' : sm / 8 = (k8 : Int) := by omega
                    have hsb : 136 + sm - 136 = sm := by omega
                    rw [Hk8.out.1] at H_h
                    clear hm hk8 h1
                    go_wp2_with fail
                    clear o_23 z_o f_0 f_1 f_2 f_f0 f_f1 f_f2 z_f
                    go_loopw [24] (fun tt wz => ∃ j : Nat, j ≤ m ∧ tt = .int .i64 j ∧ wz.heap[g_cs]? = some (.cells #[.slice A L.length cp, .int .u64 tn] 26 (0, 0)) ∧ wz.heap[g_p]? = some (.cells #[.int .i64 2, .int .i64 2, .int .i64 8, .int .i64 320] 29 (0, 0)) ∧ wz.heap[g_g]? = some (.cells (runsA (l2.set kn R3)) 43 (0, 0)) ∧ wz.heap[g_h]? = some (.cells (heldA (k8 + j)) 77 (0, 0)) ∧ wz.heap[g_o]? = some (.cells R3.arr 42 (0, 0)) ∧ wz.heap[g_f]? = some (.cells #[.int .i64 1, .int .i64 ep, .int .i64 (136 + sm)] 69 (0, 0)) ∧ TwoW w.heap.size wz p b X q d 2 2 8 320 W3 WS ∧ Below w.heap.size w wz ∧ AllS ep u wz FF 2 l2) (fun t _ => ((m : Int) - intOf t).toNat)
                    case atStart => exact ⟨0, by omega, rfl, H_cs.out, H_p.out, H_g.out, (by rw [Nat.add_zero]; exact H_h.out), H_o.out, H_f.out, HT.out, B.out, HAll.out⟩
                    case round =>
                      clear H_cs H_p H_g H_h H_o H_f HT B HAll
                      obtain ⟨j, hj, rfl, hrel⟩ := hrel
                      obtain ⟨hq_H_cs, hq_H_p, hq_H_g, hq_H_h, hq_H_o, hq_H_f, hq_HT, hq_B, hq_HAll⟩ := hrel
                      have H_cs := Lib.hid hq_H_cs
                      have H_p := Lib.hid hq_H_p
                      have H_g := Lib.hid hq_H_g
                      have H_h := Lib.hid hq_H_h
                      have H_o := Lib.hid hq_H_o
                      have H_f := Lib.hid hq_H_f
                      have HT := Lib.hid hq_HT
                      have B := Lib.hid hq_B
                      have HAll := Lib.hid hq_HAll
                      clear hq_H_cs hq_H_p hq_H_g hq_H_h hq_H_o hq_H_f hq_HT hq_B hq_HAll
                      by_cases hjm : j < m
                      · skip
                        have hkj := Hmk.out
                        have hjI : (j : Int) < (m : Int) := by omega
                        have w1 : IntKind.i64.wrap ((k8 : Int) + (j : Int)) = ((k8 + j : Nat) : Int) := by rw [show ((k8 : Int) + (j : Int)) = ((k8 + j : Nat) : Int) by omega]; exact IntWalk.i64_in _ (by omega)
                        obtain ⟨e, he⟩ : ∃ e : Nat, e = k8 + j := ⟨_, rfl⟩
                        rw [← he] at w1 H_h
                        have e64 : e < 64 := by omega
                        have eI : (e : Int) < 64 := by omega
                        have eI0 : (0 : Int) ≤ (e : Int) := by omega
                        have w2 : decide ((64 : Int) ≤ (e : Int)) = false := decide_eq_false (by omega)
                        have w3 : decide ((e : Int) < 0) = false := decide_eq_false (by omega)
                        have w4 : (k8 : Int) + (j : Int) = (e : Int) := by omega
                        have c0 := held_cell H_h.out e64
                        have f0 : wr.frozen? ⟨g_h, e, none⟩ = false := row_frozen H_h.out _
                        have zh := lt_of_heap H_h.out
                        have Hhs := Lib.hid (held_set e64)
                        have He := Lib.hid he
                        clear he
                        obtain ⟨f_0, f_1, f_2, f_f0, f_f1, f_f2⟩ := box3 H_f.out
                        have z_f := lt_of_heap H_f.out
                        go_upto_region 32 with fail
                        clear f_0 f_1 f_2 f_f0 f_f1 f_f2 z_f
                        clear c0 f0 zh
                        refine set_oneR wr g_h e _ _ _ H_h.out ?_
                        intro z1 hr hK
                        rw [Hhs.out] at hr
                        replace H_cs := Lib.hid (hK.row H_cs.out (by simpa using M_cs_h.out))
                        replace H_p := Lib.hid (hK.row H_p.out (by simpa using M_p_h.out))
                        replace H_g := Lib.hid (hK.row H_g.out (by simpa using M_g_h.out))
                        replace H_o := Lib.hid (hK.row H_o.out (by simpa using M_o_h.out))
                        replace H_f := Lib.hid (hK.row H_f.out (by simpa using fun e => M_f_h.out e))
                        replace HAll := Lib.hid (HAll.out.kept hK (by rw [HFF.out]; simp))
                        replace HT := Lib.hid (HT.out.kept hK (fun j hj => by simp only [List.mem_singleton] at hj; subst hj; exact N_h.out))
                        replace B := Lib.hid (Keep.under B.out hK (by have := B.out.size; omega) (by simp; exact L_h.out))
                        replace H_h := Lib.hid hr
                        clear hr hK
                        go_wp2_with fail
                        go_roundw
                        case rel => exact ⟨j + 1, by omega, by go_num, H_cs.out, H_p.out, H_g.out, (by rw [show k8 + (j + 1) = e + 1 by have := He.out; omega]; exact H_h.out), H_o.out, H_f.out, HT.out, B.out, HAll.out⟩
                        case measure => simp [intOf]; omega
                      · skip
                        obtain rfl : j = m := by omega
                        rw [← Hk8.out.2] at H_h
                        go_wp2_with fail
                        go_roundw
                        case rel => exact ⟨i + 1, n2, W3, (sm + 8 * n), l2.set kn R3, by omega, hn1, hn2, rfl, rfl, by go_num, HS3.out, HAll.out.set kn (by
                            rcases HRun.out with h | h
                            · exact .inl h.1
                            · exact .inr ⟨ch, by have h9 := h.1; rwa [← Hcc.out] at h9⟩), HT.out, H_p.out, H_cs.out, H_g.out, H_h.out, B.out⟩
                        case measure => simp [intOf]; omega
      · have h160 : i = 160 := by omega
        subst h160
        clear hlt
        go_wp2_with fail
        go_meet
        exact ⟨ws, sm, rfl, HS.out, HT.out, B.out⟩
  case rest =>
    obtain ⟨ws, sm, rfl, hS, hT, hB⟩ := hcut
    obtain ⟨z0, hwx⟩ : ∃ x, x = wc := ⟨_, rfl⟩
    subst hwx
    clear HT B HAll H_p H_cs H_g H_h HS0 HB1
    have HT := Lib.hid hT
    have B := Lib.hid hB
    have s0 := hS.tp0
    have s1 := hS.tpb
    have HWn : Hid (Calls Try.prog 15 #[.pointer (some ⟨p, 0, none⟩), .int .i64 88] z0 fun r w' => r = .returned (.tuple #[.int .u64 sm, .int .i64 0]) ∧ w' = z0) := Lib.hid (arnWord_any p b ws 11 sm z0 HT.out.a hS.blk.tp)
    have hu9 : IntKind.u64.wrap sm = sm := by rw [IntKind.wrap_u64]; omega
    clear hT hB hS
    go_wp2_with fail
    refine (rplanAt_any 3 1 _ (by decide) (by decide)).mono ?_
    rintro r za ⟨rfl, e2⟩
    rw [e2]
    clear e2 za
    go_wp2_with fail
    refine HWn.out.mono ?_
    rintro r za ⟨rfl, e2⟩
    rw [e2]
    clear e2 za
    have B2 := B.out
    clear B
    go_wp2_with fail
    go_ret
    exact ⟨by first | rfl | simp, B2⟩

end Go.Proofs.Ytoadddfiibeenaa
