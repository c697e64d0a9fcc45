/- Layer 15: the walk of TakePlays. (Printed.) -/
import Derived.Test.YtoadddfiibeenaaArr2
namespace Go.Proofs.Ytoadddfiibeenaa
open Go.RowKit
set_option linter.unusedVariables false
set_option linter.unusedSimpArgs false

set_option maxRecDepth 100000 in
set_option maxHeartbeats 16000000 in
theorem takePlays_walk (size ep : Int) (A : Option Addr) (cp : Nat) (L : List Tkk) (tn : Int) (w : World) (z0 : (Lit.int .u8 size).wf = true) (z1 : (Lit.int .u16 ep).wf = true) (hc0 : L.length ≤ cp ∧ cp ≤ maxLen ∧ Cells w A (L.flatMap tkCells) ∧ ∀ t ∈ L, TkOk t) (htn : 0 ≤ tn ∧ tn ≤ 18446744073709551615) :
    Calls Try.prog 3 #[.int .u8 size, .int .u16 ep, .agg #[.slice A L.length cp, .int .u64 tn]] w fun r w' => r = .returned (.bool true) ∧ Below w.heap.size w w' := by
  obtain ⟨hLk, hkm, hL, hq⟩ := hc0
  have hlm : L.length ≤ 9223372036854775807 := by unfold maxLen at hkm; omega
  have HL0 := Lib.hid hL
  have Hq := Lib.hid hq
  obtain ⟨tn0, tn1⟩ := htn
  clear hL hq hkm
  have hsz0 := wf_u8 z0
  have hep0 := wf_u16 z1
  obtain ⟨se0, se1⟩ := hsz0
  obtain ⟨ep0, ep1⟩ := hep0
  have HBo : Hid (BothOk 2 200 (8 + size) ep) := Lib.hid ⟨by decide, by decide, by decide, by omega, by omega⟩
  have HS0 := Lib.hid (st2_both HBo.out)
  have HPl := Lib.hid HBo.out.plan
  clear z0 z1
  go_enter Try.func3, Try.ntmps3
  have B := Lib.hid (Below.refl w.heap.size w)
  go_upto_region 1 with fail
  refine one_row w _ _ ?_
  intro w0 hr hb
  have hlB := B.out.size
  have hsz := (hb).size
  replace B := Lib.hid (below_only B.out hb)
  clear hb hsz
  have H_cs := Lib.hid (show w0.heap[w.heap.size]? = some (.cells #[.slice A L.length cp, .int .u64 tn] 26 (0, 0)) from hr)
  clear hr
  obtain ⟨g_cs, hg_cs⟩ : ∃ x, x = w.heap.size := ⟨_, rfl⟩
  rw [← hg_cs] at H_cs ⊢
  have L_cs : Hid (w.heap.size ≤ g_cs) := Lib.hid (by omega)
  clear hg_cs hlB
  go_wp2_with fail
  refine (shown15_any _).mono ?_
  rintro r w1 ⟨rfl, hb⟩
  have hsz := (hb).size
  replace H_cs := Lib.hid (row_below H_cs.out hb)
  replace B := Lib.hid (below_only B.out hb)
  clear hb hsz
  go_upto_region 3 with fail
  refine one_row w1 _ _ ?_
  intro w2 hr hb
  have hlB := B.out.size
  have hl_cs := lt_of_heap H_cs.out
  have hsz := (hb).size
  replace H_cs := Lib.hid (row_below H_cs.out hb)
  replace B := Lib.hid (below_only B.out hb)
  clear hb hsz
  have H_p := Lib.hid (show w2.heap[w1.heap.size]? = some (.cells #[.int .i64 2, .int .i64 2, .int .i64 200, .int .i64 320] 29 (0, 0)) from hr)
  clear hr
  obtain ⟨g_p, hg_p⟩ : ∃ x, x = w1.heap.size := ⟨_, rfl⟩
  rw [← hg_p] at H_p ⊢
  have M_cs_p : Hid (g_cs ≠ g_p) := Lib.hid (by omega)
  have M_p_cs : Hid (g_p ≠ g_cs) := Lib.hid (by omega)
  clear hl_cs
  have L_p : Hid (w.heap.size ≤ g_p) := Lib.hid (by omega)
  clear hg_p hlB
  obtain ⟨p_0, p_1, p_2, p_3, p_f0, p_f1, p_f2, p_f3⟩ := box4 H_p.out
  have z_p := lt_of_heap H_p.out
  go_wp2_with fail
  clear p_0 p_1 p_2 p_3 p_f0 p_f1 p_f2 p_f3 z_p
  refine (both_any 2 200 (8 + size) ep _ HBo.out).mono ?_
  rintro r w3 ⟨p, b, X, q, d, rfl, hT, hb⟩
  have HT0 := Lib.hid hT
  have hlp := lt_of_heap H_p.out
  have hlc := lt_of_heap H_cs.out
  have HBB := Lib.hid B.out.size
  clear hT
  obtain ⟨wl, hwl⟩ : ∃ x, x = w2.heap.size := ⟨_, rfl⟩
  rw [← hwl] at hlp hlc HT0 HBB
  have hsz := (hb).size
  replace H_cs := Lib.hid (row_below H_cs.out hb)
  replace H_p := Lib.hid (row_below H_p.out hb)
  replace B := Lib.hid (below_only B.out hb)
  clear hb hsz
  have N_p : Hid (g_p ∉ [p, b, X, q, d]) := Lib.hid (HT0.out.elder hlp)
  have N_cs : Hid (g_cs ∉ [p, b, X, q, d]) := Lib.hid (HT0.out.elder hlc)
  have HT : Hid (TwoW w.heap.size w3 p b X q d 2 2 200 320 (bothWs 200 (8 + size) ep) (bothWs 200 (8 + size) ep)) := Lib.hid { HT0.out with low := by have := HT0.out.low; have := HBB.out; omega }
  clear HT0 hlp hlc hwl HBB
  obtain ⟨WS, HWS⟩ : ∃ x, Hid (bothWs 200 (8 + size) ep = x) := ⟨_, Lib.hid rfl⟩
  rw [HWS.out] at HT HS0
  obtain ⟨u, Hu⟩ : ∃ x, Hid (up8 (8 + size) = x) := ⟨_, Lib.hid rfl⟩
  rw [Hu.out] at HS0
  go_upto_region 7 with (first | (refine wpList_build_to rfl 42 _ rfl dRn.arr (by simp only [List.map_toArray, List.map_cons, List.map_nil]; exact built_d) ?_; (try simp only [Act.put]); (try simp only [List.setIfInBounds_toArray]); (try simp only [List.set_cons_succ]); (try simp only [List.set_cons_zero])) | (refine wpList_build_to rfl 43 _ rfl (runsA [dRn, dRn]) (by simp only [List.map_toArray, List.map_cons, List.map_nil]; exact built_2R dRn dRn) ?_; (try simp only [Act.put]); (try simp only [List.setIfInBounds_toArray]); (try simp only [List.set_cons_succ]); (try simp only [List.set_cons_zero])) | (refine wpList_alloc_to rfl 43 rfl _ (alloc2R _) ?_; (try simp only [Act.put]); (try simp only [List.setIfInBounds_toArray]); (try simp only [List.set_cons_succ]); (try simp only [List.set_cons_zero])) | (refine wpList_store_row rfl 43 (.tmp 11) (.tmp 45) rfl w3.heap.size (runsA [dRn, dRn]) rfl rfl 43 _ (row_new _ _ _) info2R rfl (runs_one _) ?_; (try simp only [Act.put]); (try simp only [List.setIfInBounds_toArray]); (try simp only [List.set_cons_succ]); (try simp only [List.set_cons_zero])))
  refine alloc_set' w3 _ _ _ ?_
  intro w4 hr hb
  have hlB := B.out.size
  have hfr := HT.out.fresh (Nat.le_refl w3.heap.size)
  have hl_cs := lt_of_heap H_cs.out
  have hl_p := lt_of_heap H_p.out
  have hsz := (hb).size
  replace H_cs := Lib.hid (row_below H_cs.out hb)
  replace H_p := Lib.hid (row_below H_p.out hb)
  replace HT := Lib.hid (HT.out.below hb)
  replace B := Lib.hid (below_only B.out hb)
  clear hb hsz
  have H_g := Lib.hid (show w4.heap[w3.heap.size]? = some (.cells (runsA [dRn, dRn]) 43 (0, 0)) from hr)
  clear hr
  obtain ⟨g_g, hg_g⟩ : ∃ x, x = w3.heap.size := ⟨_, rfl⟩
  rw [← hg_g] at H_g ⊢
  have N_g : Hid (g_g ∉ [p, b, X, q, d]) := Lib.hid (by rw [hg_g]; exact hfr)
  clear hfr
  have M_cs_g : Hid (g_cs ≠ g_g) := Lib.hid (by omega)
  have M_g_cs : Hid (g_g ≠ g_cs) := Lib.hid (by omega)
  clear hl_cs
  have M_p_g : Hid (g_p ≠ g_g) := Lib.hid (by omega)
  have M_g_p : Hid (g_g ≠ g_p) := Lib.hid (by omega)
  clear hl_p
  have L_g : Hid (w.heap.size ≤ g_g) := Lib.hid (by omega)
  clear hg_g hlB
  go_upto_region 8 with (first | (refine wpList_load_row rfl 43 (.tmp 11) rfl g_g rfl 43 (runsA [dRn, dRn]) (0, 0) _ H_g.out und2R rfl info2R ?_; (try simp only [Act.put]); (try simp only [List.setIfInBounds_toArray]); (try simp only [List.set_cons_succ]); (try simp only [List.set_cons_zero])) | (refine wpList_alloc_to rfl 43 rfl _ (alloc2R _) ?_; (try simp only [Act.put]); (try simp only [List.setIfInBounds_toArray]); (try simp only [List.set_cons_succ]); (try simp only [List.set_cons_zero])) | (refine wpList_store_row rfl 43 (.tmp 12) (.tmp 46) rfl w4.heap.size (runsA [dRn, dRn]) rfl rfl 43 _ (row_new _ _ _) info2R rfl (runs_one _) ?_; (try simp only [Act.put]); (try simp only [List.setIfInBounds_toArray]); (try simp only [List.set_cons_succ]); (try simp only [List.set_cons_zero])))
  refine alloc_set' w4 _ _ _ ?_
  intro w5 hr hb
  have hlB := B.out.size
  have hfr := HT.out.fresh (Nat.le_refl w4.heap.size)
  have hl_cs := lt_of_heap H_cs.out
  have hl_p := lt_of_heap H_p.out
  have hl_g := lt_of_heap H_g.out
  have hsz := (hb).size
  replace H_cs := Lib.hid (row_below H_cs.out hb)
  replace H_p := Lib.hid (row_below H_p.out hb)
  replace H_g := Lib.hid (row_below H_g.out hb)
  replace HT := Lib.hid (HT.out.below hb)
  replace B := Lib.hid (below_only B.out hb)
  clear hb hsz
  have H_h := Lib.hid (show w5.heap[w4.heap.size]? = some (.cells (runsA [dRn, dRn]) 43 (0, 0)) from hr)
  clear hr
  obtain ⟨g_h, hg_h⟩ : ∃ x, x = w4.heap.size := ⟨_, rfl⟩
  rw [← hg_h] at H_h ⊢
  have N_h : Hid (g_h ∉ [p, b, X, q, d]) := Lib.hid (by rw [hg_h]; exact hfr)
  clear hfr
  have M_cs_h : Hid (g_cs ≠ g_h) := Lib.hid (by omega)
  have M_h_cs : Hid (g_h ≠ g_cs) := Lib.hid (by omega)
  clear hl_cs
  have M_p_h : Hid (g_p ≠ g_h) := Lib.hid (by omega)
  have M_h_p : Hid (g_h ≠ g_p) := Lib.hid (by omega)
  clear hl_p
  have M_g_h : Hid (g_g ≠ g_h) := Lib.hid (by omega)
  have M_h_g : Hid (g_h ≠ g_g) := Lib.hid (by omega)
  clear hl_g
  have L_h : Hid (w.heap.size ≤ g_h) := Lib.hid (by omega)
  clear hg_h hlB
  obtain ⟨FF, HFF⟩ : ∃ x, Hid (x = [b, d, g_g, g_h]) := ⟨_, Lib.hid rfl⟩
  have HAll : Hid (AllK 200 ep u w5 FF 2 [dRn, dRn]) := Lib.hid ⟨rfl, fun r hr => .inl (by simp at hr; rw [hr]; rfl)⟩
  try simp only [Act.put]
  go_upto_block 0 with fail
  try simp only [Act.put]
  go_cut [] from 14 to 134 (fun wx => ∃ ws, ws.length = 81 ∧ TwoW w.heap.size wx p b X q d 2 2 200 320 ws ws ∧ Below w.heap.size w wx)
  case first =>
    go_wp2_with fail
    go_loopw [13, 14] (fun t13 t14 wr => ∃ (i nx : Nat) (ws : List Int) (t : Bool → Int) (l : List Rn), i ≤ 160 ∧ nx ≤ L.length ∧ nx ≤ 20 ∧ t13 = .int .i64 nx ∧ t14 = .int .i64 i ∧ St2 200 ep u 81 ws t ∧ AllK 200 ep u wr FF 2 l ∧ TwoW w.heap.size wr p b X q d 2 2 200 320 ws ws ∧ wr.heap[g_p]? = some (.cells #[.int .i64 2, .int .i64 2, .int .i64 200, .int .i64 320] 29 (0, 0)) ∧ wr.heap[g_cs]? = some (.cells #[.slice A L.length cp, .int .u64 tn] 26 (0, 0)) ∧ wr.heap[g_g]? = some (.cells (runsA l) 43 (0, 0)) ∧ wr.heap[g_h]? = some (.cells (runsA l) 43 (0, 0)) ∧ Below w.heap.size w wr) (fun _ t _ => (160 - intOf t).toNat)
    case atStart => exact ⟨0, 0, WS, _, _, by omega, by omega, by omega, rfl, rfl, HS0.out, HAll.out, HT.out, H_p.out, H_cs.out, H_g.out, H_h.out, B.out⟩
    case round =>
      clear HT H_p H_cs H_g H_h B HS0 HAll
      obtain ⟨i, nx, ws, t, l, hi, hn1, hn2, rfl, rfl, hS, hall, hT, hp, hcs, hg, hh, hB⟩ := hrel
      have HS := Lib.hid hS
      have HAll := Lib.hid hall
      have HT := Lib.hid hT
      have H_p := Lib.hid hp
      have H_cs := Lib.hid hcs
      have H_g := Lib.hid hg
      have H_h := Lib.hid hh
      have B := Lib.hid hB
      clear hS hall hT hp hcs hg hh hB
      by_cases hlt : i < 160
      · skip
        have hltI : (i : Int) < 160 := by omega
        have hltB : decide ((i : Int) < 160) = true := decide_eq_true hltI
        have cs_0 : wr.cell? ⟨g_cs, 0, none⟩ = some (.slice A L.length cp) := by rw [row_cell H_cs.out]; rfl
        have cs_1 : wr.cell? ⟨g_cs, 1, none⟩ = some (.int .u64 tn) := by rw [row_cell H_cs.out]; rfl
        have z_cs := lt_of_heap H_cs.out
        go_upto_region 12 with fail
        try simp only [Act.put]
        go_cut [15] from 51 to 57 (fun v wx => ∃ kn : Nat, kn < 2 ∧ v = .int .i64 kn ∧ wr = wx)
        case first =>
          have m1 : bits .and .i64 (i : Int) 63 = (i : Int) % 64 := mask6 _
          go_wp2_with fail
          go_meet
          exact (bit_ex _).imp fun kn h => ⟨h.1, h.2, rfl⟩
        case rest =>
          clear cs_0 cs_1 z_cs
          obtain ⟨kn, hkn2, rfl, hwx⟩ := hcut
          subst hwx
          have hkI : (kn : Int) < 2 := by omega
          have hkI0 : (0 : Int) ≤ (kn : Int) := by omega
          obtain ⟨rk, hrk⟩ : ∃ r, l[kn]? = some r := ⟨_, List.getElem?_eq_getElem (by rw [HAll.out.1]; exact hkn2)⟩
          have HRk := Lib.hid hrk
          clear hrk
          obtain ⟨dn, Hdn⟩ : ∃ x, Hid (rk.done = x) := ⟨_, Lib.hid rfl⟩
          by_cases hbr : dn = true ∧ ¬ (nx < L.length ∧ nx < 20)
          · skip
            obtain ⟨hdn, hnn⟩ := hbr
            subst hdn
            have d8 : wr.cell? ⟨g_g, kn * 26 + 21, none⟩ = some (.bool true) := runs_cell H_g.out HRk.out (by rw [← Hdn.out]; rfl)
            have z_g := lt_of_heap H_g.out
            have cs_0 : wr.cell? ⟨g_cs, 0, none⟩ = some (.slice A L.length cp) := by rw [row_cell H_cs.out]; rfl
            have cs_1 : wr.cell? ⟨g_cs, 1, none⟩ = some (.int .u64 tn) := by rw [row_cell H_cs.out]; rfl
            have z_cs := lt_of_heap H_cs.out
            by_cases hl : nx < L.length
            · have hl2 : ¬ nx < 20 := fun h => hnn ⟨hl, h⟩
              have hI : (20 : Int) ≤ (nx : Int) := by omega
              have hB2 : decide ((L.length : Int) ≤ (nx : Int)) = false := decide_eq_false (by omega)
              have hB3 : decide ((20 : Int) ≤ (nx : Int)) = true := decide_eq_true hI
              go_wp2_with fail
              go_meet
              exact ⟨ws, HS.out.len, HT.out, B.out⟩
            · have hI : (L.length : Int) ≤ (nx : Int) := by omega
              have hB2 : decide (L.length ≤ nx) = true := decide_eq_true (by omega)
              go_wp2_with fail
              go_meet
              exact ⟨ws, HS.out.len, HT.out, B.out⟩
          · skip
            have d8 : wr.cell? ⟨g_g, kn * 26 + 21, none⟩ = some (.bool dn) := runs_cell H_g.out HRk.out (by rw [← Hdn.out]; rfl)
            have z_g := lt_of_heap H_g.out
            have cs_0 : wr.cell? ⟨g_cs, 0, none⟩ = some (.slice A L.length cp) := by rw [row_cell H_cs.out]; rfl
            have cs_1 : wr.cell? ⟨g_cs, 1, none⟩ = some (.int .u64 tn) := by rw [row_cell H_cs.out]; rfl
            have z_cs := lt_of_heap H_cs.out
            go_upto_if 61 with fail
            clear d8 z_g cs_0 cs_1 z_cs
            try simp only [Act.put]
            go_cut [13, 16] from 61 to 93 (fun va vb wx => ∃ (n2 : Nat) (l2 : List Rn) (r2 : Rn) (inb : Bool) (cA : Option Addr) (kc : Nat), n2 ≤ L.length ∧ n2 ≤ 20 ∧ va = .int .i64 n2 ∧ l2[kn]? = some r2 ∧ TkRun (chK inb) (cOf ep inb) (baOf 200 inb) (buOf 200 u inb) ⟨cA, (chE inb).length, kc⟩ r2 ∧ Ents wx cA (chE inb) ∧ (∀ z, 0 < (chE inb).length → cA = some z → z.block ∉ FF) ∧ AllK 200 ep u wx FF 2 l2 ∧ TwoW w.heap.size wx p b X q d 2 2 200 320 ws ws ∧ wx.heap[g_p]? = some (.cells #[.int .i64 2, .int .i64 2, .int .i64 200, .int .i64 320] 29 (0, 0)) ∧ wx.heap[g_cs]? = some (.cells #[.slice A L.length cp, .int .u64 tn] 26 (0, 0)) ∧ wx.heap[g_g]? = some (.cells (runsA l2) 43 (0, 0)) ∧ wx.heap[g_h]? = some (.cells (runsA l2) 43 (0, 0)) ∧ Below w.heap.size w wx)
            case first =>
              cases dn with
              | false =>
                go_wp2_with fail
                go_meet
                rcases HAll.out.2 rk (List.mem_of_getElem? HRk.out) with h | ⟨inb, cA, kc, h1, h2, h3⟩
                · rw [Hdn.out] at h; cases h
                · exact ⟨nx, l, rk, inb, cA, kc, hn1, hn2, rfl, HRk.out, h3, h1, h2, HAll.out, HT.out, H_p.out, H_cs.out, H_g.out, H_h.out, B.out⟩
              | true =>
                have hnx : nx < L.length ∧ nx < 20 := Decidable.not_not.1 (fun h => hbr ⟨rfl, h⟩)
                obtain ⟨hnx1, hnx2⟩ := hnx
                have hI1 : (nx : Int) < (L.length : Int) := by omega
                have hI2 : (nx : Int) < 20 := by omega
                have hI0 : (0 : Int) ≤ (nx : Int) := by omega
                have hB1 : decide (L.length ≤ nx) = false := decide_eq_false (by omega)
                have hB1' : decide ((L.length : Int) ≤ (nx : Int)) = false := decide_eq_false (by omega)
                have hB3 : decide ((20 : Int) ≤ (nx : Int)) = false := decide_eq_false (by omega)
                obtain ⟨bA, off, rfl, hbA, hcA⟩ := tks_at HL0.out (by omega)
                obtain ⟨⟨inb, ⟨x, y, z⟩⟩, hop⟩ : ∃ o, L[nx]? = some o := ⟨_, List.getElem?_eq_getElem hnx1⟩
                have Hxyz : Hid (N3Ok ⟨x, y, z⟩) := Lib.hid (Hq.out _ (List.mem_of_getElem? hop))
                obtain ⟨k0, k1, k2, k3⟩ := hcA nx _ hop
                simp only at k0 k1 k2 k3
                have cA0 := (B.out.cell (p := ⟨bA, off + nx * 4, none⟩) hbA).trans k0
                have cA1 := (B.out.cell (p := ⟨bA, off + nx * 4 + 1, none⟩) hbA).trans k1
                have cA2 := (B.out.cell (p := ⟨bA, off + nx * 4 + 2, none⟩) hbA).trans k2
                have cA3 := (B.out.cell (p := ⟨bA, off + nx * 4 + 3, none⟩) hbA).trans k3
                have zA : bA < wr.heap.size := Nat.lt_of_lt_of_le hbA B.out.size
                clear hcA hop k0 k1 k2 k3 hbA
                obtain ⟨a0, Ha0⟩ : ∃ a, Hid (x % 7 = a) := ⟨_, Lib.hid rfl⟩
                obtain ⟨b0, Hb0⟩ : ∃ a, Hid (y % 61 = a) := ⟨_, Lib.hid rfl⟩
                obtain ⟨c0, Hc0⟩ : ∃ a, Hid (z % 8 = a) := ⟨_, Lib.hid rfl⟩
                have hxyz := Hxyz.out
                obtain ⟨⟨x0, x1⟩, ⟨y0, y1⟩, ⟨z0, z1⟩⟩ := hxyz
                simp only at x0 x1 y0 y1 z0 z1
                have Hab : Hid ((0 ≤ a0 ∧ a0 ≤ 6) ∧ (0 ≤ b0 ∧ b0 ≤ 512) ∧ (0 ≤ c0 ∧ c0 ≤ 7)) := Lib.hid (by have := Ha0.out; have := Hb0.out; have := Hc0.out; omega)
                have HCal : Hid (CalOk ⟨7, 1, 0, 0, a0, b0, c0⟩) := Lib.hid (cal15 Hab.out.1 Hab.out.2.1 Hab.out.2.2)
                have HOf : Hid (∀ ch, rbeginRn 2 (chE inb) ⟨7, 1, 0, 0, a0, b0, c0⟩ (rregR 0 0 0 0 0) (rregR 0 0 0 0 0) ch = tkCall (chK inb : Int) a0 b0 c0 ch) := Lib.hid fun ch => of15 inb Hab.out.1 Hab.out.2.1 Hab.out.2.2 ch
                have HCa := fun w' => Lib.hid (call15_any x y z w' Hxyz.out.hx Hxyz.out.hy Hxyz.out.hz)
                simp only [Ha0.out, Hb0.out, Hc0.out] at HCa
                clear x0 x1 y0 y1 z0 z1
                have cs_0 : wr.cell? ⟨g_cs, 0, none⟩ = some (.slice (some ⟨bA, off, none⟩) L.length cp) := by rw [row_cell H_cs.out]; rfl
                have z_cs := lt_of_heap H_cs.out
                go_upto_region 16 with fail
                clear cA0 cA1 cA2 cA3 zA
                refine one_row wr _ _ ?_
                intro x1 hr hb
                have hlB := B.out.size
                have hfr := HT.out.fresh (Nat.le_refl wr.heap.size)
                have hl_cs := lt_of_heap H_cs.out
                have hl_p := lt_of_heap H_p.out
                have hl_g := lt_of_heap H_g.out
                have hl_h := lt_of_heap H_h.out
                clear cs_0 z_cs
                replace HAll := Lib.hid (HAll.out.below hb)
                have hsz := (hb).size
                replace H_cs := Lib.hid (row_below H_cs.out hb)
                replace H_p := Lib.hid (row_below H_p.out hb)
                replace H_g := Lib.hid (row_below H_g.out hb)
                replace H_h := Lib.hid (row_below H_h.out hb)
                replace HT := Lib.hid (HT.out.below hb)
                replace B := Lib.hid (below_only B.out hb)
                clear hb hsz
                have H_t := Lib.hid (show x1.heap[wr.heap.size]? = some (.cells #[.bool inb, .int .u8 x, .int .u8 y, .int .u8 z] 46 (0, 0)) from hr)
                clear hr
                obtain ⟨g_t, hg_t⟩ : ∃ x, x = wr.heap.size := ⟨_, rfl⟩
                rw [← hg_t] at H_t ⊢
                have N_t : Hid (g_t ∉ [p, b, X, q, d]) := Lib.hid (by rw [hg_t]; exact hfr)
                clear hfr
                have M_cs_t : Hid (g_cs ≠ g_t) := Lib.hid (by omega)
                have M_t_cs : Hid (g_t ≠ g_cs) := Lib.hid (by omega)
                clear hl_cs
                have M_p_t : Hid (g_p ≠ g_t) := Lib.hid (by omega)
                have M_t_p : Hid (g_t ≠ g_p) := Lib.hid (by omega)
                clear hl_p
                have M_g_t : Hid (g_g ≠ g_t) := Lib.hid (by omega)
                have M_t_g : Hid (g_t ≠ g_g) := Lib.hid (by omega)
                clear hl_g
                have M_h_t : Hid (g_h ≠ g_t) := Lib.hid (by omega)
                have M_t_h : Hid (g_t ≠ g_h) := Lib.hid (by omega)
                clear hl_h
                have L_t : Hid (w.heap.size ≤ g_t) := Lib.hid (by omega)
                clear hg_t hlB
                go_upto_region 17 with fail
                try simp only [Act.put]
                have HlG : Hid (kn < l.length) := Lib.hid (by rw [HAll.out.1]; exact hkn2)
                go_cut [] from 78 to 88 (fun wx => ∃ cA kc, Ents wx cA (chE inb) ∧ (∀ z, 0 < (chE inb).length → cA = some z → x1.heap.size ≤ z.block) ∧ wx.heap[g_h]? = some (.cells (runsA (l.set kn (tkCall (chK inb : Int) a0 b0 c0 ⟨cA, (chE inb).length, kc⟩))) 43 (0, 0)) ∧ Keep [g_h] x1 wx)
                have M_t_h : g_t ≠ g_h := M_h_t.out.symm
                case first =>
                  as_aux_lemma =>
                    refine wp_region_held_drew (S := fun W' => W'.heap[g_p]? = some (.cells #[.int .i64 2, .int .i64 2, .int .i64 200, .int .i64 320] 29 (0, 0)) ∧ W'.heap[g_t]? = some (.cells #[.bool inb, .int .u8 x, .int .u8 y, .int .u8 z] 46 (0, 0))) (by kernel_rfl) (show x1.drew.heap[g_p]? = _ ∧ x1.drew.heap[g_t]? = _ from ⟨H_p.out, H_t.out⟩) ?_
                    intro hS
                    have hB0 : Below x1.heap.size x1 x1.drew := Below.drew (Below.refl _ _)
                    have hH : x1.drew.heap[g_h]? = some (.cells (runsA l) 43 (0, 0)) := H_h.out
                    have zh : g_h < x1.heap.size := lt_of_heap H_h.out
                    generalize x1.drew = y0 at hS hB0 hH ⊢
                    refine wpAnyH_take_at (i := 0) (v := ?v0x1) (some 78) rfl rfl (by kernel_rfl) (by kernel_rfl) (by kernel_rfl) (fun _ _ _ h => h) (Or.inl ⟨by kernel_rfl, ?h0x1⟩) (by assumption) ?r0x1
                    case h0x1 => (intro w' hSw; obtain ⟨s1, s2⟩ := hSw; obtain ⟨r0', r1', r2', r3', _⟩ := box4 s2; go_simp; first | done | (with_reducible rfl))
                    try simp only [Act.put]
                    try simp only [List.setIfInBounds_toArray]
                    try simp only [List.set_cons_succ]
                    try simp only [List.set_cons_zero]
                    refine wpAnyH_take_at (i := 1) (v := .agg #[.int .i64 2, .int .i64 2, .int .i64 200, .int .i64 320]) (some 79) rfl rfl (by kernel_rfl) (by kernel_rfl) (by kernel_rfl) (fun _ _ _ h => h) (yieldsIf_load_row (by kernel_rfl) 29 (.tmp 8) rfl g_p rfl #[.int .i64 2, .int .i64 2, .int .i64 200, .int .i64 320] (fun W' hW' => hW'.1) undPln4 rfl infoPln4) (by assumption) ?_
                    try simp only [Act.put]
                    try simp only [List.setIfInBounds_toArray]
                    try simp only [List.set_cons_succ]
                    try simp only [List.set_cons_zero]
                    refine wpAnyH_take_at (i := 3) (v := ?v3x2) (some 81) rfl rfl (by kernel_rfl) (by kernel_rfl) (by kernel_rfl) (fun _ _ _ h => h) (Or.inl ⟨by kernel_rfl, ?h3x2⟩) (by assumption) ?r3x2
                    case h3x2 => (intro w' hSw; obtain ⟨s1, s2⟩ := hSw; obtain ⟨r0', r1', r2', r3', _⟩ := box4 s2; go_simp; first | done | (with_reducible rfl))
                    try simp only [Act.put]
                    try simp only [List.setIfInBounds_toArray]
                    try simp only [List.set_cons_succ]
                    try simp only [List.set_cons_zero]
                    refine wpAnyH_take_at (i := 4) (v := ?v4x3) (some 82) rfl rfl (by kernel_rfl) (by kernel_rfl) (by kernel_rfl) (fun _ _ _ h => h) (Or.inl ⟨by kernel_rfl, ?h4x3⟩) (by assumption) ?r4x3
                    case h4x3 => (intro w' hSw; obtain ⟨s1, s2⟩ := hSw; obtain ⟨r0', r1', r2', r3', _⟩ := box4 s2; go_simp; first | done | (with_reducible rfl))
                    try simp only [Act.put]
                    try simp only [List.setIfInBounds_toArray]
                    try simp only [List.set_cons_succ]
                    try simp only [List.set_cons_zero]
                    refine wpAnyH_take_at (i := 6) (v := ?v6x4) (some 84) rfl rfl (by kernel_rfl) (by kernel_rfl) (by kernel_rfl) (fun _ _ _ h => h) (Or.inl ⟨by kernel_rfl, ?h6x4⟩) (by assumption) ?r6x4
                    case h6x4 => (intro w' hSw; obtain ⟨s1, s2⟩ := hSw; obtain ⟨r0', r1', r2', r3', _⟩ := box4 s2; go_simp; first | done | (with_reducible rfl))
                    try simp only [Act.put]
                    try simp only [List.setIfInBounds_toArray]
                    try simp only [List.set_cons_succ]
                    try simp only [List.set_cons_zero]
                    refine wpAnyH_take_at (i := 7) (v := ?v7x5) (some 85) rfl rfl (by kernel_rfl) (by kernel_rfl) (by kernel_rfl) (fun _ _ _ h => h) (Or.inl ⟨by kernel_rfl, ?h7x5⟩) (by assumption) ?r7x5
                    case h7x5 => (intro w' hSw; obtain ⟨s1, s2⟩ := hSw; obtain ⟨r0', r1', r2', r3', _⟩ := box4 s2; go_simp; first | done | (with_reducible rfl))
                    try simp only [Act.put]
                    try simp only [List.setIfInBounds_toArray]
                    try simp only [List.set_cons_succ]
                    try simp only [List.set_cons_zero]
                    refine wpAnyH_ready (rs := [2, 5]) (by kernel_rfl) (by simp) ?_
                    refine AllReadyH.cons rfl (fun K hK => ?_) (AllReadyH.cons rfl (fun K hK => ?_) AllReadyH.nil)
                    · skip
                      go_simp
                      refine k_alloc (fun yM hM hb => ?_)
                      obtain ⟨gM, HgM⟩ : ∃ x, x = y0.heap.size := ⟨_, rfl⟩
                      replace hB0 := below_only hB0 hb
                      replace hH := row_below hH hb
                      rw [← HgM] at hM ⊢
                      clear HgM
                      refine hK.out _ _ (⟨row_below hS.1 hb, row_below hS.2 hb⟩) (fun hS => ?_)
                      clear hK K
                      try simp only [Act.put]
                      try simp only [List.setIfInBounds_toArray]
                      try simp only [List.set_cons_succ]
                      try simp only [List.set_cons_zero]
                      refine wpAnyH_ready (rs := [5]) (by kernel_rfl) (by simp) ?_
                      refine AllReadyH.cons rfl (fun K hK => ?_) AllReadyH.nil
                      go_simp
                      refine (chain15_any inb _).mono ?_
                      rintro e' yC ⟨cB, rfl, hE, hEn, hb⟩
                      go_simp
                      replace hB0 := below_only hB0 hb
                      replace hH := row_below hH hb
                      replace hM := row_below hM hb
                      refine hK.out _ _ (⟨row_below hS.1 hb, row_below hS.2 hb⟩) (fun hS => ?_)
                      clear hK K
                      try simp only [Act.put]
                      try simp only [List.setIfInBounds_toArray]
                      try simp only [List.set_cons_succ]
                      try simp only [List.set_cons_zero]
                      refine wpAnyH_ready (rs := [8]) (by kernel_rfl) (by simp) ?_
                      refine AllReadyH.cons rfl (fun K hK => ?_) AllReadyH.nil
                      go_simp
                      refine (HCa _).out.mono ?_
                      rintro e' yK ⟨rfl, hb⟩
                      go_simp
                      replace hB0 := below_only hB0 hb
                      replace hH := row_below hH hb
                      replace hM := row_below hM hb
                      replace hE := Ents.below hE hb
                      refine hK.out _ _ (⟨row_below hS.1 hb, row_below hS.2 hb⟩) (fun hS => ?_)
                      clear hK K
                      try simp only [Act.put]
                      try simp only [List.setIfInBounds_toArray]
                      try simp only [List.set_cons_succ]
                      try simp only [List.set_cons_zero]
                      refine wpAnyH_ready (rs := [9]) (by kernel_rfl) (by simp) ?_
                      refine AllReadyH.cons rfl (fun K hK => ?_) AllReadyH.nil
                      go_simp
                      obtain ⟨m0, m1, m2, m3, _⟩ := box4 hM
                      refine (rof_any ⟨2, 2, 200, 320⟩ cB (chE inb).length (chE inb) ⟨7, 1, 0, 0, a0, b0, c0⟩ 0 0 0 0 gM 0 4 _ (Nat.le_refl _) (by unfold chE; split <;> simp) hE (by decide) (by decide) HCal.out (by decide) (by decide) (by decide) (by decide) (by decide) m0 m1 m2 m3).mono ?_
                      rintro e' yO ⟨kc, cA, rfl, hE2, hE2n, hb⟩
                      rw [HOf.out]
                      go_simp
                      clear m0 m1 m2 m3
                      have hE2l : ∀ z, 0 < (chE inb).length → cA = some z → x1.heap.size ≤ z.block := fun z h0 hz => Nat.le_trans hB0.size (hE2n z h0 hz)
                      replace hB0 := below_only hB0 hb
                      replace hH := row_below hH hb
                      replace hM := row_below hM hb
                      replace hE := Ents.below hE hb
                      refine hK.out _ _ (⟨row_below hS.1 hb, row_below hS.2 hb⟩) (fun hS => ?_)
                      clear hK K
                      try simp only [Act.put]
                      try simp only [List.setIfInBounds_toArray]
                      try simp only [List.set_cons_succ]
                      try simp only [List.set_cons_zero]
                      refine wpAnyH_take_at (i := 10) (v := (.pointer (some ⟨g_h, kn * 26, none⟩))) (some 88) rfl rfl (by kernel_rfl) (by kernel_rfl) (by kernel_rfl) (fun _ _ _ h => h) (Or.inl ⟨by kernel_rfl, by (intro w' hSw; obtain ⟨s1, s2⟩ := hSw; obtain ⟨r0', r1', r2', r3', _⟩ := box4 s2; go_simp; first | done | (with_reducible rfl))⟩) (by assumption) ?_
                      try simp only [Act.put]
                      try simp only [List.setIfInBounds_toArray]
                      try simp only [List.set_cons_succ]
                      try simp only [List.set_cons_zero]
                      refine wpAnyH_ready (rs := [11]) (by kernel_rfl) (by simp) ?_
                      refine AllReadyH.cons rfl (fun K hK => ?_) AllReadyH.nil
                      refine step_store_sub none rfl rfl 42 (.tmp 88) (.tmp 87) rfl g_h (kn * 26) (tkCall (chK inb : Int) a0 b0 c0 ⟨cA, (chE inb).length, kc⟩).arr rfl rfl 43 _ hH infoRun (by rw [runs_size]; have := HlG.out; have : (Rn.arr (tkCall (chK inb : Int) a0 b0 c0 ⟨cA, (chE inb).length, kc⟩)).size = 26 := rfl; omega) (Rn.one _) ?_
                      refine hK.out _ _ (⟨(setRow_other _ _ _ _ M_p_h.out).trans hS.1, (setRow_other _ _ _ _ (M_t_h)).trans hS.2⟩) (fun hS => ?_)
                      clear hK K
                      try simp only [Act.put]
                      try simp only [List.setIfInBounds_toArray]
                      try simp only [List.set_cons_succ]
                      try simp only [List.set_cons_zero]
                      refine wpAnyH_done (by kernel_rfl) ?_ _
                      go_wp2_with fail
                      go_meet
                      have hst := runs_set HlG.out (tkCall (chK inb : Int) a0 b0 c0 ⟨cA, (chE inb).length, kc⟩)
                      rw [hst]
                      exact ⟨cA, kc, ents_setRow hE2 (fun z h0 hz => by have := hE2l z h0 hz; omega) _, hE2l, setRow_heap _ _ _ _ _ _ hH, (keep_below hB0 [g_h]).setRow (.inl (by simp)) _⟩
                    · skip
                      go_simp
                      refine (chain15_any inb _).mono ?_
                      rintro e' yC ⟨cB, rfl, hE, hEn, hb⟩
                      go_simp
                      replace hB0 := below_only hB0 hb
                      replace hH := row_below hH hb
                      refine hK.out _ _ (⟨row_below hS.1 hb, row_below hS.2 hb⟩) (fun hS => ?_)
                      clear hK K
                      try simp only [Act.put]
                      try simp only [List.setIfInBounds_toArray]
                      try simp only [List.set_cons_succ]
                      try simp only [List.set_cons_zero]
                      refine wpAnyH_ready (rs := [2, 8]) (by kernel_rfl) (by simp) ?_
                      refine AllReadyH.cons rfl (fun K hK => ?_) (AllReadyH.cons rfl (fun K hK => ?_) AllReadyH.nil)
                      · skip
                        go_simp
                        refine k_alloc (fun yM hM hb => ?_)
                        obtain ⟨gM, HgM⟩ : ∃ x, x = yC.heap.size := ⟨_, rfl⟩
                        replace hB0 := below_only hB0 hb
                        replace hH := row_below hH hb
                        replace hE := Ents.below hE hb
                        rw [← HgM] at hM ⊢
                        clear HgM
                        refine hK.out _ _ (⟨row_below hS.1 hb, row_below hS.2 hb⟩) (fun hS => ?_)
                        clear hK K
                        try simp only [Act.put]
                        try simp only [List.setIfInBounds_toArray]
                        try simp only [List.set_cons_succ]
                        try simp only [List.set_cons_zero]
                        refine wpAnyH_ready (rs := [8]) (by kernel_rfl) (by simp) ?_
                        refine AllReadyH.cons rfl (fun K hK => ?_) AllReadyH.nil
                        go_simp
                        refine (HCa _).out.mono ?_
                        rintro e' yK ⟨rfl, hb⟩
                        go_simp
                        replace hB0 := below_only hB0 hb
                        replace hH := row_below hH hb
                        replace hM := row_below hM hb
                        replace hE := Ents.below hE hb
                        refine hK.out _ _ (⟨row_below hS.1 hb, row_below hS.2 hb⟩) (fun hS => ?_)
                        clear hK K
                        try simp only [Act.put]
                        try simp only [List.setIfInBounds_toArray]
                        try simp only [List.set_cons_succ]
                        try simp only [List.set_cons_zero]
                        refine wpAnyH_ready (rs := [9]) (by kernel_rfl) (by simp) ?_
                        refine AllReadyH.cons rfl (fun K hK => ?_) AllReadyH.nil
                        go_simp
                        obtain ⟨m0, m1, m2, m3, _⟩ := box4 hM
                        refine (rof_any ⟨2, 2, 200, 320⟩ cB (chE inb).length (chE inb) ⟨7, 1, 0, 0, a0, b0, c0⟩ 0 0 0 0 gM 0 4 _ (Nat.le_refl _) (by unfold chE; split <;> simp) hE (by decide) (by decide) HCal.out (by decide) (by decide) (by decide) (by decide) (by decide) m0 m1 m2 m3).mono ?_
                        rintro e' yO ⟨kc, cA, rfl, hE2, hE2n, hb⟩
                        rw [HOf.out]
                        go_simp
                        clear m0 m1 m2 m3
                        have hE2l : ∀ z, 0 < (chE inb).length → cA = some z → x1.heap.size ≤ z.block := fun z h0 hz => Nat.le_trans hB0.size (hE2n z h0 hz)
                        replace hB0 := below_only hB0 hb
                        replace hH := row_below hH hb
                        replace hM := row_below hM hb
                        replace hE := Ents.below hE hb
                        refine hK.out _ _ (⟨row_below hS.1 hb, row_below hS.2 hb⟩) (fun hS => ?_)
                        clear hK K
                        try simp only [Act.put]
                        try simp only [List.setIfInBounds_toArray]
                        try simp only [List.set_cons_succ]
                        try simp only [List.set_cons_zero]
                        refine wpAnyH_take_at (i := 10) (v := (.pointer (some ⟨g_h, kn * 26, none⟩))) (some 88) rfl rfl (by kernel_rfl) (by kernel_rfl) (by kernel_rfl) (fun _ _ _ h => h) (Or.inl ⟨by kernel_rfl, by (intro w' hSw; obtain ⟨s1, s2⟩ := hSw; obtain ⟨r0', r1', r2', r3', _⟩ := box4 s2; go_simp; first | done | (with_reducible rfl))⟩) (by assumption) ?_
                        try simp only [Act.put]
                        try simp only [List.setIfInBounds_toArray]
                        try simp only [List.set_cons_succ]
                        try simp only [List.set_cons_zero]
                        refine wpAnyH_ready (rs := [11]) (by kernel_rfl) (by simp) ?_
                        refine AllReadyH.cons rfl (fun K hK => ?_) AllReadyH.nil
                        refine step_store_sub none rfl rfl 42 (.tmp 88) (.tmp 87) rfl g_h (kn * 26) (tkCall (chK inb : Int) a0 b0 c0 ⟨cA, (chE inb).length, kc⟩).arr rfl rfl 43 _ hH infoRun (by rw [runs_size]; have := HlG.out; have : (Rn.arr (tkCall (chK inb : Int) a0 b0 c0 ⟨cA, (chE inb).length, kc⟩)).size = 26 := rfl; omega) (Rn.one _) ?_
                        refine hK.out _ _ (⟨(setRow_other _ _ _ _ M_p_h.out).trans hS.1, (setRow_other _ _ _ _ (M_t_h)).trans hS.2⟩) (fun hS => ?_)
                        clear hK K
                        try simp only [Act.put]
                        try simp only [List.setIfInBounds_toArray]
                        try simp only [List.set_cons_succ]
                        try simp only [List.set_cons_zero]
                        refine wpAnyH_done (by kernel_rfl) ?_ _
                        go_wp2_with fail
                        go_meet
                        have hst := runs_set HlG.out (tkCall (chK inb : Int) a0 b0 c0 ⟨cA, (chE inb).length, kc⟩)
                        rw [hst]
                        exact ⟨cA, kc, ents_setRow hE2 (fun z h0 hz => by have := hE2l z h0 hz; omega) _, hE2l, setRow_heap _ _ _ _ _ _ hH, (keep_below hB0 [g_h]).setRow (.inl (by simp)) _⟩
                      · skip
                        go_simp
                        refine (HCa _).out.mono ?_
                        rintro e' yK ⟨rfl, hb⟩
                        go_simp
                        replace hB0 := below_only hB0 hb
                        replace hH := row_below hH hb
                        replace hE := Ents.below hE hb
                        refine hK.out _ _ (⟨row_below hS.1 hb, row_below hS.2 hb⟩) (fun hS => ?_)
                        clear hK K
                        try simp only [Act.put]
                        try simp only [List.setIfInBounds_toArray]
                        try simp only [List.set_cons_succ]
                        try simp only [List.set_cons_zero]
                        refine wpAnyH_ready (rs := [2]) (by kernel_rfl) (by simp) ?_
                        refine AllReadyH.cons rfl (fun K hK => ?_) AllReadyH.nil
                        go_simp
                        refine k_alloc (fun yM hM hb => ?_)
                        obtain ⟨gM, HgM⟩ : ∃ x, x = yK.heap.size := ⟨_, rfl⟩
                        replace hB0 := below_only hB0 hb
                        replace hH := row_below hH hb
                        replace hE := Ents.below hE hb
                        rw [← HgM] at hM ⊢
                        clear HgM
                        refine hK.out _ _ (⟨row_below hS.1 hb, row_below hS.2 hb⟩) (fun hS => ?_)
                        clear hK K
                        try simp only [Act.put]
                        try simp only [List.setIfInBounds_toArray]
                        try simp only [List.set_cons_succ]
                        try simp only [List.set_cons_zero]
                        refine wpAnyH_ready (rs := [9]) (by kernel_rfl) (by simp) ?_
                        refine AllReadyH.cons rfl (fun K hK => ?_) AllReadyH.nil
                        go_simp
                        obtain ⟨m0, m1, m2, m3, _⟩ := box4 hM
                        refine (rof_any ⟨2, 2, 200, 320⟩ cB (chE inb).length (chE inb) ⟨7, 1, 0, 0, a0, b0, c0⟩ 0 0 0 0 gM 0 4 _ (Nat.le_refl _) (by unfold chE; split <;> simp) hE (by decide) (by decide) HCal.out (by decide) (by decide) (by decide) (by decide) (by decide) m0 m1 m2 m3).mono ?_
                        rintro e' yO ⟨kc, cA, rfl, hE2, hE2n, hb⟩
                        rw [HOf.out]
                        go_simp
                        clear m0 m1 m2 m3
                        have hE2l : ∀ z, 0 < (chE inb).length → cA = some z → x1.heap.size ≤ z.block := fun z h0 hz => Nat.le_trans hB0.size (hE2n z h0 hz)
                        replace hB0 := below_only hB0 hb
                        replace hH := row_below hH hb
                        replace hM := row_below hM hb
                        replace hE := Ents.below hE hb
                        refine hK.out _ _ (⟨row_below hS.1 hb, row_below hS.2 hb⟩) (fun hS => ?_)
                        clear hK K
                        try simp only [Act.put]
                        try simp only [List.setIfInBounds_toArray]
                        try simp only [List.set_cons_succ]
                        try simp only [List.set_cons_zero]
                        refine wpAnyH_take_at (i := 10) (v := (.pointer (some ⟨g_h, kn * 26, none⟩))) (some 88) rfl rfl (by kernel_rfl) (by kernel_rfl) (by kernel_rfl) (fun _ _ _ h => h) (Or.inl ⟨by kernel_rfl, by (intro w' hSw; obtain ⟨s1, s2⟩ := hSw; obtain ⟨r0', r1', r2', r3', _⟩ := box4 s2; go_simp; first | done | (with_reducible rfl))⟩) (by assumption) ?_
                        try simp only [Act.put]
                        try simp only [List.setIfInBounds_toArray]
                        try simp only [List.set_cons_succ]
                        try simp only [List.set_cons_zero]
                        refine wpAnyH_ready (rs := [11]) (by kernel_rfl) (by simp) ?_
                        refine AllReadyH.cons rfl (fun K hK => ?_) AllReadyH.nil
                        refine step_store_sub none rfl rfl 42 (.tmp 88) (.tmp 87) rfl g_h (kn * 26) (tkCall (chK inb : Int) a0 b0 c0 ⟨cA, (chE inb).length, kc⟩).arr rfl rfl 43 _ hH infoRun (by rw [runs_size]; have := HlG.out; have : (Rn.arr (tkCall (chK inb : Int) a0 b0 c0 ⟨cA, (chE inb).length, kc⟩)).size = 26 := rfl; omega) (Rn.one _) ?_
                        refine hK.out _ _ (⟨(setRow_other _ _ _ _ M_p_h.out).trans hS.1, (setRow_other _ _ _ _ (M_t_h)).trans hS.2⟩) (fun hS => ?_)
                        clear hK K
                        try simp only [Act.put]
                        try simp only [List.setIfInBounds_toArray]
                        try simp only [List.set_cons_succ]
                        try simp only [List.set_cons_zero]
                        refine wpAnyH_done (by kernel_rfl) ?_ _
                        go_wp2_with fail
                        go_meet
                        have hst := runs_set HlG.out (tkCall (chK inb : Int) a0 b0 c0 ⟨cA, (chE inb).length, kc⟩)
                        rw [hst]
                        exact ⟨cA, kc, ents_setRow hE2 (fun z h0 hz => by have := hE2l z h0 hz; omega) _, hE2l, setRow_heap _ _ _ _ _ _ hH, (keep_below hB0 [g_h]).setRow (.inl (by simp)) _⟩
                case rest =>
                  obtain ⟨cA, kc, hE, hEl, hr, hK⟩ := hcut
                  obtain ⟨x2, hwx⟩ : ∃ x, x = wc := ⟨_, rfl⟩
                  subst hwx
                  have hFF : ∀ z, 0 < (chE inb).length → cA = some z → z.block ∉ FF := fun z h0 hz => by have h9 := hEl z h0 hz; have h1 := HT.out.lt b (by simp); have h2 := HT.out.lt d (by simp); have h3 := lt_of_heap H_g.out; have h4 := lt_of_heap H_h.out; rw [HFF.out]; simp; omega
                  replace HAll := Lib.hid (HAll.out.kept hK (by rw [HFF.out]; simp))
                  replace H_p := Lib.hid (hK.row H_p.out (by simpa using M_p_h.out))
                  replace H_cs := Lib.hid (hK.row H_cs.out (by simpa using M_cs_h.out))
                  replace H_g := Lib.hid (hK.row H_g.out (by simpa using M_g_h.out))
                  replace HT := Lib.hid (HT.out.kept hK (fun j hj => by simp only [List.mem_singleton] at hj; subst hj; exact N_h.out))
                  replace B := Lib.hid (Keep.under B.out hK (by have := B.out.size; omega) (by simp; exact L_h.out))
                  replace H_h := Lib.hid hr
                  have E_ch := Lib.hid hE
                  clear hr hK hE hEl H_t M_t_h
                  obtain ⟨r0, Hr0⟩ : ∃ x : Rn, Hid ((tkCall (chK inb : Int) a0 b0 c0 ⟨cA, (chE inb).length, kc⟩) = x) := ⟨_, Lib.hid rfl⟩
                  have HR0 : Hid (TkRun (chK inb) (cOf ep inb) (baOf 200 inb) (buOf 200 u inb) ⟨cA, (chE inb).length, kc⟩ r0) := Lib.hid (by rw [← Hr0.out]; exact tkRun_call Hab.out.1 Hab.out.2.1 Hab.out.2.2)
                  rw [Hr0.out] at H_h
                  clear Hr0 HCa HOf HCal
                  have Hk0 : Hid ((l.set kn r0)[kn]? = some r0) := Lib.hid (by rw [List.getElem?_set, if_pos rfl, if_pos HlG.out])
                  go_wp2_with (first | (refine wpList_load_sub rfl 42 (.tmp 91) rfl g_h (kn * 26) rfl 43 (runsA (l.set kn r0)) (Rn.arr r0) (0, 0) _ H_h.out (fun j v hv => runs_get Hk0.out hv) undRun rfl infoRun ?_; (try simp only [Act.put]); (try simp only [List.setIfInBounds_toArray]); (try simp only [List.set_cons_succ]); (try simp only [List.set_cons_zero])) | (refine wpList_store_sub rfl 42 (.tmp 93) (.tmp 92) rfl g_g (kn * 26) (Rn.arr r0) rfl rfl 43 _ H_g.out infoRun (by rw [runs_size]; have h1 := HlG.out; have h2 : (Rn.arr r0).size = 26 := rfl; (try rw [List.length_set]); omega) (Rn.one _) ?_; (try simp only [Act.put]); (try simp only [List.setIfInBounds_toArray]); (try simp only [List.set_cons_succ]); (try simp only [List.set_cons_zero])))
                  rw [runs_set HlG.out r0]
                  refine set_row' x2 g_g _ _ _ H_g.out ?_
                  intro x3 hr hK
                  have HAll3 := Lib.hid ((HAll.out.kept hK (by rw [HFF.out]; simp)).set kn (RunK.kept (.inr ⟨inb, cA, kc, E_ch.out, hFF, HR0.out⟩) hK (by rw [HFF.out]; simp)))
                  go_meet
                  exact ⟨nx + 1, _, r0, inb, cA, kc, by omega, by omega, by go_num, Hk0.out, HR0.out, ents_kept E_ch.out hK (fun z h0 hz hm => hFF z h0 hz (by rw [HFF.out]; simp at hm; simp [hm])), hFF, HAll3.out, HT.out.kept hK (fun j hj => by simp only [List.mem_singleton] at hj; subst hj; exact N_g.out), hK.row H_p.out (by simpa using M_p_g.out), hK.row H_cs.out (by simpa using M_cs_g.out), hr, hK.row H_h.out (by simpa using M_h_g.out), Keep.under B.out hK (by have := B.out.size; omega) (by simp; exact L_g.out)⟩
            case rest =>
              obtain ⟨n2, l2, r2, inb, cA, kc, hn1, hn2, rfl, hk2, hR2, hE, hFF, hall, hT, hp, hcs, hg, hh, hB⟩ := hcut
              obtain ⟨x4, hwx⟩ : ∃ x, x = wc := ⟨_, rfl⟩
              subst hwx
              clear HT H_p H_cs H_g H_h B HAll HRk Hdn hbr
              have HAll := Lib.hid hall
              have HT := Lib.hid hT
              have H_p := Lib.hid hp
              have H_cs := Lib.hid hcs
              have H_g := Lib.hid hg
              have H_h := Lib.hid hh
              have B := Lib.hid hB
              have Hk2 := Lib.hid hk2
              have HR2 := Lib.hid hR2
              have E_ch := Lib.hid hE
              have F_ch := Lib.hid hFF
              have HlG : Hid (kn < l2.length) := Lib.hid (by rw [HAll.out.1]; exact hkn2)
              clear hk2 hR2 hE hFF hall hT hp hcs hg hh hB
              have HBl := Lib.hid (HS.out.blk inb)
              obtain ⟨kk, Hkk⟩ : ∃ x, Hid (chK inb = x) := ⟨_, Lib.hid rfl⟩
              obtain ⟨cc, Hcc⟩ : ∃ x, Hid (cOf ep inb = x) := ⟨_, Lib.hid rfl⟩
              obtain ⟨ba, Hba⟩ : ∃ x, Hid (baOf 200 inb = x) := ⟨_, Lib.hid rfl⟩
              obtain ⟨bu, Hbu⟩ : ∃ x, Hid (buOf 200 u inb = x) := ⟨_, Lib.hid rfl⟩
              obtain ⟨tp, Htp⟩ : ∃ x, Hid (t inb = x) := ⟨_, Lib.hid rfl⟩
              have HS2 := Lib.hid (HS.out.step HR2.out)
              have HRun := Lib.hid (take_run (tp := t inb) HR2.out)
              have HSta := Lib.hid (take_stays (tp := t inb) HR2.out)
              rw [Hkk.out, Htp.out] at HS2
              rw [Hkk.out, Hcc.out, Hba.out, Hbu.out, Htp.out] at HBl
              rw [Hcc.out, Hba.out, Hbu.out, Htp.out] at HRun HSta
              have HIn : Hid (TkIn 2 ws kk cc ba bu tp r2) := Lib.hid (tkIn_of HBl.out (by rw [← Hkk.out, ← Hcc.out, ← Hba.out, ← Hbu.out]; exact HR2.out))
              have Hd2 := Lib.hid HR2.out.done
              obtain ⟨R3, HR3⟩ : ∃ x, Hid (takeR cc ba bu tp r2 = x) := ⟨_, Lib.hid rfl⟩
              obtain ⟨W3, HW3⟩ : ∃ x, Hid (takeW ws kk tp r2 = x) := ⟨_, Lib.hid rfl⟩
              rw [HW3.out] at HS2
              rw [HR3.out] at HRun HSta
              obtain ⟨ch, Hch⟩ : ∃ x, Hid ((⟨cA, (chE inb).length, kc⟩ : Sl) = x) := ⟨_, Lib.hid rfl⟩
              rw [Hch.out] at HSta
              go_upto_region 19 with fail
              try simp only [Act.put]
              go_cut [17, 18] from 95 to 102 (fun vd ve wx => ∃ gZ, vd = .pointer (some ⟨gZ, 0, none⟩) ∧ ve = .int .i64 0 ∧ x4.heap.size ≤ gZ ∧ wx.heap[gZ]? = some (.cells R3.arr 42 (0, 0)) ∧ Arn wx p b W3 ∧ Keep [b] x4 wx)
              case first =>
                as_aux_lemma =>
                  refine wp_region_held_drew (S := fun W' => W'.heap[g_p]? = some (.cells #[.int .i64 2, .int .i64 2, .int .i64 200, .int .i64 320] 29 (0, 0)) ∧ W'.heap[g_g]? = some (.cells (runsA l2) 43 (0, 0))) (by kernel_rfl) (show x4.drew.heap[g_p]? = _ ∧ x4.drew.heap[g_g]? = _ from ⟨H_p.out, H_g.out⟩) ?_
                  intro hS
                  have hA : Arn x4.drew p b ws := HT.out.a.drew
                  have hK0 : Keep [b] x4 x4.drew := (Keep.refl _ _).drew
                  generalize x4.drew = y0 at hS hA hK0 ⊢
                  refine wpAnyH_take_at (i := 0) (v := .agg #[.int .i64 2, .int .i64 2, .int .i64 200, .int .i64 320]) (some 95) rfl rfl (by kernel_rfl) (by kernel_rfl) (by kernel_rfl) (fun _ _ _ h => h) (yieldsIf_load_row (by kernel_rfl) 29 (.tmp 8) rfl g_p rfl #[.int .i64 2, .int .i64 2, .int .i64 200, .int .i64 320] (fun W' hW' => hW'.1) undPln4 rfl infoPln4) (by assumption) ?_
                  try simp only [Act.put]
                  try simp only [List.setIfInBounds_toArray]
                  try simp only [List.set_cons_succ]
                  try simp only [List.set_cons_zero]
                  refine wpAnyH_take_at (i := 1) (v := ?v1x6) (some 96) rfl rfl (by kernel_rfl) (by kernel_rfl) (by kernel_rfl) (fun _ _ _ h => h) (Or.inl ⟨by kernel_rfl, ?h1x6⟩) (by assumption) ?r1x6
                  case h1x6 => (intro w' hSw; obtain ⟨s1, s2⟩ := hSw; go_simp; first | done | (with_reducible rfl))
                  try simp only [Act.put]
                  try simp only [List.setIfInBounds_toArray]
                  try simp only [List.set_cons_succ]
                  try simp only [List.set_cons_zero]
                  refine wpAnyH_take_at (i := 2) (v := ?v2x7) (some 97) rfl rfl (by kernel_rfl) (by kernel_rfl) (by kernel_rfl) (fun _ _ _ h => h) (Or.inl ⟨by kernel_rfl, ?h2x7⟩) (by assumption) ?r2x7
                  case h2x7 => (intro w' hSw; obtain ⟨s1, s2⟩ := hSw; go_simp; first | done | (with_reducible rfl))
                  try simp only [Act.put]
                  try simp only [List.setIfInBounds_toArray]
                  try simp only [List.set_cons_succ]
                  try simp only [List.set_cons_zero]
                  refine wpAnyH_take_at (i := 3) (v := ?v3x8) (some 98) rfl rfl (by kernel_rfl) (by kernel_rfl) (by kernel_rfl) (fun _ _ _ h => h) (Or.inl ⟨by kernel_rfl, ?h3x8⟩) (by assumption) ?r3x8
                  case h3x8 => (intro w' hSw; obtain ⟨s1, s2⟩ := hSw; go_simp; first | done | (with_reducible rfl))
                  try simp only [Act.put]
                  try simp only [List.setIfInBounds_toArray]
                  try simp only [List.set_cons_succ]
                  try simp only [List.set_cons_zero]
                  refine wpAnyH_take_at (i := 4) (v := .agg (Rn.arr r2)) (some 99) rfl rfl (by kernel_rfl) (by kernel_rfl) (by kernel_rfl) (fun _ _ _ h => h) (yieldsIf_load_sub (by kernel_rfl) 42 (.tmp 98) rfl g_g (kn * 26) rfl (runsA l2) (Rn.arr r2) (fun W' hW' => hW'.2) (fun j v hv => runs_get Hk2.out hv) undRun rfl infoRun) (by assumption) ?_
                  try simp only [Act.put]
                  try simp only [List.setIfInBounds_toArray]
                  try simp only [List.set_cons_succ]
                  try simp only [List.set_cons_zero]
                  refine wpAnyH_ready (rs := [5, 9]) (by kernel_rfl) (by simp) ?_
                  refine AllReadyH.cons rfl (fun K hK => ?_) (AllReadyH.cons rfl (fun K hK => ?_) AllReadyH.nil)
                  · skip
                    go_simp
                    refine (takeStep_any p b kk 2 2 200 320 ws cc ba bu tp r2 _ HPl.out hA HIn.out Hd2.out).mono ?_
                    rw [HR3.out, HW3.out]
                    rintro e' yS ⟨rfl, hA1, hK1⟩
                    go_simp
                    replace hK0 := hK0.trans hK1
                    clear hA
                    have hA := hA1
                    clear hA1
                    refine hK.out _ _ (⟨hK1.row hS.1 (by simpa using (HT.out.nb N_p.out).1), hK1.row hS.2 (by simpa using (HT.out.nb N_g.out).1)⟩) (fun hS => ?_)
                    clear hK K
                    try simp only [Act.put]
                    try simp only [List.setIfInBounds_toArray]
                    try simp only [List.set_cons_succ]
                    try simp only [List.set_cons_zero]
                    refine wpAnyH_take_at (i := 6) (v := ?v6x9) (some 94) rfl rfl (by kernel_rfl) (by kernel_rfl) (by kernel_rfl) (fun _ _ _ h => h) (Or.inl ⟨by kernel_rfl, ?h6x9⟩) (by assumption) ?r6x9
                    case h6x9 => (intro w' hSw; obtain ⟨s1, s2⟩ := hSw; go_simp; first | done | (with_reducible rfl))
                    try simp only [Act.put]
                    try simp only [List.setIfInBounds_toArray]
                    try simp only [List.set_cons_succ]
                    try simp only [List.set_cons_zero]
                    refine wpAnyH_take_at (i := 7) (v := ?v7x10) (some 101) rfl rfl (by kernel_rfl) (by kernel_rfl) (by kernel_rfl) (fun _ _ _ h => h) (Or.inl ⟨by kernel_rfl, ?h7x10⟩) (by assumption) ?r7x10
                    case h7x10 => (intro w' hSw; obtain ⟨s1, s2⟩ := hSw; go_simp; first | done | (with_reducible rfl))
                    try simp only [Act.put]
                    try simp only [List.setIfInBounds_toArray]
                    try simp only [List.set_cons_succ]
                    try simp only [List.set_cons_zero]
                    refine wpAnyH_take_at (i := 8) (v := ?v8x11) (some 102) rfl rfl (by kernel_rfl) (by kernel_rfl) (by kernel_rfl) (fun _ _ _ h => h) (Or.inl ⟨by kernel_rfl, ?h8x11⟩) (by assumption) ?r8x11
                    case h8x11 => (intro w' hSw; obtain ⟨s1, s2⟩ := hSw; go_simp; first | done | (with_reducible rfl))
                    try simp only [Act.put]
                    try simp only [List.setIfInBounds_toArray]
                    try simp only [List.set_cons_succ]
                    try simp only [List.set_cons_zero]
                    refine wpAnyH_ready (rs := [9]) (by kernel_rfl) (by simp) ?_
                    refine AllReadyH.cons rfl (fun K hK => ?_) AllReadyH.nil
                    refine step_alloc_run (some 17) rfl rfl rfl ?_
                    refine k_alloc (fun yZ hZ hb => ?_)
                    have hz1 := lt_of_heap hA.box
                    have hz2 := lt_of_heap hA.row
                    have hz3 := lt_of_heap hS.1
                    have hz5 := lt_of_heap hS.2
                    have hz4 := hK0.size
                    obtain ⟨gZ, HgZ⟩ : ∃ x, x = yS.heap.size := ⟨_, rfl⟩
                    rw [← HgZ] at hZ hz1 hz2 hz3 hz4 hz5 ⊢
                    clear HgZ
                    have hq1 : p ≠ gZ := by omega
                    have hq2 : gZ ≠ b := by omega
                    have hq3 : g_p ≠ gZ := by omega
                    have hq4 : g_g ≠ gZ := by omega
                    clear hz1 hz2 hz3 hz5
                    replace hA := hA.below hb
                    replace hK0 := hK0.call hb
                    refine hK.out _ _ (⟨row_below hS.1 hb, row_below hS.2 hb⟩) (fun hS => ?_)
                    clear hK K
                    try simp only [Act.put]
                    try simp only [List.setIfInBounds_toArray]
                    try simp only [List.set_cons_succ]
                    try simp only [List.set_cons_zero]
                    refine wpAnyH_ready (rs := [10]) (by kernel_rfl) (by simp) ?_
                    refine AllReadyH.cons rfl (fun K hK => ?_) AllReadyH.nil
                    refine step_store_row none rfl rfl 42 (.tmp 17) (.tmp 101) rfl gZ R3.arr rfl rfl 42 ZRun hZ infoRun rfl (Rn.one _) ?_
                    refine hK.out _ _ (⟨(setRow_other _ _ _ _ hq3).trans hS.1, (setRow_other _ _ _ _ hq4).trans hS.2⟩) (fun hS => ?_)
                    clear hK K
                    try simp only [Act.put]
                    try simp only [List.setIfInBounds_toArray]
                    try simp only [List.set_cons_succ]
                    try simp only [List.set_cons_zero]
                    refine wpAnyH_take_at (i := 11) (v := ?v11x12) (some 18) rfl rfl (by kernel_rfl) (by kernel_rfl) (by kernel_rfl) (fun _ _ _ h => h) (Or.inl ⟨by kernel_rfl, ?h11x12⟩) (by assumption) ?r11x12
                    case h11x12 => (intro w' hSw; obtain ⟨s1, s2⟩ := hSw; go_simp; first | done | (with_reducible rfl))
                    try simp only [Act.put]
                    try simp only [List.setIfInBounds_toArray]
                    try simp only [List.set_cons_succ]
                    try simp only [List.set_cons_zero]
                    refine wpAnyH_done (by kernel_rfl) ?_ _
                    go_wp2_with fail
                    go_meet
                    have hks := (Keep.refl [gZ] yZ).setRow (g := gZ) (.inl (by simp)) R3.arr
                    exact ⟨gZ, rfl, rfl, hz4, setRow_heap _ _ _ _ _ _ hZ, hA.kept hks (by simpa using hq1) (by simpa using fun e => hq2 e.symm), hK0.setRow (.inr hz4) _⟩
                  · skip
                    refine step_alloc_run (some 17) rfl rfl rfl ?_
                    refine k_alloc (fun yZ hZ hb => ?_)
                    have hz1 := lt_of_heap hA.box
                    have hz2 := lt_of_heap hA.row
                    have hz3 := lt_of_heap hS.1
                    have hz5 := lt_of_heap hS.2
                    have hz4 := hK0.size
                    obtain ⟨gZ, HgZ⟩ : ∃ x, x = y0.heap.size := ⟨_, rfl⟩
                    rw [← HgZ] at hZ hz1 hz2 hz3 hz4 hz5 ⊢
                    clear HgZ
                    have hq1 : p ≠ gZ := by omega
                    have hq2 : gZ ≠ b := by omega
                    have hq3 : g_p ≠ gZ := by omega
                    have hq4 : g_g ≠ gZ := by omega
                    clear hz1 hz2 hz3 hz5
                    replace hA := hA.below hb
                    replace hK0 := hK0.call hb
                    refine hK.out _ _ (⟨row_below hS.1 hb, row_below hS.2 hb⟩) (fun hS => ?_)
                    clear hK K
                    try simp only [Act.put]
                    try simp only [List.setIfInBounds_toArray]
                    try simp only [List.set_cons_succ]
                    try simp only [List.set_cons_zero]
                    refine wpAnyH_ready (rs := [5]) (by kernel_rfl) (by simp) ?_
                    refine AllReadyH.cons rfl (fun K hK => ?_) AllReadyH.nil
                    go_simp
                    refine (takeStep_any p b kk 2 2 200 320 ws cc ba bu tp r2 _ HPl.out hA HIn.out Hd2.out).mono ?_
                    rw [HR3.out, HW3.out]
                    rintro e' yS ⟨rfl, hA1, hK1⟩
                    go_simp
                    replace hK0 := hK0.trans hK1
                    replace hZ := hK1.row hZ (by simpa using hq2)
                    clear hA
                    have hA := hA1
                    clear hA1
                    refine hK.out _ _ (⟨hK1.row hS.1 (by simpa using (HT.out.nb N_p.out).1), hK1.row hS.2 (by simpa using (HT.out.nb N_g.out).1)⟩) (fun hS => ?_)
                    clear hK K
                    try simp only [Act.put]
                    try simp only [List.setIfInBounds_toArray]
                    try simp only [List.set_cons_succ]
                    try simp only [List.set_cons_zero]
                    refine wpAnyH_take_at (i := 6) (v := ?v6x13) (some 94) rfl rfl (by kernel_rfl) (by kernel_rfl) (by kernel_rfl) (fun _ _ _ h => h) (Or.inl ⟨by kernel_rfl, ?h6x13⟩) (by assumption) ?r6x13
                    case h6x13 => (intro w' hSw; obtain ⟨s1, s2⟩ := hSw; go_simp; first | done | (with_reducible rfl))
                    try simp only [Act.put]
                    try simp only [List.setIfInBounds_toArray]
                    try simp only [List.set_cons_succ]
                    try simp only [List.set_cons_zero]
                    refine wpAnyH_take_at (i := 7) (v := ?v7x14) (some 101) rfl rfl (by kernel_rfl) (by kernel_rfl) (by kernel_rfl) (fun _ _ _ h => h) (Or.inl ⟨by kernel_rfl, ?h7x14⟩) (by assumption) ?r7x14
                    case h7x14 => (intro w' hSw; obtain ⟨s1, s2⟩ := hSw; go_simp; first | done | (with_reducible rfl))
                    try simp only [Act.put]
                    try simp only [List.setIfInBounds_toArray]
                    try simp only [List.set_cons_succ]
                    try simp only [List.set_cons_zero]
                    refine wpAnyH_take_at (i := 8) (v := ?v8x15) (some 102) rfl rfl (by kernel_rfl) (by kernel_rfl) (by kernel_rfl) (fun _ _ _ h => h) (Or.inl ⟨by kernel_rfl, ?h8x15⟩) (by assumption) ?r8x15
                    case h8x15 => (intro w' hSw; obtain ⟨s1, s2⟩ := hSw; go_simp; first | done | (with_reducible rfl))
                    try simp only [Act.put]
                    try simp only [List.setIfInBounds_toArray]
                    try simp only [List.set_cons_succ]
                    try simp only [List.set_cons_zero]
                    refine wpAnyH_ready (rs := [10]) (by kernel_rfl) (by simp) ?_
                    refine AllReadyH.cons rfl (fun K hK => ?_) AllReadyH.nil
                    refine step_store_row none rfl rfl 42 (.tmp 17) (.tmp 101) rfl gZ R3.arr rfl rfl 42 ZRun hZ infoRun rfl (Rn.one _) ?_
                    refine hK.out _ _ (⟨(setRow_other _ _ _ _ hq3).trans hS.1, (setRow_other _ _ _ _ hq4).trans hS.2⟩) (fun hS => ?_)
                    clear hK K
                    try simp only [Act.put]
                    try simp only [List.setIfInBounds_toArray]
                    try simp only [List.set_cons_succ]
                    try simp only [List.set_cons_zero]
                    refine wpAnyH_take_at (i := 11) (v := ?v11x16) (some 18) rfl rfl (by kernel_rfl) (by kernel_rfl) (by kernel_rfl) (fun _ _ _ h => h) (Or.inl ⟨by kernel_rfl, ?h11x16⟩) (by assumption) ?r11x16
                    case h11x16 => (intro w' hSw; obtain ⟨s1, s2⟩ := hSw; go_simp; first | done | (with_reducible rfl))
                    try simp only [Act.put]
                    try simp only [List.setIfInBounds_toArray]
                    try simp only [List.set_cons_succ]
                    try simp only [List.set_cons_zero]
                    refine wpAnyH_done (by kernel_rfl) ?_ _
                    go_wp2_with fail
                    go_meet
                    have hks := (Keep.refl [gZ] yS).setRow (g := gZ) (.inl (by simp)) R3.arr
                    exact ⟨gZ, rfl, rfl, hz4, setRow_heap _ _ _ _ _ _ hZ, hA.kept hks (by simpa using hq1) (by simpa using fun e => hq2 e.symm), hK0.setRow (.inr hz4) _⟩
              case rest =>
                obtain ⟨g_o, rfl, rfl, hgo, hro, hA, hK⟩ := hcut
                obtain ⟨x5, hwx⟩ : ∃ x, x = wc := ⟨_, rfl⟩
                subst hwx
                have N_o : Hid (g_o ∉ [p, b, X, q, d]) := Lib.hid (HT.out.fresh hgo)
                have M_o_g : Hid (g_o ≠ g_g ∧ g_o ≠ g_h) := Lib.hid (by have := lt_of_heap H_g.out; have := lt_of_heap H_h.out; omega)
                clear hgo
                replace HAll := Lib.hid (HAll.out.kept hK (by rw [HFF.out]; simp))
                replace E_ch := Lib.hid (ents_kept E_ch.out hK (fun z h0 hz hm => F_ch.out z h0 hz ((show ∀ j ∈ [b], j ∈ FF from (by rw [HFF.out]; simp)) _ hm)))
                have hszK := hK.size
                replace H_cs := Lib.hid (hK.row H_cs.out (by simpa using (HT.out.nb N_cs.out).1))
                replace H_p := Lib.hid (hK.row H_p.out (by simpa using (HT.out.nb N_p.out).1))
                replace H_g := Lib.hid (hK.row H_g.out (by simpa using (HT.out.nb N_g.out).1))
                replace H_h := Lib.hid (hK.row H_h.out (by simpa using (HT.out.nb N_h.out).1))
                replace B := Lib.hid (HT.out.under B.out hK (by simp))
                replace HT := Lib.hid (HT.out.onA hA hK)
                clear hA hK hszK
                have H_o := Lib.hid (show x5.heap[g_o]? = some (.cells R3.arr 42 (0, 0)) from hro)
                clear hro
                go_wp2_with (first | (refine wpList_load_sub rfl 42 (.tmp 106) rfl g_h (kn * 26) rfl 43 (runsA l2) (Rn.arr r2) (0, 0) _ H_h.out (fun j v hv => runs_get Hk2.out hv) undRun rfl infoRun ?_; (try simp only [Act.put]); (try simp only [List.setIfInBounds_toArray]); (try simp only [List.set_cons_succ]); (try simp only [List.set_cons_zero])))
                refine (rtakeStep_any X q d kk 2 2 200 320 ws cc ba bu tp r2 _ HT.out.x HIn.out).mono ?_
                rw [HR3.out, HW3.out]
                rintro r x6 ⟨rfl, hX, hK⟩
                replace HAll := Lib.hid (HAll.out.kept hK (by rw [HFF.out]; simp))
                replace E_ch := Lib.hid (ents_kept E_ch.out hK (fun z h0 hz hm => F_ch.out z h0 hz ((show ∀ j ∈ [d], j ∈ FF from (by rw [HFF.out]; simp)) _ hm)))
                have hszK := hK.size
                replace H_cs := Lib.hid (hK.row H_cs.out (by simpa using (HT.out.nb N_cs.out).2))
                replace H_p := Lib.hid (hK.row H_p.out (by simpa using (HT.out.nb N_p.out).2))
                replace H_g := Lib.hid (hK.row H_g.out (by simpa using (HT.out.nb N_g.out).2))
                replace H_h := Lib.hid (hK.row H_h.out (by simpa using (HT.out.nb N_h.out).2))
                replace H_o := Lib.hid (hK.row H_o.out (by simpa using (HT.out.nb N_o.out).2))
                replace B := Lib.hid (HT.out.under B.out hK (by simp))
                replace HT := Lib.hid (HT.out.onX hX hK)
                clear hX hK hszK
                go_upto_region 21 with (first | (refine wpList_store_sub rfl 42 (.tmp 109) (.tmp 108) rfl g_h (kn * 26) (Rn.arr R3) rfl rfl 43 _ H_h.out infoRun (by rw [runs_size]; have h1 := HlG.out; have h2 : (Rn.arr R3).size = 26 := rfl; (try rw [List.length_set]); omega) (Rn.one _) ?_; (try simp only [Act.put]); (try simp only [List.setIfInBounds_toArray]); (try simp only [List.set_cons_succ]); (try simp only [List.set_cons_zero])))
                rw [runs_set HlG.out R3]
                have M_o_h : Hid (g_o ≠ g_h) := Lib.hid M_o_g.out.2
                have M_o_gg : Hid (g_o ≠ g_g) := Lib.hid M_o_g.out.1
                clear M_o_g
                have M_o_g := M_o_gg
                clear M_o_gg
                refine set_row' x6 g_h _ _ _ H_h.out ?_
                intro x7 hr hK
                have hszK := hK.size
                replace HAll := Lib.hid (HAll.out.kept hK (by rw [HFF.out]; simp))
                replace E_ch := Lib.hid (ents_kept E_ch.out hK (fun z h0 hz hm => F_ch.out z h0 hz ((show ∀ j ∈ [g_h], j ∈ FF from (by rw [HFF.out]; simp)) _ hm)))
                replace H_cs := Lib.hid (hK.row H_cs.out (by simpa using M_cs_h.out))
                replace H_p := Lib.hid (hK.row H_p.out (by simpa using M_p_h.out))
                replace H_g := Lib.hid (hK.row H_g.out (by simpa using M_g_h.out))
                replace H_o := Lib.hid (hK.row H_o.out (by simpa using M_o_h.out))
                replace HT := Lib.hid (HT.out.kept hK (fun j hj => by simp only [List.mem_singleton] at hj; subst hj; exact N_h.out))
                replace B := Lib.hid (Keep.under B.out hK (by have := B.out.size; omega) (by simp; exact L_h.out))
                replace H_h := Lib.hid hr
                clear hr hK hszK
                have Hk3 : Hid ((l2.set kn R3)[kn]? = some R3) := Lib.hid (by rw [List.getElem?_set, if_pos rfl, if_pos HlG.out])
                try simp only [Act.put]
                go_cut [19] from 110 to 114 (fun vd wx => vd = .bool true ∧ Below x7.heap.size x7 wx)
                case first =>
                  as_aux_lemma =>
                    refine wp_region_held_drew (S := fun W' => W'.heap[g_o]? = some (.cells R3.arr 42 (0, 0)) ∧ W'.heap[g_h]? = some (.cells (runsA (l2.set kn R3)) 43 (0, 0))) (by kernel_rfl) (show x7.drew.heap[g_o]? = _ ∧ x7.drew.heap[g_h]? = _ from ⟨H_o.out, H_h.out⟩) ?_
                    intro hS
                    have hb0 : Below x7.heap.size x7 x7.drew := Below.drew (Below.refl _ _)
                    generalize x7.drew = y0 at hS hb0 ⊢
                    refine wpAnyH_take_at (i := 0) (v := .agg R3.arr) (some 110) rfl rfl (by kernel_rfl) (by kernel_rfl) (by kernel_rfl) (fun _ _ _ h => h) (yieldsIf_load_row (by kernel_rfl) 42 (.tmp 17) rfl g_o rfl R3.arr (fun W' hW' => hW'.1) undRun rfl infoRun) (by assumption) ?_
                    try simp only [Act.put]
                    try simp only [List.setIfInBounds_toArray]
                    try simp only [List.set_cons_succ]
                    try simp only [List.set_cons_zero]
                    refine wpAnyH_take_at (i := 1) (v := ?v1x17) (some 111) rfl rfl (by kernel_rfl) (by kernel_rfl) (by kernel_rfl) (fun _ _ _ h => h) (Or.inl ⟨by kernel_rfl, ?h1x17⟩) (by assumption) ?r1x17
                    case h1x17 => (intro w' hSw; obtain ⟨s1, s2⟩ := hSw; go_simp; first | done | (with_reducible rfl))
                    try simp only [Act.put]
                    try simp only [List.setIfInBounds_toArray]
                    try simp only [List.set_cons_succ]
                    try simp only [List.set_cons_zero]
                    refine wpAnyH_take_at (i := 2) (v := ?v2x18) (some 112) rfl rfl (by kernel_rfl) (by kernel_rfl) (by kernel_rfl) (fun _ _ _ h => h) (Or.inl ⟨by kernel_rfl, ?h2x18⟩) (by assumption) ?r2x18
                    case h2x18 => (intro w' hSw; obtain ⟨s1, s2⟩ := hSw; go_simp; first | done | (with_reducible rfl))
                    try simp only [Act.put]
                    try simp only [List.setIfInBounds_toArray]
                    try simp only [List.set_cons_succ]
                    try simp only [List.set_cons_zero]
                    refine wpAnyH_take_at (i := 3) (v := .agg (Rn.arr R3)) (some 113) rfl rfl (by kernel_rfl) (by kernel_rfl) (by kernel_rfl) (fun _ _ _ h => h) (yieldsIf_load_sub (by kernel_rfl) 42 (.tmp 112) rfl g_h (kn * 26) rfl (runsA (l2.set kn R3)) (Rn.arr R3) (fun W' hW' => hW'.2) (fun j v hv => runs_get Hk3.out hv) undRun rfl infoRun) (by assumption) ?_
                    try simp only [Act.put]
                    try simp only [List.setIfInBounds_toArray]
                    try simp only [List.set_cons_succ]
                    try simp only [List.set_cons_zero]
                    refine wpAnyH_ready (rs := [4]) (by kernel_rfl) (by simp) ?_
                    refine AllReadyH.cons rfl (fun K hK => ?_) AllReadyH.nil
                    go_simp
                    refine (same_self R3 cA kc (chE inb) _ (by rw [Hch.out]; exact HSta.out.1) (by unfold chE; split <;> simp) (Ents.below E_ch.out hb0) HSta.out.2.2.1 HSta.out.2.1 HSta.out.2.2.2.1).mono ?_
                    rintro e' yS ⟨rfl, hb⟩
                    go_simp
                    replace hb0 := below_only hb0 hb
                    refine hK.out _ _ (⟨row_below hS.1 hb, row_below hS.2 hb⟩) (fun hS => ?_)
                    clear hK K
                    try simp only [Act.put]
                    try simp only [List.setIfInBounds_toArray]
                    try simp only [List.set_cons_succ]
                    try simp only [List.set_cons_zero]
                    refine wpAnyH_take_at (i := 5) (v := ?v5x19) (some 19) rfl rfl (by kernel_rfl) (by kernel_rfl) (by kernel_rfl) (fun _ _ _ h => h) (Or.inl ⟨by kernel_rfl, ?h5x19⟩) (by assumption) ?r5x19
                    case h5x19 => (intro w' hSw; obtain ⟨s1, s2⟩ := hSw; go_simp; first | done | (with_reducible rfl))
                    try simp only [Act.put]
                    try simp only [List.setIfInBounds_toArray]
                    try simp only [List.set_cons_succ]
                    try simp only [List.set_cons_zero]
                    refine wpAnyH_done (by kernel_rfl) ?_ _
                    go_wp2_with fail
                    go_meet
                    exact ⟨rfl, hb0⟩
                case rest =>
                  obtain ⟨rfl, hb⟩ := hcut
                  obtain ⟨x8, hwx⟩ : ∃ x, x = wc := ⟨_, rfl⟩
                  subst hwx
                  replace HAll := Lib.hid (HAll.out.below hb)
                  replace E_ch := Lib.hid (Ents.below E_ch.out hb)
                  have hsz := (hb).size
                  replace H_cs := Lib.hid (row_below H_cs.out hb)
                  replace H_p := Lib.hid (row_below H_p.out hb)
                  replace H_g := Lib.hid (row_below H_g.out hb)
                  replace H_h := Lib.hid (row_below H_h.out hb)
                  replace H_o := Lib.hid (row_below H_o.out hb)
                  replace HT := Lib.hid (HT.out.below hb)
                  replace B := Lib.hid (below_only B.out hb)
                  clear hb hsz
                  go_upto_region 25 with (first | (refine wpList_load_row rfl 42 (.tmp 17) rfl g_o rfl 42 R3.arr (0, 0) _ H_o.out undRun rfl infoRun ?_; (try simp only [Act.put]); (try simp only [List.setIfInBounds_toArray]); (try simp only [List.set_cons_succ]); (try simp only [List.set_cons_zero])) | (refine wpList_store_sub rfl 42 (.tmp 123) (.tmp 122) rfl g_g (kn * 26) (Rn.arr R3) rfl rfl 43 _ H_g.out infoRun (by rw [runs_size]; have h1 := HlG.out; have h2 : (Rn.arr R3).size = 26 := rfl; (try rw [List.length_set]); omega) (Rn.one _) ?_; (try simp only [Act.put]); (try simp only [List.setIfInBounds_toArray]); (try simp only [List.set_cons_succ]); (try simp only [List.set_cons_zero])))
                  rw [runs_set HlG.out R3]
                  refine set_row' x8 g_g _ _ _ H_g.out ?_
                  intro x9 hr hK
                  have hszK := hK.size
                  replace HAll := Lib.hid (HAll.out.kept hK (by rw [HFF.out]; simp))
                  replace E_ch := Lib.hid (ents_kept E_ch.out hK (fun z h0 hz hm => F_ch.out z h0 hz ((show ∀ j ∈ [g_g], j ∈ FF from (by rw [HFF.out]; simp)) _ hm)))
                  replace H_cs := Lib.hid (hK.row H_cs.out (by simpa using M_cs_g.out))
                  replace H_p := Lib.hid (hK.row H_p.out (by simpa using M_p_g.out))
                  replace H_h := Lib.hid (hK.row H_h.out (by simpa using M_h_g.out))
                  replace H_o := Lib.hid (hK.row H_o.out (by simpa using M_o_g.out))
                  replace HT := Lib.hid (HT.out.kept hK (fun j hj => by simp only [List.mem_singleton] at hj; subst hj; exact N_g.out))
                  replace B := Lib.hid (Keep.under B.out hK (by have := B.out.size; omega) (by simp; exact L_g.out))
                  replace H_g := Lib.hid hr
                  clear hr hK hszK
                  obtain ⟨dn3, Hdn3⟩ : ∃ x, Hid (R3.done = x) := ⟨_, Lib.hid rfl⟩
                  have o_21 : x9.cell? ⟨g_o, 21, none⟩ = some (.bool dn3) := by rw [row_cell H_o.out]; rw [← Hdn3.out]; rfl
                  have z_o := lt_of_heap H_o.out
                  cases dn3 with
                  | false =>
                    go_wp2_with fail
                    go_roundw
                    case rel => exact ⟨i + 1, n2, W3, _, l2.set kn R3, by omega, hn1, hn2, rfl, by go_num, HS2.out, HAll.out.set kn (by
                        rcases HRun.out with h | h
                        · exact .inl h.1
                        · refine .inr ⟨inb, cA, kc, E_ch.out, F_ch.out, ?_⟩
                          have h9 := h.1
                          rw [Hkk.out, Hcc.out, Hba.out, Hbu.out]
                          rwa [Hkk.out] at h9), HT.out, H_p.out, H_cs.out, H_g.out, H_h.out, B.out⟩
                    case measure => simp [intOf]; omega
                  | true =>
                    clear o_21 z_o
                    have o_21 : x9.cell? ⟨g_o, 21, none⟩ = some (.bool true) := by rw [row_cell H_o.out]; rw [← Hdn3.out]; rfl
                    have z_o := lt_of_heap H_o.out
                    have Hp4 : Hid (R3.pc = 4) := Lib.hid (by rcases HRun.out with h | h; exact h.2.1; have := h.1.done; rw [Hdn3.out] at this; cases this)
                    obtain ⟨p_0, p_1, p_2, p_3, p_f0, p_f1, p_f2, p_f3⟩ := box4 H_p.out
                    have z_p := lt_of_heap H_p.out
                    go_wp2_with (first | (refine wpList_load_row rfl 42 (.tmp 17) rfl g_o rfl 42 R3.arr (0, 0) _ H_o.out undRun rfl infoRun ?_; (try simp only [Act.put]); (try simp only [List.setIfInBounds_toArray]); (try simp only [List.set_cons_succ]); (try simp only [List.set_cons_zero])))
                    clear o_21 z_o p_0 p_1 p_2 p_3 p_f0 p_f1 p_f2 p_f3 z_p
                    refine (takeStepDone_any p b kk 2 2 200 320 W3 cc ba bu tp R3 _ HPl.out HT.out.a Hp4.out Hdn3.out).mono ?_
                    rintro r x10 ⟨rfl, hb⟩
                    replace HAll := Lib.hid (HAll.out.below hb)
                    replace E_ch := Lib.hid (Ents.below E_ch.out hb)
                    have hsz := (hb).size
                    replace H_cs := Lib.hid (row_below H_cs.out hb)
                    replace H_p := Lib.hid (row_below H_p.out hb)
                    replace H_g := Lib.hid (row_below H_g.out hb)
                    replace H_h := Lib.hid (row_below H_h.out hb)
                    replace H_o := Lib.hid (row_below H_o.out hb)
                    replace HT := Lib.hid (HT.out.below hb)
                    replace B := Lib.hid (below_only B.out hb)
                    clear hb hsz
                    go_upto_region 27 with (first | (refine wpList_store_row rfl 42 (.tmp 20) (.tmp 131) rfl x10.heap.size ZRun rfl rfl 42 ZRun (row_new _ _ _) infoRun rfl (by kernel_rfl) ?_; (try simp only [Act.put]); (try simp only [List.setIfInBounds_toArray]); (try simp only [List.set_cons_succ]); (try simp only [List.set_cons_zero])))
                    refine alloc_set' x10 _ _ _ ?_
                    intro x11 hr hb
                    clear hr
                    replace HAll := Lib.hid (HAll.out.below hb)
                    replace E_ch := Lib.hid (Ents.below E_ch.out hb)
                    have hsz := (hb).size
                    replace H_cs := Lib.hid (row_below H_cs.out hb)
                    replace H_p := Lib.hid (row_below H_p.out hb)
                    replace H_g := Lib.hid (row_below H_g.out hb)
                    replace H_h := Lib.hid (row_below H_h.out hb)
                    replace H_o := Lib.hid (row_below H_o.out hb)
                    replace HT := Lib.hid (HT.out.below hb)
                    replace B := Lib.hid (below_only B.out hb)
                    clear hb hsz
                    go_wp2_with fail
                    go_roundw
                    case rel => exact ⟨i + 1, n2, W3, _, l2.set kn R3, by omega, hn1, hn2, rfl, by go_num, HS2.out, HAll.out.set kn (by
                        rcases HRun.out with h | h
                        · exact .inl h.1
                        · refine .inr ⟨inb, cA, kc, E_ch.out, F_ch.out, ?_⟩
                          have h9 := h.1
                          rw [Hkk.out, Hcc.out, Hba.out, Hbu.out]
                          rwa [Hkk.out] at h9), HT.out, H_p.out, H_cs.out, H_g.out, H_h.out, B.out⟩
                    case measure => simp [intOf]; omega
      · have h160 : i = 160 := by omega
        subst h160
        clear hlt
        go_wp2_with fail
        go_meet
        exact ⟨ws, HS.out.len, HT.out, B.out⟩
  case rest =>
    obtain ⟨ws, hlen, hT, hB⟩ := hcut
    obtain ⟨z0, hwx⟩ : ∃ x, x = wc := ⟨_, rfl⟩
    subst hwx
    clear HT B HAll H_p H_cs H_g H_h HS0
    have HT := Lib.hid hT
    have B := Lib.hid hB
    have Hln := Lib.hid hlen
    clear hT hB hlen
    go_wp2_with fail
    go_loopw [22] (fun tt wr => ∃ n : Nat, n ≤ 81 ∧ tt = .int .i64 n ∧ z0 = wr) (fun t _ => (81 - intOf t).toNat)
    case atStart => exact ⟨0, by omega, rfl, rfl⟩
    case round =>
      obtain ⟨n, hn, rfl, hwr⟩ := hrel
      subst hwr
      have X_5 := HT.out.x.cell
      obtain ⟨q_0, _⟩ := box1 HT.out.x.arn.box
      rw [Hln.out] at q_0
      by_cases hn4 : n < 81
      · obtain ⟨e, he⟩ : ∃ x, ws[n]? = some x := ⟨_, List.getElem?_eq_getElem (by rw [Hln.out]; exact hn4)⟩
        have cd := HT.out.x.arn.cell n e he
        have HWn : Hid (Calls Try.prog 15 #[.pointer (some ⟨p, 0, none⟩), .int .i64 (8 * (n : Int))] z0 fun r w' => r = .returned (.tuple #[.int .u64 e, .int .i64 0]) ∧ w' = z0) := Lib.hid (by
          have h9 := arnWord_any p b ws n e z0 HT.out.a he
          rwa [show ((n * 8 : Nat) : Int) = 8 * (n : Int) by omega] at h9)
        have hnI : (n : Int) < 81 := by omega
        have hnI0 : (0 : Int) ≤ (n : Int) := by omega
        have h8n : IntKind.i64.wrap (8 * (n : Int)) = 8 * (n : Int) := IntWalk.i64_in _ (by omega)
        clear he
        go_wp2_with fail
        refine HWn.out.mono ?_
        rintro r za ⟨rfl, e2⟩
        rw [e2]
        clear e2 za
        go_wp2_with fail
        go_roundw
        case rel => exact ⟨n + 1, by omega, by go_num, by first | rfl | trivial⟩
        case measure => simp [intOf]; omega
      · obtain rfl : n = 81 := by omega
        have B2 := B.out
        clear B hn4
        go_wp2_with fail
        go_ret
        exact ⟨rfl, B2⟩

end Go.Proofs.Ytoadddfiibeenaa
