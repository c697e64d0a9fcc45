/- Layer 16: the walk of SlotsGates. (Printed.) -/
import Derived.Test.YtnimaajnlkbdaaaGreatMU
import Derived.Test.YtnimaajnlkbdaaaGreatMP
import Derived.Test.YtnimaajnlkbdaaaGreatTwo
namespace Go.Proofs.YtnimaajnlkbdaaaGreat
open Go.RowKit
set_option linter.unusedVariables false
set_option linter.unusedSimpArgs false

set_option maxRecDepth 100000 in
set_option maxHeartbeats 8000000 in
theorem slotsGates_walk (v0 s0 who : Int) (w : World) (z0 : (Lit.int .u8 v0).wf = true) (z1 : (Lit.int .u8 s0).wf = true) (z2 : (Lit.int .u8 who).wf = true) :
    Calls Tryz.prog 5 #[.int .u8 v0, .int .u8 s0, .int .u8 who] w fun r w' => r = .returned (.bool true) ∧ Below w.heap.size w w' := by
  have hv0 := wf_u8 z0
  have hs0 := wf_u8 z1
  have hw0 := wf_u8 z2
  clear z0 z1 z2
  obtain ⟨sN, HsN⟩ : ∃ s : Nat, Hid (s0 % 3 + 1 = (s : Int) ∧ 1 ≤ s ∧ s ≤ 3) := ⟨(s0 % 3 + 1).toNat, Lib.hid (by omega)⟩
  obtain ⟨m, Hm⟩ : ∃ s : Nat, Hid (who % 3 = (s : Int) ∧ s < 3) := ⟨(who % 3).toNat, Lib.hid (by omega)⟩
  obtain ⟨u, Hu⟩ : ∃ s : Nat, Hid (v0 % 10 = (s : Int) ∧ s < 10) := ⟨(v0 % 10).toNat, Lib.hid (by omega)⟩
  obtain ⟨vj, Hvj⟩ : ∃ s : Nat, Hid ((u = 9 ∧ s = 11) ∨ (u ≠ 9 ∧ s = u)) := by
    by_cases h : u = 9
    · exact ⟨11, Lib.hid (.inl ⟨h, rfl⟩)⟩
    · exact ⟨u, Lib.hid (.inr ⟨h, rfl⟩)⟩
  have Hv : Hid (vj < 9 ∨ vj = 11) := Lib.hid (by have := Hvj.out; have := Hu.out; omega)
  have Hb : Hid (0 ≤ who ∧ who ≤ 255) := Lib.hid hw0
  have cs0 : IntKind.i64.wrap s0 = s0 := IntWalk.i64_in _ (by omega)
  have cv0 : IntKind.i64.wrap v0 = v0 := IntWalk.i64_in _ (by omega)
  have cw0 : IntKind.i64.wrap who = who := IntWalk.i64_in _ (by omega)
  have es0 : s0.tmod 3 = (sN : Int) - 1 := by rw [Int.tmod_eq_emod_of_nonneg hs0.1]; have := HsN.out.1; omega
  have ev0 : v0.tmod 10 = (u : Int) := by rw [Int.tmod_eq_emod_of_nonneg hv0.1]; exact Hu.out.1
  have ew0 : who.tmod 3 = (m : Int) := by rw [Int.tmod_eq_emod_of_nonneg hw0.1]; exact Hm.out.1
  have es1 : IntKind.i64.wrap (1 + ((sN : Int) - 1)) = (sN : Int) := by rw [show 1 + ((sN : Int) - 1) = (sN : Int) by omega]; exact IntWalk.i64_in _ (by have := HsN.out; omega)
  have cvj : IntKind.u8.wrap (vj : Int) = (vj : Int) := by rw [IntKind.wrap_u8]; have := Hv.out; omega
  clear hv0 hs0 hw0
  go_enter Tryz.func5, Tryz.ntmps5
  have B := Lib.hid (Below.refl w.heap.size w)
  go_wp2_with fail
  refine (shown16_any _).mono ?_
  rintro r w1 ⟨rfl, hb⟩
  have hsz := (hb).size
  replace B := Lib.hid (below_only B.out hb)
  clear hb hsz
  go_wp2_with fail
  refine (plan16_any _).mono ?_
  rintro r w1a ⟨rfl, hb⟩
  have hsz := (hb).size
  replace B := Lib.hid (below_only B.out hb)
  clear hb hsz
  go_upto_region 3 with fail
  refine one_row w1a _ _ ?_
  intro w2 hr hb
  have hlB := B.out.size
  have hsz := (hb).size
  replace B := Lib.hid (below_only B.out hb)
  clear hb hsz
  have H_p := Lib.hid (show w2.heap[w1a.heap.size]? = some (.cells #[.int .i64 4, .int .i64 2, .int .i64 128, .int .i64 512] 28 (0, 0)) from hr)
  clear hr
  obtain ⟨g_p, hg_p⟩ : ∃ x, x = w1a.heap.size := ⟨_, rfl⟩
  rw [← hg_p] at H_p ⊢
  have L_p : Hid (w.heap.size ≤ g_p) := Lib.hid (by omega)
  clear hg_p hlB
  go_wp2_with fail
  refine (laid_any _).mono ?_
  rintro r w3 ⟨p, b, X, q, d, rfl, hT, hb⟩
  have HT0 := Lib.hid hT
  have HBB := Lib.hid B.out.size
  clear hT
  obtain ⟨wl, hwl⟩ : ∃ x, x = w2.heap.size := ⟨_, rfl⟩
  have hl_p := lt_of_heap H_p.out
  rw [← hwl] at HT0 HBB hl_p
  have hsz := (hb).size
  replace H_p := Lib.hid (row_below H_p.out hb)
  replace B := Lib.hid (below_only B.out hb)
  clear hb hsz
  have N_p : Hid (g_p ∉ [p, b, X, q, d]) := Lib.hid (HT0.out.elder hl_p)
  clear hl_p
  have HT : Hid (TwoW w.heap.size w3 p b X q d 4 2 128 512 (oW 9) (oW 9)) := Lib.hid { HT0.out with low := by have := HT0.out.low; have := HBB.out; omega }
  clear HT0 hwl HBB
  obtain ⟨WS, HWS⟩ : ∃ x, Hid (oW 9 = x) := ⟨_, Lib.hid rfl⟩
  have HLw : Hid (Lw c16 WS) := Lib.hid (by rw [← HWS.out]; exact laid_lw)
  rw [HWS.out] at HT
  go_upto_region 4 with (first | (refine allocTo16 rfl 32 rfl _ (allocH12 _) ?_; (try simp only [Act.put, List.setIfInBounds_toArray, List.set_cons_succ, List.set_cons_zero])) | (refine wpList_store_row rfl 32 (.tmp 11) (.tmp 27) rfl w3.heap.size (hAt 12) rfl rfl 32 (hAt 0) (row_new _ _ _) infoH12 rfl (hAt_one 12) ?_; (try simp only [Act.put, List.setIfInBounds_toArray, List.set_cons_succ, List.set_cons_zero])))
  refine alloc_set' w3 _ _ _ ?_
  intro w4 hr hb
  have hlB := B.out.size
  have hfr := HT.out.fresh (Nat.le_refl w3.heap.size)
  have hl_p := lt_of_heap H_p.out
  have hsz := (hb).size
  replace H_p := Lib.hid (row_below H_p.out hb)
  replace HT := Lib.hid (HT.out.below hb)
  replace B := Lib.hid (below_only B.out hb)
  clear hb hsz
  have H_h := Lib.hid (show w4.heap[w3.heap.size]? = some (.cells (hAt 12) 32 (0, 0)) from hr)
  clear hr
  obtain ⟨g_h, hg_h⟩ : ∃ x, x = w3.heap.size := ⟨_, rfl⟩
  rw [← hg_h] at H_h ⊢
  have N_h : Hid (g_h ∉ [p, b, X, q, d]) := Lib.hid (by rw [hg_h]; exact hfr)
  clear hfr
  have M_p_h : Hid (g_p ≠ g_h) := Lib.hid (by omega)
  have M_h_p : Hid (g_h ≠ g_p) := Lib.hid (by omega)
  clear hl_p
  have L_h : Hid (w.heap.size ≤ g_h) := Lib.hid (by omega)
  clear hg_h hlB
  go_upto_if 42 with fail
  try simp only [Act.put]
  go_cut [13] from 41 to 42 (fun vv wx => vv = .int .i64 (vj : Int) ∧ w4 = wx)
  case first =>
    by_cases hu9 : u = 9
    · have e11 : vj = 11 := by have := Hvj.out; omega
      subst hu9
      go_wp2_with fail
      go_meet
      exact ⟨by rw [e11]; rfl, rfl⟩
    · have eu : vj = u := by have := Hvj.out; omega
      have hb1 : decide (u = 9) = false := decide_eq_false hu9
      have hb2 : ((u : Int) == 9) = false := by simp; omega
      have hb3 : decide ((u : Int) = 9) = false := decide_eq_false (by omega)
      go_wp2_with fail
      go_meet
      exact ⟨by rw [eu], rfl⟩
  case rest =>
    obtain ⟨rfl, hwx⟩ := hcut
    subst hwx
    have HMJr : Hid (m < 3 ∧ (0 : Nat) < 12 ∧ vj < 12 ∧ (3 : Nat) < 4) := Lib.hid ⟨Hm.out.2, by decide, by have := Hv.out; omega, by decide⟩
    have HMJq : Hid (m < 3 ∧ (0 : Nat) < 12 ∧ (0 : Nat) < 12 ∧ (2 : Nat) < 4) := Lib.hid ⟨Hm.out.2, by decide, by decide, by decide⟩
    obtain ⟨p_0, p_1, p_2, p_3, p_f0, p_f1, p_f2, p_f3⟩ := box4 H_p.out
    have z_p := lt_of_heap H_p.out
    go_wp2_with (first | (refine wpList_load_row rfl 32 (.tmp 11) rfl g_h rfl 32 (hAt 12) (0, 0) _ H_h.out undH12 rfl infoH12 ?_; (try simp only [Act.put, List.setIfInBounds_toArray, List.set_cons_succ, List.set_cons_zero])))
    clear p_0 p_1 p_2 p_3 p_f0 p_f1 p_f2 p_f3 z_p
    refine (call16_any 3 who 0 (vj : Int) 0 (sN : Int) 3 m 0 vj _ (by decide) Hb.out (by decide) (by have := Hv.out; omega) (by have := HsN.out; omega) (by decide) rfl Hm.out.1 rfl (by have := Hv.out; omega)).mono ?_
    rintro r w5a ⟨kcr, cAr, hkc, rfl, hE, hEn, hb⟩
    have HKCr := Lib.hid hkc
    clear hkc
    have HLenr : Hid ((chE16 m).length = m) := Lib.hid (chE16_len (by have := HMJr.out; omega))
    have hEl : ∀ z, 0 < (chE16 m).length → cAr = some z → w4.heap.size ≤ z.block := fun z h0 hz => hEn z (by rw [HLenr.out] at h0; exact h0) hz
    clear hEn
    have F_cr : Hid (∀ z, 0 < (chE16 m).length → cAr = some z → z.block ∉ [p, b, X, q, d]) := Lib.hid (fun z h0 hz => HT.out.fresh (hEl z h0 hz))
    have F_cr_p : Hid (∀ z, 0 < (chE16 m).length → cAr = some z → z.block ≠ g_p) := Lib.hid (fun z h0 hz => by have := hEl z h0 hz; have := lt_of_heap H_p.out; omega)
    have F_cr_h : Hid (∀ z, 0 < (chE16 m).length → cAr = some z → z.block ≠ g_h) := Lib.hid (fun z h0 hz => by have := hEl z h0 hz; have := lt_of_heap H_h.out; omega)
    have hE0 := Lib.hid hE
    clear hE hEl
    have hsz := (hb).size
    replace H_p := Lib.hid (row_below H_p.out hb)
    replace H_h := Lib.hid (row_below H_h.out hb)
    replace HT := Lib.hid (HT.out.below hb)
    replace B := Lib.hid (below_only B.out hb)
    clear hb hsz
    have E_cr := hE0
    clear hE0
    go_upto_region 12 with (first | refine wpList_store_row rfl 43 (.tmp 15) (.tmp 53) rfl w5a.heap.size (beg16k m 0 vj 3 (sN : Int) 0 ⟨cAr, m, kcr⟩).arr rfl rfl 43 ZRun (row_new _ _ _) infoRun rfl (Rn.one _) ?_; (try simp only [Act.put, List.setIfInBounds_toArray, List.set_cons_succ, List.set_cons_zero]))
    refine alloc_set' w5a _ _ _ ?_
    intro w5 hr hb
    have hlB := B.out.size
    have hfr := HT.out.fresh (Nat.le_refl w5a.heap.size)
    have hl_p := lt_of_heap H_p.out
    have hl_h := lt_of_heap H_h.out
    have hf_cr := ents_far E_cr.out (Nat.le_refl w5a.heap.size)
    have hsz := (hb).size
    replace H_p := Lib.hid (row_below H_p.out hb)
    replace H_h := Lib.hid (row_below H_h.out hb)
    replace E_cr := Lib.hid (Ents.below E_cr.out hb)
    replace HT := Lib.hid (HT.out.below hb)
    replace B := Lib.hid (below_only B.out hb)
    clear hb hsz
    have H_r := Lib.hid (show w5.heap[w5a.heap.size]? = some (.cells (beg16k m 0 vj 3 (sN : Int) 0 ⟨cAr, m, kcr⟩).arr 43 (0, 0)) from hr)
    clear hr
    obtain ⟨g_r, hg_r⟩ : ∃ x, x = w5a.heap.size := ⟨_, rfl⟩
    rw [← hg_r] at H_r ⊢
    have N_r : Hid (g_r ∉ [p, b, X, q, d]) := Lib.hid (by rw [hg_r]; exact hfr)
    clear hfr
    have M_p_r : Hid (g_p ≠ g_r) := Lib.hid (by omega)
    have M_r_p : Hid (g_r ≠ g_p) := Lib.hid (by omega)
    clear hl_p
    have M_h_r : Hid (g_h ≠ g_r) := Lib.hid (by omega)
    have M_r_h : Hid (g_r ≠ g_h) := Lib.hid (by omega)
    clear hl_h
    have F_cr_r : Hid (∀ z, 0 < ((chE16 m) : List Ent).length → cAr = some z → z.block ≠ g_r) := Lib.hid (by rw [hg_r]; exact hf_cr)
    clear hf_cr
    have L_r : Hid (w.heap.size ≤ g_r) := Lib.hid (by omega)
    clear hg_r hlB
    obtain ⟨nr, hN1, hN2, hN3, hN4, hRun⟩ := beg16_run (C := c16) (ws := WS) (m := m) (j := 0) (v := vj) (k := 3) (a := (sN : Int)) (b := 0) (ch := ⟨cAr, m, kcr⟩) HLw.out (by have := HMJr.out; omega) (by have := HMJr.out; omega) (by have := HMJr.out; omega) (by have := HMJr.out; omega) (by decide) (by have := Hv.out; omega)
    have HN_r := Lib.hid (And.intro hN1 (And.intro hN2 (And.intro hN3 hN4)))
    obtain ⟨r0r, Hr0r⟩ : ∃ x : Rn, Hid ((beg16k m 0 vj 3 (sN : Int) 0 ⟨cAr, m, kcr⟩) = x) := ⟨_, Lib.hid rfl⟩
    have HChr : Hid (r0r.chain = ⟨cAr, m, kcr⟩) := Lib.hid (by rw [← Hr0r.out]; rfl)
    rw [Hr0r.out] at H_r hRun
    have HRunr := Lib.hid hRun
    clear hN1 hN2 hN3 hN4 hRun
    obtain ⟨cr, Hcr⟩ : ∃ x, Hid (verd c16 m 0 vj 3 (sN : Int) 0 = x) := ⟨_, Lib.hid rfl⟩
    rw [Hcr.out] at HN_r HRunr
    obtain ⟨xr, Hxr⟩ : ∃ x, Hid (endX WS 0 (cal16k 3 (sN : Int) 0) cr = x) := ⟨_, Lib.hid rfl⟩
    obtain ⟨wfr, Hwfr⟩ : ∃ x, Hid (endW WS 0 vj (cal16k 3 (sN : Int) 0) cr = x) := ⟨_, Lib.hid rfl⟩
    rw [Hxr.out, Hwfr.out] at HRunr
    have HRun0r := HRunr
    have HBNr : Hid (nr ≤ 3) := Lib.hid HN_r.out.1
    go_wp2_with fail
    go_loopw [16] (fun tt wr => ∃ (i : Nat) (rr : Rn) (wn : List Int), tt = .int .i64 i ∧ i ≤ 6 ∧ Run16 c16 (chE16 m) 0 vj WS cr xr wfr nr i rr wn ∧ rr.chain = ⟨cAr, m, kcr⟩ ∧ wr.heap[g_p]? = some (.cells #[.int .i64 4, .int .i64 2, .int .i64 128, .int .i64 512] 28 (0, 0)) ∧ wr.heap[g_h]? = some (.cells (hAt 12) 32 (0, 0)) ∧ wr.heap[g_r]? = some (.cells rr.arr 43 (0, 0)) ∧ Ents wr cAr (chE16 m) ∧ TwoW w.heap.size wr p b X q d 4 2 128 512 wn WS ∧ Below w.heap.size w wr) (fun t _ => (6 - intOf t).toNat)
    case atStart => exact ⟨0, r0r, _, rfl, by omega, HRunr.out, HChr.out, H_p.out, H_h.out, H_r.out, E_cr.out, HT.out, B.out⟩
    case round =>
      clear H_p H_h H_r E_cr HT B HRunr HChr
      obtain ⟨i, rr, wn, rfl, hi6, hRun, hCh, hrel⟩ := hrel
      have HRun := Lib.hid hRun
      have HChr := Lib.hid hCh
      clear hRun hCh
      obtain ⟨hq_H_p, hq_H_h, hq_H_r, hq_E_cr, hq_HT, hq_B⟩ := hrel
      replace H_p := Lib.hid hq_H_p
      replace H_h := Lib.hid hq_H_h
      replace H_r := Lib.hid hq_H_r
      replace E_cr := Lib.hid hq_E_cr
      replace HT := Lib.hid hq_HT
      replace B := Lib.hid hq_B
      clear hq_H_p hq_H_h hq_H_r hq_E_cr hq_HT hq_B
      go_upto_region 13 with fail
      try simp only [Act.put]
      go_cut [65] from 54 to 65 (fun vv wx => vv = .bool (decide (i < nr)) ∧ wr = wx)
      case first =>
        by_cases hiN : i < nr
        · skip
          have hq := run16_on HRun.out hiN
          have hpcq := hq.1.pc
          have HPq := Lib.hid hq.1.done
          clear hq
          have e0 : decide (rr.pc = 0) = false := decide_eq_false (by omega)
          have e1 : (rr.pc == 0) = false := by simp; omega
          have e2 : (rr.pc != 0) = true := by simp; omega
          have HDq : Hid (decide (i < nr) = true) := Lib.hid (decide_eq_true hiN)
          have hlimI : (i : Int) < 4 := by have := HN_r.out.1; have := HBNr.out; omega
          have hlimB : decide ((i : Int) < 4) = true := decide_eq_true hlimI
          have r_21 : wr.cell? ⟨g_r, 21, none⟩ = some (.bool false) := by rw [row_cell H_r.out]; rw [← HPq.out]; rfl
          have r_7 : wr.cell? ⟨g_r, 7, none⟩ = some (.int .i64 rr.pc) := by rw [row_cell H_r.out]; rfl
          have z_r := lt_of_heap H_r.out
          clear hpcq
          go_wp2_with fail
          go_meet
          exact ⟨by rw [HDq.out], rfl⟩
        · skip
          obtain ⟨hiE, hq1, hq2, hq3, hq⟩ := run16_end HRun.out hiN
          clear hq1 hq2 hq3
          have HDq : Hid (decide (i < nr) = false) := Lib.hid (decide_eq_false hiN)
          have hlimI : (i : Int) < 4 := by have := HN_r.out.1; have := HBNr.out; omega
          have hlimB : decide ((i : Int) < 4) = true := decide_eq_true hlimI
          clear hiE
          rcases hq with ⟨hd, _, _⟩ | ⟨hd, hp0, _⟩
          · skip
            have HPq := Lib.hid hd
            clear hd
            have r_21 : wr.cell? ⟨g_r, 21, none⟩ = some (.bool true) := by rw [row_cell H_r.out]; rw [← HPq.out]; rfl
            have z_r := lt_of_heap H_r.out
            go_wp2_with fail
            go_meet
            exact ⟨by rw [HDq.out], rfl⟩
          · skip
            have HPq := Lib.hid (And.intro hd hp0)
            clear hd hp0
            have r_21 : wr.cell? ⟨g_r, 21, none⟩ = some (.bool false) := by rw [row_cell H_r.out]; rw [← HPq.out.1]; rfl
            have r_7 : wr.cell? ⟨g_r, 7, none⟩ = some (.int .i64 0) := by rw [row_cell H_r.out]; rw [← HPq.out.2]; rfl
            have z_r := lt_of_heap H_r.out
            go_wp2_with fail
            go_meet
            exact ⟨by rw [HDq.out], rfl⟩
      case rest =>
        obtain ⟨rfl, hwx⟩ := hcut
        subst hwx
        by_cases hiN : i < nr
        · skip
          rw [decide_eq_true hiN]
          obtain ⟨hI, hwn, hnext⟩ := run16_on HRun.out hiN
          rw [hwn] at HT
          clear hwn
          have HI := Lib.hid hI
          have Hnext := Lib.hid hnext
          have HiN : Hid (i + 1 ≤ 6) := Lib.hid (by have := HBNr.out; have := HN_r.out.1; omega)
          clear hI hnext hiN HRun
          obtain ⟨p_0, p_1, p_2, p_3, p_f0, p_f1, p_f2, p_f3⟩ := box4 H_p.out
          have z_p := lt_of_heap H_p.out
          go_wp2_with (first | (refine wpList_load_row rfl 43 (.tmp 15) rfl g_r rfl 43 rr.arr (0, 0) _ H_r.out undRun rfl infoRun ?_; (try simp only [Act.put, List.setIfInBounds_toArray, List.set_cons_succ, List.set_cons_zero])))
          clear p_0 p_1 p_2 p_3 p_f0 p_f1 p_f2 p_f3 z_p
          refine (slStep_any c16 (chE16 m) 0 vj p b WS rr _ HT.out.a HLw.out HI.out (by rw [HLenr.out]; have := HMJr.out; omega) (by rw [HChr.out, HLenr.out]) (by rw [HChr.out, HLenr.out]; exact HKCr.out) (by rw [HChr.out]; exact E_cr.out)).mono ?_
          rintro r y5 ⟨rfl, hA, hK⟩
          obtain ⟨R2, HR2⟩ : ∃ R, Hid (slR c16 (chE16 m) WS 0 vj rr = R) := ⟨_, Lib.hid rfl⟩
          obtain ⟨W2, HW2⟩ : ∃ R, Hid (slW WS rr = R) := ⟨_, Lib.hid rfl⟩
          rw [HR2.out]
          rw [HR2.out, HW2.out] at Hnext
          rw [HW2.out] at hA
          have HCh2 : Hid (R2.chain = ⟨cAr, m, kcr⟩) := Lib.hid (by rw [← HR2.out, (sl_stays HI.out).1]; exact HChr.out)
          clear HR2 HW2 HI HChr
          have hszK := hK.size
          replace H_p := Lib.hid (hK.row H_p.out (by simpa using (HT.out.nb N_p.out).1))
          replace H_h := Lib.hid (hK.row H_h.out (by simpa using (HT.out.nb N_h.out).1))
          replace H_r := Lib.hid (hK.row H_r.out (by simpa using (HT.out.nb N_r.out).1))
          replace E_cr := Lib.hid (ents_kept E_cr.out hK (fun z h0 hz => by simpa using (HT.out.nb (F_cr.out z h0 hz)).1))
          replace B := Lib.hid (HT.out.under B.out hK (by simp))
          replace HT := Lib.hid (HT.out.onA hA hK)
          clear hA hK hszK
          go_upto_region 14 with (first | (refine wpList_store_row rfl 43 (.tmp 15) (.tmp 73) rfl g_r R2.arr rfl rfl 43 rr.arr H_r.out infoRun rfl (Rn.one _) ?_; (try simp only [Act.put, List.setIfInBounds_toArray, List.set_cons_succ, List.set_cons_zero])))
          refine set_row' y5 g_r _ _ _ H_r.out ?_
          intro y6 hr hK
          have hszK := hK.size
          replace H_p := Lib.hid (hK.row H_p.out (by simpa using M_p_r.out))
          replace H_h := Lib.hid (hK.row H_h.out (by simpa using M_h_r.out))
          replace E_cr := Lib.hid (ents_kept E_cr.out hK (fun z h0 hz => by simpa using F_cr_r.out z h0 hz))
          replace HT := Lib.hid (HT.out.kept hK (fun j hj => by simp only [List.mem_singleton] at hj; subst hj; exact N_r.out))
          replace B := Lib.hid (Keep.under B.out hK (by have := B.out.size; omega) (by simp; exact L_r.out))
          replace H_r := Lib.hid hr
          clear hr hK hszK
          go_wp2_with fail
          go_roundw
          case rel => exact ⟨i + 1, R2, W2, by go_num, HiN.out, Hnext.out, HCh2.out, H_p.out, H_h.out, H_r.out, E_cr.out, HT.out, B.out⟩
          case measure => have := HiN.out; simp [intOf]; omega
        rw [decide_eq_false hiN]
        obtain ⟨hiE, hcd, hax, hwf, hdn⟩ := run16_end HRun.out hiN
        rw [hwf] at HT
        obtain ⟨rer, Hre⟩ : ∃ x, Hid (rr = x) := ⟨_, Lib.hid rfl⟩
        have HFinr : Hid (rer.code = cr ∧ rer.an = xr ∧ (rer.done = true ∧ rer.point = true ∧ 0 < nr ∨ rer.done = false ∧ rer.pc = 0 ∧ nr = 0) ∧ i = nr) := Lib.hid (by rw [← Hre.out]; exact ⟨hcd, hax, hdn, hiE⟩)
        rw [Hre.out] at H_r
        clear hiE hcd hax hwf hdn Hre HRun HChr hiN hi6
        have HLr := Lib.hid (run16_lw HLw.out HRun0r.out)
        obtain ⟨p_0, p_1, p_2, p_3, p_f0, p_f1, p_f2, p_f3⟩ := box4 H_p.out
        have z_p := lt_of_heap H_p.out
        go_wp2_with (first | (refine wpList_load_row rfl 32 (.tmp 11) rfl g_h rfl 32 (hAt 12) (0, 0) _ H_h.out undH12 rfl infoH12 ?_; (try simp only [Act.put, List.setIfInBounds_toArray, List.set_cons_succ, List.set_cons_zero])))
        clear p_0 p_1 p_2 p_3 p_f0 p_f1 p_f2 p_f3 z_p
        refine (call16_any 2 who 0 0 0 (sN : Int) 2 m 0 0 _ (by decide) Hb.out (by decide) (by decide) (by have := HsN.out; omega) (by decide) rfl Hm.out.1 rfl rfl).mono ?_
        rintro r w6a ⟨kcq, cAq, hkc, rfl, hE, hEn, hb⟩
        have HKCq := Lib.hid hkc
        clear hkc
        have HLenq : Hid ((chE16 m).length = m) := Lib.hid (chE16_len (by have := HMJq.out; omega))
        have hEl : ∀ z, 0 < (chE16 m).length → cAq = some z → wr.heap.size ≤ z.block := fun z h0 hz => hEn z (by rw [HLenq.out] at h0; exact h0) hz
        clear hEn
        have F_cq : Hid (∀ z, 0 < (chE16 m).length → cAq = some z → z.block ∉ [p, b, X, q, d]) := Lib.hid (fun z h0 hz => HT.out.fresh (hEl z h0 hz))
        have F_cq_p : Hid (∀ z, 0 < (chE16 m).length → cAq = some z → z.block ≠ g_p) := Lib.hid (fun z h0 hz => by have := hEl z h0 hz; have := lt_of_heap H_p.out; omega)
        have F_cq_h : Hid (∀ z, 0 < (chE16 m).length → cAq = some z → z.block ≠ g_h) := Lib.hid (fun z h0 hz => by have := hEl z h0 hz; have := lt_of_heap H_h.out; omega)
        have F_cq_r : Hid (∀ z, 0 < (chE16 m).length → cAq = some z → z.block ≠ g_r) := Lib.hid (fun z h0 hz => by have := hEl z h0 hz; have := lt_of_heap H_r.out; omega)
        have hE0 := Lib.hid hE
        clear hE hEl
        have hsz := (hb).size
        replace H_p := Lib.hid (row_below H_p.out hb)
        replace H_h := Lib.hid (row_below H_h.out hb)
        replace H_r := Lib.hid (row_below H_r.out hb)
        replace E_cr := Lib.hid (Ents.below E_cr.out hb)
        replace HT := Lib.hid (HT.out.below hb)
        replace B := Lib.hid (below_only B.out hb)
        clear hb hsz
        have E_cq := hE0
        clear hE0
        go_upto_region 17 with (first | refine wpList_store_row rfl 43 (.tmp 17) (.tmp 80) rfl w6a.heap.size (beg16k m 0 0 2 (sN : Int) 0 ⟨cAq, m, kcq⟩).arr rfl rfl 43 ZRun (row_new _ _ _) infoRun rfl (Rn.one _) ?_; (try simp only [Act.put, List.setIfInBounds_toArray, List.set_cons_succ, List.set_cons_zero]))
        refine alloc_set' w6a _ _ _ ?_
        intro w6 hr hb
        have hlB := B.out.size
        have hfr := HT.out.fresh (Nat.le_refl w6a.heap.size)
        have hl_p := lt_of_heap H_p.out
        have hl_h := lt_of_heap H_h.out
        have hl_r := lt_of_heap H_r.out
        have hf_cr := ents_far E_cr.out (Nat.le_refl w6a.heap.size)
        have hf_cq := ents_far E_cq.out (Nat.le_refl w6a.heap.size)
        have hsz := (hb).size
        replace H_p := Lib.hid (row_below H_p.out hb)
        replace H_h := Lib.hid (row_below H_h.out hb)
        replace H_r := Lib.hid (row_below H_r.out hb)
        replace E_cr := Lib.hid (Ents.below E_cr.out hb)
        replace E_cq := Lib.hid (Ents.below E_cq.out hb)
        replace HT := Lib.hid (HT.out.below hb)
        replace B := Lib.hid (below_only B.out hb)
        clear hb hsz
        have H_q := Lib.hid (show w6.heap[w6a.heap.size]? = some (.cells (beg16k m 0 0 2 (sN : Int) 0 ⟨cAq, m, kcq⟩).arr 43 (0, 0)) from hr)
        clear hr
        obtain ⟨g_q, hg_q⟩ : ∃ x, x = w6a.heap.size := ⟨_, rfl⟩
        rw [← hg_q] at H_q ⊢
        have N_q : Hid (g_q ∉ [p, b, X, q, d]) := Lib.hid (by rw [hg_q]; exact hfr)
        clear hfr
        have M_p_q : Hid (g_p ≠ g_q) := Lib.hid (by omega)
        have M_q_p : Hid (g_q ≠ g_p) := Lib.hid (by omega)
        clear hl_p
        have M_h_q : Hid (g_h ≠ g_q) := Lib.hid (by omega)
        have M_q_h : Hid (g_q ≠ g_h) := Lib.hid (by omega)
        clear hl_h
        have M_r_q : Hid (g_r ≠ g_q) := Lib.hid (by omega)
        have M_q_r : Hid (g_q ≠ g_r) := Lib.hid (by omega)
        clear hl_r
        have F_cr_q : Hid (∀ z, 0 < ((chE16 m) : List Ent).length → cAr = some z → z.block ≠ g_q) := Lib.hid (by rw [hg_q]; exact hf_cr)
        clear hf_cr
        have F_cq_q : Hid (∀ z, 0 < ((chE16 m) : List Ent).length → cAq = some z → z.block ≠ g_q) := Lib.hid (by rw [hg_q]; exact hf_cq)
        clear hf_cq
        have L_q : Hid (w.heap.size ≤ g_q) := Lib.hid (by omega)
        clear hg_q hlB
        obtain ⟨nq, hN1, hN2, hN3, hN4, hRun⟩ := beg16_run (C := c16) (ws := wfr) (m := m) (j := 0) (v := 0) (k := 2) (a := (sN : Int)) (b := 0) (ch := ⟨cAq, m, kcq⟩) HLr.out (by have := HMJq.out; omega) (by have := HMJq.out; omega) (by have := HMJq.out; omega) (by have := HMJq.out; omega) (by decide) (by decide)
        have HN_q := Lib.hid (And.intro hN1 (And.intro hN2 (And.intro hN3 hN4)))
        obtain ⟨r0q, Hr0q⟩ : ∃ x : Rn, Hid ((beg16k m 0 0 2 (sN : Int) 0 ⟨cAq, m, kcq⟩) = x) := ⟨_, Lib.hid rfl⟩
        have HChq : Hid (r0q.chain = ⟨cAq, m, kcq⟩) := Lib.hid (by rw [← Hr0q.out]; rfl)
        rw [Hr0q.out] at H_q hRun
        have HRunq := Lib.hid hRun
        clear hN1 hN2 hN3 hN4 hRun
        obtain ⟨cq, Hcq⟩ : ∃ x, Hid (verd c16 m 0 0 2 (sN : Int) 0 = x) := ⟨_, Lib.hid rfl⟩
        rw [Hcq.out] at HN_q HRunq
        obtain ⟨xq, Hxq⟩ : ∃ x, Hid (endX wfr 0 (cal16k 2 (sN : Int) 0) cq = x) := ⟨_, Lib.hid rfl⟩
        obtain ⟨wfq, Hwfq⟩ : ∃ x, Hid (endW wfr 0 0 (cal16k 2 (sN : Int) 0) cq = x) := ⟨_, Lib.hid rfl⟩
        rw [Hxq.out, Hwfq.out] at HRunq
        have HBNq : Hid (nq ≤ 1) := Lib.hid HN_q.out.1
        go_wp2_with fail
        go_loopw [18] (fun tt wr => ∃ (i : Nat) (rr : Rn) (wn : List Int), tt = .int .i64 i ∧ i ≤ 6 ∧ Run16 c16 (chE16 m) 0 0 wfr cq xq wfq nq i rr wn ∧ rr.chain = ⟨cAq, m, kcq⟩ ∧ wr.heap[g_p]? = some (.cells #[.int .i64 4, .int .i64 2, .int .i64 128, .int .i64 512] 28 (0, 0)) ∧ wr.heap[g_h]? = some (.cells (hAt 12) 32 (0, 0)) ∧ wr.heap[g_r]? = some (.cells rer.arr 43 (0, 0)) ∧ wr.heap[g_q]? = some (.cells rr.arr 43 (0, 0)) ∧ Ents wr cAr (chE16 m) ∧ Ents wr cAq (chE16 m) ∧ TwoW w.heap.size wr p b X q d 4 2 128 512 wn WS ∧ Below w.heap.size w wr) (fun t _ => (6 - intOf t).toNat)
        case atStart => exact ⟨0, r0q, _, rfl, by omega, HRunq.out, HChq.out, H_p.out, H_h.out, H_r.out, H_q.out, E_cr.out, E_cq.out, HT.out, B.out⟩
        case round =>
          clear H_p H_h H_r H_q E_cr E_cq HT B HRunq HChq
          obtain ⟨i, rr, wn, rfl, hi6, hRun, hCh, hrel⟩ := hrel
          have HRun := Lib.hid hRun
          have HChr := Lib.hid hCh
          clear hRun hCh
          obtain ⟨hq_H_p, hq_H_h, hq_H_r, hq_H_q, hq_E_cr, hq_E_cq, hq_HT, hq_B⟩ := hrel
          replace H_p := Lib.hid hq_H_p
          replace H_h := Lib.hid hq_H_h
          replace H_r := Lib.hid hq_H_r
          replace H_q := Lib.hid hq_H_q
          replace E_cr := Lib.hid hq_E_cr
          replace E_cq := Lib.hid hq_E_cq
          replace HT := Lib.hid hq_HT
          replace B := Lib.hid hq_B
          clear hq_H_p hq_H_h hq_H_r hq_H_q hq_E_cr hq_E_cq hq_HT hq_B
          go_upto_region 18 with fail
          try simp only [Act.put]
          go_cut [92] from 81 to 92 (fun vv wx => vv = .bool (decide (i < nq)) ∧ wr = wx)
          case first =>
            by_cases hiN : i < nq
            · skip
              have hq := run16_on HRun.out hiN
              have hpcq := hq.1.pc
              have HPq := Lib.hid hq.1.done
              clear hq
              have e0 : decide (rr.pc = 0) = false := decide_eq_false (by omega)
              have e1 : (rr.pc == 0) = false := by simp; omega
              have e2 : (rr.pc != 0) = true := by simp; omega
              have HDq : Hid (decide (i < nq) = true) := Lib.hid (decide_eq_true hiN)
              have hlimI : (i : Int) < 2 := by have := HN_q.out.1; have := HBNq.out; omega
              have hlimB : decide ((i : Int) < 2) = true := decide_eq_true hlimI
              have q_21 : wr.cell? ⟨g_q, 21, none⟩ = some (.bool false) := by rw [row_cell H_q.out]; rw [← HPq.out]; rfl
              have q_7 : wr.cell? ⟨g_q, 7, none⟩ = some (.int .i64 rr.pc) := by rw [row_cell H_q.out]; rfl
              have z_q := lt_of_heap H_q.out
              clear hpcq
              go_wp2_with fail
              go_meet
              exact ⟨by rw [HDq.out], rfl⟩
            · skip
              obtain ⟨hiE, hq1, hq2, hq3, hq⟩ := run16_end HRun.out hiN
              clear hq1 hq2 hq3
              have HDq : Hid (decide (i < nq) = false) := Lib.hid (decide_eq_false hiN)
              have hlimI : (i : Int) < 2 := by have := HN_q.out.1; have := HBNq.out; omega
              have hlimB : decide ((i : Int) < 2) = true := decide_eq_true hlimI
              clear hiE
              rcases hq with ⟨hd, _, _⟩ | ⟨hd, hp0, _⟩
              · skip
                have HPq := Lib.hid hd
                clear hd
                have q_21 : wr.cell? ⟨g_q, 21, none⟩ = some (.bool true) := by rw [row_cell H_q.out]; rw [← HPq.out]; rfl
                have z_q := lt_of_heap H_q.out
                go_wp2_with fail
                go_meet
                exact ⟨by rw [HDq.out], rfl⟩
              · skip
                have HPq := Lib.hid (And.intro hd hp0)
                clear hd hp0
                have q_21 : wr.cell? ⟨g_q, 21, none⟩ = some (.bool false) := by rw [row_cell H_q.out]; rw [← HPq.out.1]; rfl
                have q_7 : wr.cell? ⟨g_q, 7, none⟩ = some (.int .i64 0) := by rw [row_cell H_q.out]; rw [← HPq.out.2]; rfl
                have z_q := lt_of_heap H_q.out
                go_wp2_with fail
                go_meet
                exact ⟨by rw [HDq.out], rfl⟩
          case rest =>
            obtain ⟨rfl, hwx⟩ := hcut
            subst hwx
            by_cases hiN : i < nq
            · skip
              rw [decide_eq_true hiN]
              obtain ⟨hI, hwn, hnext⟩ := run16_on HRun.out hiN
              rw [hwn] at HT
              clear hwn
              have HI := Lib.hid hI
              have Hnext := Lib.hid hnext
              have HiN : Hid (i + 1 ≤ 6) := Lib.hid (by have := HBNq.out; have := HN_q.out.1; omega)
              clear hI hnext hiN HRun
              obtain ⟨p_0, p_1, p_2, p_3, p_f0, p_f1, p_f2, p_f3⟩ := box4 H_p.out
              have z_p := lt_of_heap H_p.out
              go_wp2_with (first | (refine wpList_load_row rfl 43 (.tmp 17) rfl g_q rfl 43 rr.arr (0, 0) _ H_q.out undRun rfl infoRun ?_; (try simp only [Act.put, List.setIfInBounds_toArray, List.set_cons_succ, List.set_cons_zero])))
              clear p_0 p_1 p_2 p_3 p_f0 p_f1 p_f2 p_f3 z_p
              refine (slStep_any c16 (chE16 m) 0 0 p b wfr rr _ HT.out.a HLr.out HI.out (by rw [HLenq.out]; have := HMJq.out; omega) (by rw [HChr.out, HLenq.out]) (by rw [HChr.out, HLenq.out]; exact HKCq.out) (by rw [HChr.out]; exact E_cq.out)).mono ?_
              rintro r y5 ⟨rfl, hA, hK⟩
              obtain ⟨R2, HR2⟩ : ∃ R, Hid (slR c16 (chE16 m) wfr 0 0 rr = R) := ⟨_, Lib.hid rfl⟩
              obtain ⟨W2, HW2⟩ : ∃ R, Hid (slW wfr rr = R) := ⟨_, Lib.hid rfl⟩
              rw [HR2.out]
              rw [HR2.out, HW2.out] at Hnext
              rw [HW2.out] at hA
              have HCh2 : Hid (R2.chain = ⟨cAq, m, kcq⟩) := Lib.hid (by rw [← HR2.out, (sl_stays HI.out).1]; exact HChr.out)
              clear HR2 HW2 HI HChr
              have hszK := hK.size
              replace H_p := Lib.hid (hK.row H_p.out (by simpa using (HT.out.nb N_p.out).1))
              replace H_h := Lib.hid (hK.row H_h.out (by simpa using (HT.out.nb N_h.out).1))
              replace H_r := Lib.hid (hK.row H_r.out (by simpa using (HT.out.nb N_r.out).1))
              replace H_q := Lib.hid (hK.row H_q.out (by simpa using (HT.out.nb N_q.out).1))
              replace E_cr := Lib.hid (ents_kept E_cr.out hK (fun z h0 hz => by simpa using (HT.out.nb (F_cr.out z h0 hz)).1))
              replace E_cq := Lib.hid (ents_kept E_cq.out hK (fun z h0 hz => by simpa using (HT.out.nb (F_cq.out z h0 hz)).1))
              replace B := Lib.hid (HT.out.under B.out hK (by simp))
              replace HT := Lib.hid (HT.out.onA hA hK)
              clear hA hK hszK
              go_upto_region 19 with (first | (refine wpList_store_row rfl 43 (.tmp 17) (.tmp 100) rfl g_q R2.arr rfl rfl 43 rr.arr H_q.out infoRun rfl (Rn.one _) ?_; (try simp only [Act.put, List.setIfInBounds_toArray, List.set_cons_succ, List.set_cons_zero])))
              refine set_row' y5 g_q _ _ _ H_q.out ?_
              intro y6 hr hK
              have hszK := hK.size
              replace H_p := Lib.hid (hK.row H_p.out (by simpa using M_p_q.out))
              replace H_h := Lib.hid (hK.row H_h.out (by simpa using M_h_q.out))
              replace H_r := Lib.hid (hK.row H_r.out (by simpa using M_r_q.out))
              replace E_cr := Lib.hid (ents_kept E_cr.out hK (fun z h0 hz => by simpa using F_cr_q.out z h0 hz))
              replace E_cq := Lib.hid (ents_kept E_cq.out hK (fun z h0 hz => by simpa using F_cq_q.out z h0 hz))
              replace HT := Lib.hid (HT.out.kept hK (fun j hj => by simp only [List.mem_singleton] at hj; subst hj; exact N_q.out))
              replace B := Lib.hid (Keep.under B.out hK (by have := B.out.size; omega) (by simp; exact L_q.out))
              replace H_q := Lib.hid hr
              clear hr hK hszK
              go_wp2_with fail
              go_roundw
              case rel => exact ⟨i + 1, R2, W2, by go_num, HiN.out, Hnext.out, HCh2.out, H_p.out, H_h.out, H_r.out, H_q.out, E_cr.out, E_cq.out, HT.out, B.out⟩
              case measure => have := HiN.out; simp [intOf]; omega
            rw [decide_eq_false hiN]
            obtain ⟨hiE, hcd, hax, hwf, hdn⟩ := run16_end HRun.out hiN
            rw [hwf] at HT
            obtain ⟨req, Hre⟩ : ∃ x, Hid (rr = x) := ⟨_, Lib.hid rfl⟩
            have HFinq : Hid (req.code = cq ∧ req.an = xq ∧ (req.done = true ∧ req.point = true ∧ 0 < nq ∨ req.done = false ∧ req.pc = 0 ∧ nq = 0) ∧ i = nq) := Lib.hid (by rw [← Hre.out]; exact ⟨hcd, hax, hdn, hiE⟩)
            rw [Hre.out] at H_q
            clear hiE hcd hax hwf hdn Hre HRun HChr hiN hi6
            have hvq := verd_portal (C := c16) (m := m) (j := 0) (v := 0) (b := 0) HsN.out.2
            have hvr := verd_gate (b := 0) Hm.out.2 HsN.out.2 Hv.out
            rw [Hcq.out] at hvq
            rw [Hcr.out] at hvr
            have HVq := Lib.hid hvq
            have HVr := Lib.hid hvr
            have Hxr : Hid (cq = 0 → xq = if cr = 0 then hC vj else 0) := Lib.hid (fun e => by
              have h0 : WS[8 * sN + 4]? = some 0 := by rw [← HWS.out]; exact laid_pt sN (by have := HsN.out; omega)
              rw [← Hxq.out, e, ← Hwfr.out]
              exact gate_get (ws := WS) (v := vj) (s := sN) (b := 0) (b' := 0) (c := cr) HLw.out HsN.out.2 h0 (by have := Hv.out; omega))
            clear hvq hvr
            by_cases hd : m < sN
            · skip
              have hdI : (sN : Int) > (m : Int) := by omega
              have hdI2 : (m : Int) < (sN : Int) := by omega
              have hdB : decide ((m : Int) < (sN : Int)) = true := decide_eq_true hdI2
              have hdB2 : decide (m < sN) = true := decide_eq_true hd
              have HCr : Hid (cr = 20) := Lib.hid (by rw [HVr.out, if_pos hd])
              have HCq : Hid (cq = 20) := Lib.hid (by rw [HVq.out, if_pos hd])
              have r_23 : wr.cell? ⟨g_r, 23, none⟩ = some (.int .i64 20) := by rw [row_cell H_r.out]; rw [← HCr.out, ← HFinr.out.1]; rfl
              have z_r := lt_of_heap H_r.out
              have q_23 : wr.cell? ⟨g_q, 23, none⟩ = some (.int .i64 20) := by rw [row_cell H_q.out]; rw [← HCq.out, ← HFinq.out.1]; rfl
              have z_q := lt_of_heap H_q.out
              have B2 := B.out
              clear B
              go_wp2_with fail
              go_ret
              exact ⟨rfl, B2⟩
            · skip
              have hdB : decide ((m : Int) < (sN : Int)) = false := decide_eq_false (by omega)
              have hdB2 : decide (m < sN) = false := decide_eq_false hd
              have Hd := Lib.hid hd
              clear hd
              by_cases h11 : vj = 11
              · skip
                have HCr : Hid (cr = 0) := Lib.hid (by rw [HVr.out, if_neg Hd.out, if_pos h11])
                have HCq : Hid (cq = 0) := Lib.hid (by rw [HVq.out, if_neg Hd.out])
                have HXq : Hid (xq = 0) := Lib.hid (by rw [Hxr.out HCq.out, HCr.out, if_pos rfl, h11]; decide)
                have r_23 : wr.cell? ⟨g_r, 23, none⟩ = some (.int .i64 0) := by rw [row_cell H_r.out]; rw [← HCr.out, ← HFinr.out.1]; rfl
                have z_r := lt_of_heap H_r.out
                have q_23 : wr.cell? ⟨g_q, 23, none⟩ = some (.int .i64 0) := by rw [row_cell H_q.out]; rw [← HCq.out, ← HFinq.out.1]; rfl
                have z_q := lt_of_heap H_q.out
                have q_24 : wr.cell? ⟨g_q, 24, none⟩ = some (.int .i64 0) := by rw [row_cell H_q.out]; rw [← HXq.out, ← HFinq.out.2.1]; rfl
                have ch11 : g_h = g_h := rfl
                have h_11 : wr.cell? ⟨g_h, 11, none⟩ = some (.int .u64 0) := h12_cell H_h.out (by decide)
                have z_h := lt_of_heap H_h.out
                subst h11
                have B2 := B.out
                clear B ch11 HRun0r HVr Hxr
                go_wp2_with fail
                go_ret
                exact ⟨rfl, B2⟩
              · skip
                have hv9 : vj < 9 := by have := Hv.out; omega
                have n11 : decide (vj = 11) = false := decide_eq_false h11
                have n11b : ((vj : Int) == 11) = false := by simp; omega
                have n11c : decide ((vj : Int) = 11) = false := decide_eq_false (by omega)
                have HCq : Hid (cq = 0) := Lib.hid (by rw [HVq.out, if_neg Hd.out])
                have hvr := HVr.out
                rw [if_neg Hd.out, if_neg h11] at hvr
                have HVr2 := Lib.hid hvr
                clear hvr
                have hbd := hC_bd vj (by omega)
                have cw : IntKind.i64.wrap (hC vj) = hC vj := IntWalk.i64_in _ (by omega)
                obtain ⟨dv, Hdv⟩ : ∃ x : Nat, Hid (vj / 3 = x) := ⟨_, Lib.hid rfl⟩
                have edv : ((vj : Int)).tdiv 3 = (dv : Int) := by rw [Int.tdiv_eq_ediv_of_nonneg (by omega), ← Hdv.out]; omega
                rw [Hdv.out] at HVr2
                have dvb : dv ≤ 2 := by have := Hdv.out; omega
                have dvw : IntKind.i64.wrap (dv : Int) = (dv : Int) := IntWalk.i64_in _ (by omega)
                have h_v : wr.cell? ⟨g_h, vj, none⟩ = some (.int .u64 (hC vj)) := h12_cell H_h.out (by omega)
                have z_h := lt_of_heap H_h.out
                have vI : (vj : Int) < 12 := by omega
                have vI0 : (0 : Int) ≤ (vj : Int) := by omega
                have v12 : decide ((12 : Int) ≤ (vj : Int)) = false := decide_eq_false (by omega)
                obtain ⟨hx, Hhx⟩ : ∃ x, Hid (hC vj = x) := ⟨_, Lib.hid rfl⟩
                rw [Hhx.out] at h_v cw Hxr
                clear hv9 hbd h11 HRun0r HVr
                by_cases hm1 : dv ≤ m
                · skip
                  by_cases hm2 : dv ≤ sN
                  · skip
                    have hb1 : decide ((dv : Int) ≤ (m : Int)) = true := decide_eq_true (by omega)
                    have hb2 : decide (dv ≤ m) = true := decide_eq_true hm1
                    have hb3 : decide ((dv : Int) ≤ (sN : Int)) = true := decide_eq_true (by omega)
                    have hb4 : decide (dv ≤ sN) = true := decide_eq_true hm2
                    have HCr : Hid (cr = 0) := Lib.hid (by rw [HVr2.out, if_pos hm1, if_pos hm2])
                    have HXq : Hid (xq = hx) := Lib.hid (by rw [Hxr.out HCq.out, HCr.out]; rfl)
                    have r_23 : wr.cell? ⟨g_r, 23, none⟩ = some (.int .i64 0) := by rw [row_cell H_r.out]; rw [← HCr.out, ← HFinr.out.1]; rfl
                    have z_r := lt_of_heap H_r.out
                    have q_23 : wr.cell? ⟨g_q, 23, none⟩ = some (.int .i64 0) := by rw [row_cell H_q.out]; rw [← HCq.out, ← HFinq.out.1]; rfl
                    have z_q := lt_of_heap H_q.out
                    have q_24 : wr.cell? ⟨g_q, 24, none⟩ = some (.int .i64 hx) := by rw [row_cell H_q.out]; rw [← HXq.out, ← HFinq.out.2.1]; rfl
                    have B2 := B.out
                    clear B HVr2 Hxr
                    go_wp2_with fail
                    go_ret
                    exact ⟨rfl, B2⟩
                  · skip
                    have hb1 : decide ((dv : Int) ≤ (m : Int)) = true := decide_eq_true (by omega)
                    have hb2 : decide (dv ≤ m) = true := decide_eq_true hm1
                    have hb3 : decide ((dv : Int) ≤ (sN : Int)) = false := decide_eq_false (by omega)
                    have hb4 : decide (dv ≤ sN) = false := decide_eq_false hm2
                    have HCr : Hid (cr = 22) := Lib.hid (by rw [HVr2.out, if_pos hm1, if_neg hm2])
                    have HXq : Hid (xq = 0) := Lib.hid (by rw [Hxr.out HCq.out, HCr.out]; rfl)
                    have r_23 : wr.cell? ⟨g_r, 23, none⟩ = some (.int .i64 22) := by rw [row_cell H_r.out]; rw [← HCr.out, ← HFinr.out.1]; rfl
                    have z_r := lt_of_heap H_r.out
                    have q_23 : wr.cell? ⟨g_q, 23, none⟩ = some (.int .i64 0) := by rw [row_cell H_q.out]; rw [← HCq.out, ← HFinq.out.1]; rfl
                    have z_q := lt_of_heap H_q.out
                    have q_24 : wr.cell? ⟨g_q, 24, none⟩ = some (.int .i64 0) := by rw [row_cell H_q.out]; rw [← HXq.out, ← HFinq.out.2.1]; rfl
                    have B2 := B.out
                    clear B HVr2 Hxr
                    go_wp2_with fail
                    go_ret
                    exact ⟨rfl, B2⟩
                · skip
                  have hb1 : decide ((dv : Int) ≤ (m : Int)) = false := decide_eq_false (by omega)
                  have hb2 : decide (dv ≤ m) = false := decide_eq_false hm1
                  have HCr : Hid (cr = 20) := Lib.hid (by rw [HVr2.out, if_neg hm1])
                  have HXq : Hid (xq = 0) := Lib.hid (by rw [Hxr.out HCq.out, HCr.out]; rfl)
                  have r_23 : wr.cell? ⟨g_r, 23, none⟩ = some (.int .i64 20) := by rw [row_cell H_r.out]; rw [← HCr.out, ← HFinr.out.1]; rfl
                  have z_r := lt_of_heap H_r.out
                  have q_23 : wr.cell? ⟨g_q, 23, none⟩ = some (.int .i64 0) := by rw [row_cell H_q.out]; rw [← HCq.out, ← HFinq.out.1]; rfl
                  have z_q := lt_of_heap H_q.out
                  have q_24 : wr.cell? ⟨g_q, 24, none⟩ = some (.int .i64 0) := by rw [row_cell H_q.out]; rw [← HXq.out, ← HFinq.out.2.1]; rfl
                  have B2 := B.out
                  clear B HVr2 Hxr
                  go_wp2_with fail
                  go_ret
                  exact ⟨rfl, B2⟩
end Go.Proofs.YtnimaajnlkbdaaaGreat
