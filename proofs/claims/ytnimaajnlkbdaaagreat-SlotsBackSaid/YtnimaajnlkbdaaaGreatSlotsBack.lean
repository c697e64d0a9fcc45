/- Layer 16: the walk of SlotsBack. (Printed.) -/
import Derived.Test.YtnimaajnlkbdaaaGreatMU
import Derived.Test.YtnimaajnlkbdaaaGreatMP
import Derived.Test.YtnimaajnlkbdaaaGreatTwo
namespace Go.Proofs.YtnimaajnlkbdaaaGreat
open Go.RowKit
set_option linter.unusedVariables false
set_option linter.unusedSimpArgs false

theorem back_code {m i j b : Nat} {a : Int} (hm : m < 3) (hi : i < 9) (hj : j < 9) (hb : b < 3) {may : Bool} (h : may = true ↔ i / 3 ≤ m ∧ j / 3 ≤ m ∧ j / 3 ≤ i / 3 ∧ b < 2) :
    (may = true → verd c16 m i j 1 a (b : Int) = 0) ∧ (may = false → verd c16 m i j 1 a (b : Int) = (if ¬ i / 3 ≤ m then 20 else if b = 2 then 21 else if ¬ j / 3 ≤ m then 20 else 22)) := by
  rw [verd_store hm hi hj hb]
  constructor
  · intro e
    obtain ⟨h1, h2, h3, h4⟩ := h.1 e
    rw [if_neg (show ¬ ¬ i / 3 ≤ m from fun q => q h1), if_neg (show ¬ b = 2 by omega), if_neg (show ¬ ¬ j / 3 ≤ m from fun q => q h2), if_pos h3]
  · intro e
    by_cases h1 : i / 3 ≤ m
    · rw [if_neg (show ¬ ¬ i / 3 ≤ m from fun q => q h1), if_neg (show ¬ ¬ i / 3 ≤ m from fun q => q h1)]
      by_cases h2 : b = 2
      · rw [if_pos h2, if_pos h2]
      rw [if_neg h2, if_neg h2]
      by_cases h3 : j / 3 ≤ m
      · rw [if_neg (show ¬ ¬ j / 3 ≤ m from fun q => q h3), if_neg (show ¬ ¬ j / 3 ≤ m from fun q => q h3), if_neg (fun h4 => by have := h.2 ⟨h1, h3, h4, by omega⟩; rw [e] at this; cases this)]
      · rw [if_pos h3, if_pos h3]
    · rw [if_pos h1, if_pos h1]
theorem endW_word {ws : List Int} {j v : Nat} {c : Cal} {code : Int} {n : Nat} {e f : Int} (he : (endW ws j v c code)[n]? = some e) (hf : ws[n]? = some f) : e = f ∨ (code = 0 ∧ (c.op = 9 ∨ c.op = 11) ∧ n = wordK j c ∧ e = hC v) := by
  unfold endW at he
  by_cases h : code = 0 ∧ (c.op = 9 ∨ c.op = 11)
  · rw [if_pos h, List.getElem?_set] at he
    by_cases h2 : wordK j c = n
    · rw [if_pos h2] at he
      have hl : n < ws.length := (List.getElem?_eq_some_iff.1 hf).1
      rw [if_pos (by omega)] at he
      injection he with he
      exact .inr ⟨h.1, h.2, h2.symm, he.symm⟩
    · rw [if_neg h2, hf] at he
      injection he with he
      exact .inl he.symm
  · rw [if_neg h, hf] at he
    injection he with he
    exact .inl he.symm
set_option maxRecDepth 100000 in
set_option maxHeartbeats 8000000 in
theorem slotsBack_walk (h0 v0 s0 who : Int) (w : World) (z0 : (Lit.int .u8 h0).wf = true) (z1 : (Lit.int .u8 v0).wf = true) (z2 : (Lit.int .u8 s0).wf = true) (z3 : (Lit.int .u8 who).wf = true) :
    Calls Tryz.prog 4 #[.agg #[.int .u8 h0, .int .u8 v0, .int .u8 s0, .int .u8 who]] w fun r w' => r = .returned (.bool true) ∧ Below w.heap.size w w' := by
  have hh0 := wf_u8 z0
  have hv0 := wf_u8 z1
  have hs0 := wf_u8 z2
  have hw0 := wf_u8 z3
  clear z0 z1 z2 z3
  obtain ⟨iN, Hi⟩ : ∃ s : Nat, Hid (h0 % 9 = (s : Int) ∧ s < 9) := ⟨(h0 % 9).toNat, Lib.hid (by omega)⟩
  obtain ⟨jN, Hj⟩ : ∃ s : Nat, Hid (v0 % 9 = (s : Int) ∧ s < 9) := ⟨(v0 % 9).toNat, Lib.hid (by omega)⟩
  obtain ⟨bN, HbN⟩ : ∃ s : Nat, Hid (s0 % 3 = (s : Int) ∧ s < 3) := ⟨(s0 % 3).toNat, Lib.hid (by omega)⟩
  obtain ⟨m, Hm⟩ : ∃ s : Nat, Hid (who % 3 = (s : Int) ∧ s < 3) := ⟨(who % 3).toNat, Lib.hid (by omega)⟩
  have Hb : Hid (0 ≤ who ∧ who ≤ 255) := Lib.hid hw0
  have cs0 : IntKind.i64.wrap s0 = s0 := IntWalk.i64_in _ (by omega)
  have eh0 : h0.tmod 9 = (iN : Int) := by rw [Int.tmod_eq_emod_of_nonneg hh0.1]; exact Hi.out.1
  have ev0 : v0.tmod 9 = (jN : Int) := by rw [Int.tmod_eq_emod_of_nonneg hv0.1]; exact Hj.out.1
  have es0 : s0.tmod 3 = (bN : Int) := by rw [Int.tmod_eq_emod_of_nonneg hs0.1]; exact HbN.out.1
  have ew0 : who.tmod 3 = (m : Int) := by rw [Int.tmod_eq_emod_of_nonneg hw0.1]; exact Hm.out.1
  obtain ⟨di, Hdi⟩ : ∃ x : Nat, Hid (iN / 3 = x) := ⟨_, Lib.hid rfl⟩
  obtain ⟨dj, Hdj⟩ : ∃ x : Nat, Hid (jN / 3 = x) := ⟨_, Lib.hid rfl⟩
  have edi : ((iN : Int)).tdiv 3 = (di : Int) := by rw [Int.tdiv_eq_ediv_of_nonneg (by omega), ← Hdi.out]; omega
  have edj : ((jN : Int)).tdiv 3 = (dj : Int) := by rw [Int.tdiv_eq_ediv_of_nonneg (by omega), ← Hdj.out]; omega
  have dib : di ≤ 2 := by have := Hdi.out; have := Hi.out; omega
  have djb : dj ≤ 2 := by have := Hdj.out; have := Hj.out; omega
  have diw : IntKind.u8.wrap (di : Int) = (di : Int) := by rw [IntKind.wrap_u8]; omega
  have djw : IntKind.u8.wrap (dj : Int) = (dj : Int) := by rw [IntKind.wrap_u8]; omega
  obtain ⟨may, Hmay⟩ : ∃ x : Bool, Hid (x = true ↔ iN / 3 ≤ m ∧ jN / 3 ≤ m ∧ jN / 3 ≤ iN / 3 ∧ bN < 2) := ⟨decide (iN / 3 ≤ m ∧ jN / 3 ≤ m ∧ jN / 3 ≤ iN / 3 ∧ bN < 2), Lib.hid (by simp)⟩
  have HD : Hid (di ≤ 2 ∧ dj ≤ 2) := Lib.hid ⟨dib, djb⟩
  clear hh0 hv0 hs0 hw0
  go_enter Tryz.func4, Tryz.ntmps4
  have B := Lib.hid (Below.refl w.heap.size w)
  go_upto_region 1 with fail
  refine one_row w _ _ ?_
  intro w0 hr hb
  have hlB := B.out.size
  have hsz := (hb).size
  replace B := Lib.hid (below_only B.out hb)
  clear hb hsz
  have H_c := Lib.hid (show w0.heap[w.heap.size]? = some (.cells #[.int .u8 h0, .int .u8 v0, .int .u8 s0, .int .u8 who] 64 (0, 0)) from hr)
  clear hr
  obtain ⟨g_c, hg_c⟩ : ∃ x, x = w.heap.size := ⟨_, rfl⟩
  rw [← hg_c] at H_c ⊢
  have L_c : Hid (w.heap.size ≤ g_c) := Lib.hid (by omega)
  clear hg_c hlB
  go_wp2_with fail
  refine (shown16_any _).mono ?_
  rintro r w1 ⟨rfl, hb⟩
  have hsz := (hb).size
  replace H_c := Lib.hid (row_below H_c.out hb)
  replace B := Lib.hid (below_only B.out hb)
  clear hb hsz
  obtain ⟨c_0, c_1, c_2, c_3, c_f0, c_f1, c_f2, c_f3⟩ := box4 H_c.out
  have z_c := lt_of_heap H_c.out
  go_wp2_with fail
  clear c_0 c_1 c_2 c_3 c_f0 c_f1 c_f2 c_f3 z_c
  refine (plan16_any _).mono ?_
  rintro r w1a ⟨rfl, hb⟩
  have hsz := (hb).size
  replace H_c := Lib.hid (row_below H_c.out hb)
  replace B := Lib.hid (below_only B.out hb)
  clear hb hsz
  go_upto_region 7 with fail
  refine one_row w1a _ _ ?_
  intro w2 hr hb
  have hlB := B.out.size
  have hl_c := lt_of_heap H_c.out
  have hsz := (hb).size
  replace H_c := Lib.hid (row_below H_c.out hb)
  replace B := Lib.hid (below_only B.out hb)
  clear hb hsz
  have H_p := Lib.hid (show w2.heap[w1a.heap.size]? = some (.cells #[.int .i64 4, .int .i64 2, .int .i64 128, .int .i64 512] 28 (0, 0)) from hr)
  clear hr
  obtain ⟨g_p, hg_p⟩ : ∃ x, x = w1a.heap.size := ⟨_, rfl⟩
  rw [← hg_p] at H_p ⊢
  have M_c_p : Hid (g_c ≠ g_p) := Lib.hid (by omega)
  have M_p_c : Hid (g_p ≠ g_c) := Lib.hid (by omega)
  clear hl_c
  have L_p : Hid (w.heap.size ≤ g_p) := Lib.hid (by omega)
  clear hg_p hlB
  go_wp2_with fail
  refine (laid_any _).mono ?_
  rintro r w3 ⟨p, b, X, q, d, rfl, hT, hb⟩
  have HT0 := Lib.hid hT
  have HBB := Lib.hid B.out.size
  clear hT
  obtain ⟨wl, hwl⟩ : ∃ x, x = w2.heap.size := ⟨_, rfl⟩
  have hl_c := lt_of_heap H_c.out
  have hl_p := lt_of_heap H_p.out
  rw [← hwl] at HT0 HBB hl_c hl_p
  have hsz := (hb).size
  replace H_c := Lib.hid (row_below H_c.out hb)
  replace H_p := Lib.hid (row_below H_p.out hb)
  replace B := Lib.hid (below_only B.out hb)
  clear hb hsz
  have N_c : Hid (g_c ∉ [p, b, X, q, d]) := Lib.hid (HT0.out.elder hl_c)
  clear hl_c
  have N_p : Hid (g_p ∉ [p, b, X, q, d]) := Lib.hid (HT0.out.elder hl_p)
  clear hl_p
  have HT : Hid (TwoW w.heap.size w3 p b X q d 4 2 128 512 (oW 9) (oW 9)) := Lib.hid { HT0.out with low := by have := HT0.out.low; have := HBB.out; omega }
  clear HT0 hwl HBB
  obtain ⟨WS, HWS⟩ : ∃ x, Hid (oW 9 = x) := ⟨_, Lib.hid rfl⟩
  have HLw : Hid (Lw c16 WS) := Lib.hid (by rw [← HWS.out]; exact laid_lw)
  rw [HWS.out] at HT
  go_upto_region 8 with (first | (refine allocTo16 rfl 32 rfl _ (allocH12 _) ?_; (try simp only [Act.put, List.setIfInBounds_toArray, List.set_cons_succ, List.set_cons_zero])) | (refine wpList_store_row rfl 32 (.tmp 11) (.tmp 40) rfl w3.heap.size (hAt 12) rfl rfl 32 (hAt 0) (row_new _ _ _) infoH12 rfl (hAt_one 12) ?_; (try simp only [Act.put, List.setIfInBounds_toArray, List.set_cons_succ, List.set_cons_zero])))
  refine alloc_set' w3 _ _ _ ?_
  intro w4 hr hb
  have hlB := B.out.size
  have hfr := HT.out.fresh (Nat.le_refl w3.heap.size)
  have hl_c := lt_of_heap H_c.out
  have hl_p := lt_of_heap H_p.out
  have hsz := (hb).size
  replace H_c := Lib.hid (row_below H_c.out hb)
  replace H_p := Lib.hid (row_below H_p.out hb)
  replace HT := Lib.hid (HT.out.below hb)
  replace B := Lib.hid (below_only B.out hb)
  clear hb hsz
  have H_h := Lib.hid (show w4.heap[w3.heap.size]? = some (.cells (hAt 12) 32 (0, 0)) from hr)
  clear hr
  obtain ⟨g_h, hg_h⟩ : ∃ x, x = w3.heap.size := ⟨_, rfl⟩
  rw [← hg_h] at H_h ⊢
  have N_h : Hid (g_h ∉ [p, b, X, q, d]) := Lib.hid (by rw [hg_h]; exact hfr)
  clear hfr
  have M_c_h : Hid (g_c ≠ g_h) := Lib.hid (by omega)
  have M_h_c : Hid (g_h ≠ g_c) := Lib.hid (by omega)
  clear hl_c
  have M_p_h : Hid (g_p ≠ g_h) := Lib.hid (by omega)
  have M_h_p : Hid (g_h ≠ g_p) := Lib.hid (by omega)
  clear hl_p
  have L_h : Hid (w.heap.size ≤ g_h) := Lib.hid (by omega)
  clear hg_h hlB
  have HMJr : Hid (m < 3 ∧ iN < 12 ∧ jN < 12 ∧ (1 : Nat) < 4) := Lib.hid ⟨Hm.out.2, by have := Hi.out; omega, by have := Hj.out; omega, by decide⟩
  have HMJq : Hid (m < 3 ∧ iN < 12 ∧ (0 : Nat) < 12 ∧ (0 : Nat) < 4) := Lib.hid ⟨Hm.out.2, by have := Hi.out; omega, by decide, by decide⟩
  obtain ⟨p_0, p_1, p_2, p_3, p_f0, p_f1, p_f2, p_f3⟩ := box4 H_p.out
  have z_p := lt_of_heap H_p.out
  go_wp2_with (first | (refine wpList_load_row rfl 32 (.tmp 11) rfl g_h rfl 32 (hAt 12) (0, 0) _ H_h.out undH12 rfl infoH12 ?_; (try simp only [Act.put, List.setIfInBounds_toArray, List.set_cons_succ, List.set_cons_zero])))
  clear p_0 p_1 p_2 p_3 p_f0 p_f1 p_f2 p_f3 z_p
  refine (call16_any 1 who (iN : Int) (jN : Int) (bN : Int) 0 1 m iN jN _ (by decide) Hb.out (by have := Hi.out; omega) (by have := Hj.out; omega) (by decide) (by have := HbN.out; omega) rfl Hm.out.1 (by have := Hi.out; omega) (by have := Hj.out; omega)).mono ?_
  rintro r w5a ⟨kcr, cAr, hkc, rfl, hE, hEn, hb⟩
  have HKCr := Lib.hid hkc
  clear hkc
  have HLenr : Hid ((chE16 m).length = m) := Lib.hid (chE16_len (by have := HMJr.out; omega))
  have hEl : ∀ z, 0 < (chE16 m).length → cAr = some z → w4.heap.size ≤ z.block := fun z h0 hz => hEn z (by rw [HLenr.out] at h0; exact h0) hz
  clear hEn
  have F_cr : Hid (∀ z, 0 < (chE16 m).length → cAr = some z → z.block ∉ [p, b, X, q, d]) := Lib.hid (fun z h0 hz => HT.out.fresh (hEl z h0 hz))
  have F_cr_c : Hid (∀ z, 0 < (chE16 m).length → cAr = some z → z.block ≠ g_c) := Lib.hid (fun z h0 hz => by have := hEl z h0 hz; have := lt_of_heap H_c.out; omega)
  have F_cr_p : Hid (∀ z, 0 < (chE16 m).length → cAr = some z → z.block ≠ g_p) := Lib.hid (fun z h0 hz => by have := hEl z h0 hz; have := lt_of_heap H_p.out; omega)
  have F_cr_h : Hid (∀ z, 0 < (chE16 m).length → cAr = some z → z.block ≠ g_h) := Lib.hid (fun z h0 hz => by have := hEl z h0 hz; have := lt_of_heap H_h.out; omega)
  have hE0 := Lib.hid hE
  clear hE hEl
  have hsz := (hb).size
  replace H_c := Lib.hid (row_below H_c.out hb)
  replace H_p := Lib.hid (row_below H_p.out hb)
  replace H_h := Lib.hid (row_below H_h.out hb)
  replace HT := Lib.hid (HT.out.below hb)
  replace B := Lib.hid (below_only B.out hb)
  clear hb hsz
  have E_cr := hE0
  clear hE0
  go_upto_region 14 with (first | refine wpList_store_row rfl 43 (.tmp 15) (.tmp 61) rfl w5a.heap.size (beg16k m iN jN 1 0 (bN : Int) ⟨cAr, m, kcr⟩).arr rfl rfl 43 ZRun (row_new _ _ _) infoRun rfl (Rn.one _) ?_; (try simp only [Act.put, List.setIfInBounds_toArray, List.set_cons_succ, List.set_cons_zero]))
  refine alloc_set' w5a _ _ _ ?_
  intro w5 hr hb
  have hlB := B.out.size
  have hfr := HT.out.fresh (Nat.le_refl w5a.heap.size)
  have hl_c := lt_of_heap H_c.out
  have hl_p := lt_of_heap H_p.out
  have hl_h := lt_of_heap H_h.out
  have hf_cr := ents_far E_cr.out (Nat.le_refl w5a.heap.size)
  have hsz := (hb).size
  replace H_c := Lib.hid (row_below H_c.out hb)
  replace H_p := Lib.hid (row_below H_p.out hb)
  replace H_h := Lib.hid (row_below H_h.out hb)
  replace E_cr := Lib.hid (Ents.below E_cr.out hb)
  replace HT := Lib.hid (HT.out.below hb)
  replace B := Lib.hid (below_only B.out hb)
  clear hb hsz
  have H_r := Lib.hid (show w5.heap[w5a.heap.size]? = some (.cells (beg16k m iN jN 1 0 (bN : Int) ⟨cAr, m, kcr⟩).arr 43 (0, 0)) from hr)
  clear hr
  obtain ⟨g_r, hg_r⟩ : ∃ x, x = w5a.heap.size := ⟨_, rfl⟩
  rw [← hg_r] at H_r ⊢
  have N_r : Hid (g_r ∉ [p, b, X, q, d]) := Lib.hid (by rw [hg_r]; exact hfr)
  clear hfr
  have M_c_r : Hid (g_c ≠ g_r) := Lib.hid (by omega)
  have M_r_c : Hid (g_r ≠ g_c) := Lib.hid (by omega)
  clear hl_c
  have M_p_r : Hid (g_p ≠ g_r) := Lib.hid (by omega)
  have M_r_p : Hid (g_r ≠ g_p) := Lib.hid (by omega)
  clear hl_p
  have M_h_r : Hid (g_h ≠ g_r) := Lib.hid (by omega)
  have M_r_h : Hid (g_r ≠ g_h) := Lib.hid (by omega)
  clear hl_h
  have F_cr_r : Hid (∀ z, 0 < ((chE16 m) : List Ent).length → cAr = some z → z.block ≠ g_r) := Lib.hid (by rw [hg_r]; exact hf_cr)
  clear hf_cr
  have L_r : Hid (w.heap.size ≤ g_r) := Lib.hid (by omega)
  clear hg_r hlB
  obtain ⟨nr, hN1, hN2, hN3, hN4, hRun⟩ := beg16_run (C := c16) (ws := WS) (m := m) (j := iN) (v := jN) (k := 1) (a := 0) (b := (bN : Int)) (ch := ⟨cAr, m, kcr⟩) HLw.out (by have := HMJr.out; omega) (by have := HMJr.out; omega) (by have := HMJr.out; omega) (by have := HMJr.out; omega) (by have := Hi.out; omega) (by have := Hj.out; omega)
  have HN_r := Lib.hid (And.intro hN1 (And.intro hN2 (And.intro hN3 hN4)))
  obtain ⟨r0r, Hr0r⟩ : ∃ x : Rn, Hid ((beg16k m iN jN 1 0 (bN : Int) ⟨cAr, m, kcr⟩) = x) := ⟨_, Lib.hid rfl⟩
  have HChr : Hid (r0r.chain = ⟨cAr, m, kcr⟩) := Lib.hid (by rw [← Hr0r.out]; rfl)
  rw [Hr0r.out] at H_r hRun
  have HRunr := Lib.hid hRun
  clear hN1 hN2 hN3 hN4 hRun
  obtain ⟨cr, Hcr⟩ : ∃ x, Hid (verd c16 m iN jN 1 0 (bN : Int) = x) := ⟨_, Lib.hid rfl⟩
  rw [Hcr.out] at HN_r HRunr
  obtain ⟨xr, Hxr⟩ : ∃ x, Hid (endX WS iN (cal16k 1 0 (bN : Int)) cr = x) := ⟨_, Lib.hid rfl⟩
  obtain ⟨wfr, Hwfr⟩ : ∃ x, Hid (endW WS iN jN (cal16k 1 0 (bN : Int)) cr = x) := ⟨_, Lib.hid rfl⟩
  rw [Hxr.out, Hwfr.out] at HRunr
  have HBNr : Hid (nr ≤ 5) := Lib.hid HN_r.out.1
  have HRun0r := HRunr
  go_wp2_with fail
  go_loopw [16] (fun tt wr => ∃ (i : Nat) (rr : Rn) (wn : List Int), tt = .int .i64 i ∧ i ≤ 6 ∧ Run16 c16 (chE16 m) iN jN WS cr xr wfr nr i rr wn ∧ rr.chain = ⟨cAr, m, kcr⟩ ∧ wr.heap[g_c]? = some (.cells #[.int .u8 h0, .int .u8 v0, .int .u8 s0, .int .u8 who] 64 (0, 0)) ∧ wr.heap[g_p]? = some (.cells #[.int .i64 4, .int .i64 2, .int .i64 128, .int .i64 512] 28 (0, 0)) ∧ wr.heap[g_h]? = some (.cells (hAt 12) 32 (0, 0)) ∧ wr.heap[g_r]? = some (.cells rr.arr 43 (0, 0)) ∧ Ents wr cAr (chE16 m) ∧ TwoW w.heap.size wr p b X q d 4 2 128 512 wn WS ∧ Below w.heap.size w wr) (fun t _ => (6 - intOf t).toNat)
  case atStart => exact ⟨0, r0r, _, rfl, by omega, HRunr.out, HChr.out, H_c.out, H_p.out, H_h.out, H_r.out, E_cr.out, HT.out, B.out⟩
  case round =>
    clear H_c H_p H_h H_r E_cr HT B HRunr HChr
    obtain ⟨i, rr, wn, rfl, hi6, hRun, hCh, hrel⟩ := hrel
    have HRun := Lib.hid hRun
    have HChr := Lib.hid hCh
    clear hRun hCh
    obtain ⟨hq_H_c, hq_H_p, hq_H_h, hq_H_r, hq_E_cr, hq_HT, hq_B⟩ := hrel
    replace H_c := Lib.hid hq_H_c
    replace H_p := Lib.hid hq_H_p
    replace H_h := Lib.hid hq_H_h
    replace H_r := Lib.hid hq_H_r
    replace E_cr := Lib.hid hq_E_cr
    replace HT := Lib.hid hq_HT
    replace B := Lib.hid hq_B
    clear hq_H_c hq_H_p hq_H_h hq_H_r hq_E_cr hq_HT hq_B
    go_upto_region 15 with fail
    try simp only [Act.put]
    go_cut [73] from 62 to 73 (fun vv wx => vv = .bool (decide (i < nr)) ∧ wr = wx)
    case first =>
      by_cases hiN : i < nr
      · skip
        have hq := run16_on HRun.out hiN
        have hpcq := hq.1.pc
        have HPq := Lib.hid hq.1.done
        clear hq
        have e0 : decide (rr.pc = 0) = false := decide_eq_false (by omega)
        have e1 : (rr.pc == 0) = false := by simp; omega
        have e2 : (rr.pc != 0) = true := by simp; omega
        have HDq : Hid (decide (i < nr) = true) := Lib.hid (decide_eq_true hiN)
        have hlimI : (i : Int) < 6 := by have := HN_r.out.1; have := HBNr.out; omega
        have hlimB : decide ((i : Int) < 6) = true := decide_eq_true hlimI
        have r_21 : wr.cell? ⟨g_r, 21, none⟩ = some (.bool false) := by rw [row_cell H_r.out]; rw [← HPq.out]; rfl
        have r_7 : wr.cell? ⟨g_r, 7, none⟩ = some (.int .i64 rr.pc) := by rw [row_cell H_r.out]; rfl
        have z_r := lt_of_heap H_r.out
        clear hpcq
        go_wp2_with fail
        go_meet
        exact ⟨by rw [HDq.out], rfl⟩
      · skip
        obtain ⟨hiE, hq1, hq2, hq3, hq⟩ := run16_end HRun.out hiN
        clear hq1 hq2 hq3
        have HDq : Hid (decide (i < nr) = false) := Lib.hid (decide_eq_false hiN)
        have hlimI : (i : Int) < 6 := by have := HN_r.out.1; have := HBNr.out; omega
        have hlimB : decide ((i : Int) < 6) = true := decide_eq_true hlimI
        clear hiE
        rcases hq with ⟨hd, _, _⟩ | ⟨hd, hp0, _⟩
        · skip
          have HPq := Lib.hid hd
          clear hd
          have r_21 : wr.cell? ⟨g_r, 21, none⟩ = some (.bool true) := by rw [row_cell H_r.out]; rw [← HPq.out]; rfl
          have z_r := lt_of_heap H_r.out
          go_wp2_with fail
          go_meet
          exact ⟨by rw [HDq.out], rfl⟩
        · skip
          have HPq := Lib.hid (And.intro hd hp0)
          clear hd hp0
          have r_21 : wr.cell? ⟨g_r, 21, none⟩ = some (.bool false) := by rw [row_cell H_r.out]; rw [← HPq.out.1]; rfl
          have r_7 : wr.cell? ⟨g_r, 7, none⟩ = some (.int .i64 0) := by rw [row_cell H_r.out]; rw [← HPq.out.2]; rfl
          have z_r := lt_of_heap H_r.out
          go_wp2_with fail
          go_meet
          exact ⟨by rw [HDq.out], rfl⟩
    case rest =>
      obtain ⟨rfl, hwx⟩ := hcut
      subst hwx
      by_cases hiN : i < nr
      · skip
        rw [decide_eq_true hiN]
        obtain ⟨hI, hwn, hnext⟩ := run16_on HRun.out hiN
        rw [hwn] at HT
        clear hwn
        have HI := Lib.hid hI
        have Hnext := Lib.hid hnext
        have HiN : Hid (i + 1 ≤ 6) := Lib.hid (by have := HBNr.out; have := HN_r.out.1; omega)
        clear hI hnext hiN HRun
        obtain ⟨p_0, p_1, p_2, p_3, p_f0, p_f1, p_f2, p_f3⟩ := box4 H_p.out
        have z_p := lt_of_heap H_p.out
        go_wp2_with (first | (refine wpList_load_row rfl 43 (.tmp 15) rfl g_r rfl 43 rr.arr (0, 0) _ H_r.out undRun rfl infoRun ?_; (try simp only [Act.put, List.setIfInBounds_toArray, List.set_cons_succ, List.set_cons_zero])))
        clear p_0 p_1 p_2 p_3 p_f0 p_f1 p_f2 p_f3 z_p
        refine (slStep_any c16 (chE16 m) iN jN p b WS rr _ HT.out.a HLw.out HI.out (by rw [HLenr.out]; have := HMJr.out; omega) (by rw [HChr.out, HLenr.out]) (by rw [HChr.out, HLenr.out]; exact HKCr.out) (by rw [HChr.out]; exact E_cr.out)).mono ?_
        rintro r y5 ⟨rfl, hA, hK⟩
        obtain ⟨R2, HR2⟩ : ∃ R, Hid (slR c16 (chE16 m) WS iN jN rr = R) := ⟨_, Lib.hid rfl⟩
        obtain ⟨W2, HW2⟩ : ∃ R, Hid (slW WS rr = R) := ⟨_, Lib.hid rfl⟩
        rw [HR2.out]
        rw [HR2.out, HW2.out] at Hnext
        rw [HW2.out] at hA
        have HCh2 : Hid (R2.chain = ⟨cAr, m, kcr⟩) := Lib.hid (by rw [← HR2.out, (sl_stays HI.out).1]; exact HChr.out)
        clear HR2 HW2 HI HChr
        have hszK := hK.size
        replace H_c := Lib.hid (hK.row H_c.out (by simpa using (HT.out.nb N_c.out).1))
        replace H_p := Lib.hid (hK.row H_p.out (by simpa using (HT.out.nb N_p.out).1))
        replace H_h := Lib.hid (hK.row H_h.out (by simpa using (HT.out.nb N_h.out).1))
        replace H_r := Lib.hid (hK.row H_r.out (by simpa using (HT.out.nb N_r.out).1))
        replace E_cr := Lib.hid (ents_kept E_cr.out hK (fun z h0 hz => by simpa using (HT.out.nb (F_cr.out z h0 hz)).1))
        replace B := Lib.hid (HT.out.under B.out hK (by simp))
        replace HT := Lib.hid (HT.out.onA hA hK)
        clear hA hK hszK
        go_upto_region 17 with (first | (refine wpList_store_row rfl 43 (.tmp 15) (.tmp 79) rfl g_r R2.arr rfl rfl 43 rr.arr H_r.out infoRun rfl (Rn.one _) ?_; (try simp only [Act.put, List.setIfInBounds_toArray, List.set_cons_succ, List.set_cons_zero])))
        refine set_row' y5 g_r _ _ _ H_r.out ?_
        intro y6 hr hK
        have hszK := hK.size
        replace H_c := Lib.hid (hK.row H_c.out (by simpa using M_c_r.out))
        replace H_p := Lib.hid (hK.row H_p.out (by simpa using M_p_r.out))
        replace H_h := Lib.hid (hK.row H_h.out (by simpa using M_h_r.out))
        replace E_cr := Lib.hid (ents_kept E_cr.out hK (fun z h0 hz => by simpa using F_cr_r.out z h0 hz))
        replace HT := Lib.hid (HT.out.kept hK (fun j hj => by simp only [List.mem_singleton] at hj; subst hj; exact N_r.out))
        replace B := Lib.hid (Keep.under B.out hK (by have := B.out.size; omega) (by simp; exact L_r.out))
        replace H_r := Lib.hid hr
        clear hr hK hszK
        go_wp2_with fail
        go_roundw
        case rel => exact ⟨i + 1, R2, W2, by go_num, HiN.out, Hnext.out, HCh2.out, H_c.out, H_p.out, H_h.out, H_r.out, E_cr.out, HT.out, B.out⟩
        case measure => have := HiN.out; simp [intOf]; omega
      rw [decide_eq_false hiN]
      obtain ⟨hiE, hcd, hax, hwf, hdn⟩ := run16_end HRun.out hiN
      rw [hwf] at HT
      obtain ⟨rer, Hre⟩ : ∃ x, Hid (rr = x) := ⟨_, Lib.hid rfl⟩
      have HFinr : Hid (rer.code = cr ∧ rer.an = xr ∧ (rer.done = true ∧ rer.point = true ∧ 0 < nr ∨ rer.done = false ∧ rer.pc = 0 ∧ nr = 0) ∧ i = nr) := Lib.hid (by rw [← Hre.out]; exact ⟨hcd, hax, hdn, hiE⟩)
      rw [Hre.out] at H_r
      clear hiE hcd hax hwf hdn Hre HRun HChr hiN hi6
      have HLr := Lib.hid (run16_lw HLw.out HRun0r.out)
      have HiE : Hid (i ≤ 5) := Lib.hid (by have := HFinr.out.2.2.2; have := HBNr.out; omega)
      go_upto_region 19 with fail
      try simp only [Act.put]
      go_cut [18] from 85 to 94 (fun vv wx => vv = .bool (decide (di ≤ m ∧ dj ≤ m)) ∧ wr = wx)
      case first =>
        by_cases h1 : di ≤ m
        · have d1 : decide ((di : Int) ≤ (m : Int)) = true := decide_eq_true (by omega)
          have d1b : decide (di ≤ m) = true := decide_eq_true (by omega)
          by_cases h2 : dj ≤ m
          · have d2 : decide ((dj : Int) ≤ (m : Int)) = true := decide_eq_true (by omega)
            have d2b : decide (dj ≤ m) = true := decide_eq_true (by omega)
            have HQ : Hid (decide (di ≤ m ∧ dj ≤ m) = true) := Lib.hid (decide_eq_true ⟨h1, h2⟩)
            clear h1 h2
            go_wp2_with fail
            go_meet
            exact ⟨by rw [HQ.out], rfl⟩
          · have d2 : decide ((dj : Int) ≤ (m : Int)) = false := decide_eq_false (by omega)
            have d2b : decide (dj ≤ m) = false := decide_eq_false (by omega)
            have HQ : Hid (decide (di ≤ m ∧ dj ≤ m) = false) := Lib.hid (decide_eq_false (fun h => h2 h.2))
            clear h1 h2
            go_wp2_with fail
            go_meet
            exact ⟨by rw [HQ.out], rfl⟩
        · have d1 : decide ((di : Int) ≤ (m : Int)) = false := decide_eq_false (by omega)
          have d1b : decide (di ≤ m) = false := decide_eq_false (by omega)
          have HQ : Hid (decide (di ≤ m ∧ dj ≤ m) = false) := Lib.hid (decide_eq_false (fun h => h1 h.1))
          clear h1
          go_wp2_with fail
          go_meet
          exact ⟨by rw [HQ.out], rfl⟩
      case rest =>
        obtain ⟨rfl, hwx⟩ := hcut
        subst hwx
        obtain ⟨rch, Hrch⟩ : ∃ x, Hid (decide (di ≤ m ∧ dj ≤ m) = x) := ⟨_, Lib.hid rfl⟩
        rw [Hrch.out]
        go_upto_region 20 with fail
        try simp only [Act.put]
        go_cut [19] from 95 to 106 (fun vv wx => vv = .bool may ∧ wr = wx)
        case first =>
          have HM2 : Hid (may = true ↔ rch = true ∧ dj ≤ di ∧ bN < 2) := Lib.hid (by rw [Hmay.out, Hdi.out, Hdj.out, ← Hrch.out, decide_eq_true_eq]; constructor <;> (intro h; omega))
          cases rch with
          | false =>
            have HQ : Hid (may = false) := Lib.hid (by cases hc : may with | false => rfl | true => have := (HM2.out.1 hc).1; cases this)
            go_wp2_with fail
            go_meet
            exact ⟨by rw [HQ.out], rfl⟩
          | true =>
            by_cases h1 : dj ≤ di
            · have d1 : decide ((dj : Int) ≤ (di : Int)) = true := decide_eq_true (by omega)
              have d1b : decide (dj ≤ di) = true := decide_eq_true (by omega)
              by_cases h2 : bN < 2
              · have e1 : decide ((bN : Int) < 2) = true := decide_eq_true (by omega)
                have e2 : decide (bN < 2) = true := decide_eq_true h2
                have HQ : Hid (may = true) := Lib.hid (HM2.out.2 ⟨rfl, h1, h2⟩)
                clear h1 h2
                go_wp2_with fail
                go_meet
                exact ⟨by rw [HQ.out], rfl⟩
              · have e1 : decide ((bN : Int) < 2) = false := decide_eq_false (by omega)
                have e2 : decide (bN < 2) = false := decide_eq_false h2
                have HQ : Hid (may = false) := Lib.hid (by cases hc : may with | false => rfl | true => exact absurd (HM2.out.1 hc).2.2 h2)
                clear h1 h2
                go_wp2_with fail
                go_meet
                exact ⟨by rw [HQ.out], rfl⟩
            · have d1 : decide ((dj : Int) ≤ (di : Int)) = false := decide_eq_false (by omega)
              have d1b : decide (dj ≤ di) = false := decide_eq_false (by omega)
              have HQ : Hid (may = false) := Lib.hid (by cases hc : may with | false => rfl | true => exact absurd (HM2.out.1 hc).2.1 h1)
              clear h1
              go_wp2_with fail
              go_meet
              exact ⟨by rw [HQ.out], rfl⟩
        case rest =>
          obtain ⟨rfl, hwx⟩ := hcut
          subst hwx
          clear Hrch
          have HBC := Lib.hid (back_code (a := 0) Hm.out.2 Hi.out.2 Hj.out.2 HbN.out.2 Hmay.out)
          rw [Hcr.out] at HBC
          have HNw : Hid (∀ (n : Nat) (e f : Int), wfr[n]? = some e → WS[n]? = some f → e = f ∨ (may = true ∧ e = hC jN)) := Lib.hid (fun n e f he hf => by
            rw [← Hwfr.out] at he
            rcases endW_word he hf with h | ⟨h1, _, _, h4⟩
            · exact .inl h
            · refine .inr ⟨?_, h4⟩
              cases hc : may with
              | true => rfl
              | false => have := HBC.out.2 hc; rw [h1] at this; split at this <;> (try split at this) <;> (try split at this) <;> simp at this)
          have Hl1 : Hid (wfr.length = 112) := Lib.hid HLr.out.len
          have Hl2 : Hid (WS.length = 112) := Lib.hid HLw.out.len
          go_wp2_with fail
          go_loopw [20] (fun tt wz => ∃ n : Nat, n ≤ 112 ∧ tt = .int .i64 n ∧ wr = wz) (fun t _ => (112 - intOf t).toNat)
          case atStart => exact ⟨0, by omega, rfl, rfl⟩
          case round =>
            obtain ⟨n, hn, rfl, hwr⟩ := hrel
            subst hwr
            have X_5 := HT.out.x.cell
            obtain ⟨q_0, _⟩ := box1 HT.out.x.arn.box
            rw [Hl2.out] at q_0
            by_cases hn4 : n < 112
            · obtain ⟨e, he⟩ : ∃ x, wfr[n]? = some x := ⟨_, List.getElem?_eq_getElem (by rw [Hl1.out]; exact hn4)⟩
              obtain ⟨f, hf⟩ : ∃ x, WS[n]? = some x := ⟨_, List.getElem?_eq_getElem (by rw [Hl2.out]; exact hn4)⟩
              have cd := HT.out.x.arn.cell n f hf
              have HNn := Lib.hid (HNw.out n e f he hf)
              have HWn : Hid (Calls Tryz.prog 17 #[.pointer (some ⟨p, 0, none⟩), .int .i64 (8 * (n : Int))] wr fun r w' => r = .returned (.tuple #[.int .u64 e, .int .i64 0]) ∧ w' = wr) := Lib.hid (by
                have h9 := arnWord_any p b wfr n e wr HT.out.a he
                rwa [show ((n * 8 : Nat) : Int) = 8 * (n : Int) by omega] at h9)
              have hnI : (n : Int) < 112 := by omega
              have hnI0 : (0 : Int) ≤ (n : Int) := by omega
              have h8n : IntKind.i64.wrap (8 * (n : Int)) = 8 * (n : Int) := IntWalk.i64_in _ (by omega)
              clear he hf
              go_wp2_with fail
              refine HWn.out.mono ?_
              rintro r za ⟨rfl, e2⟩
              rw [e2]
              clear e2 za
              by_cases hef : e = f
              · subst hef
                go_wp2_with fail
                go_roundw
                case rel => exact ⟨n + 1, by omega, by go_num, by first | rfl | trivial⟩
                case measure => simp [intOf]; omega
              · have hq : may = true ∧ e = hC jN := by
                  rcases HNn.out with h | h
                  · exact absurd h hef
                  · exact h
                obtain ⟨hq1, hq2⟩ := hq
                subst hq1
                have HE := Lib.hid hq2
                have hne : (e != f) = true := by simp [hef]
                have hne2 : (e == f) = false := by simp [hef]
                have hne3 : decide (e = f) = false := decide_eq_false hef
                have h_v : wr.cell? ⟨g_h, jN, none⟩ = some (.int .u64 e) := by rw [HE.out]; exact h12_cell H_h.out HMJr.out.2.2.1
                have z_h := lt_of_heap H_h.out
                have vI : (jN : Int) < 12 := by have := Hj.out; omega
                have vI0 : (0 : Int) ≤ (jN : Int) := by omega
                have v12 : decide ((12 : Int) ≤ (jN : Int)) = false := decide_eq_false (by omega)
                clear hef hq2 HNn
                go_wp2_with fail
                go_roundw
                case rel => exact ⟨n + 1, by omega, by go_num, by first | rfl | trivial⟩
                case measure => simp [intOf]; omega
            · skip
              have h112 : n = 112 := by omega
              subst h112
              clear hn4 hn HNw
              have iI : decide ((5 : Int) < (i : Int)) = false := decide_eq_false (by have := HiE.out; omega)
              have iI2 : ¬ ((5 : Int) < (i : Int)) := by have := HiE.out; omega
              cases may with
              | false =>
                have hcr := HBC.out.2 rfl
                rw [Hdi.out, Hdj.out] at hcr
                clear Hmay HBC
                by_cases h1 : di ≤ m
                · skip
                  rw [if_neg (fun h => h h1)] at hcr
                  have d1 : decide ((m : Int) < (di : Int)) = false := decide_eq_false (by omega)
                  have d1b : decide (m < di) = false := decide_eq_false (by omega)
                  by_cases h2 : bN = 2
                  · skip
                    rw [if_pos h2] at hcr
                    have HCr : Hid (cr = 21) := Lib.hid hcr
                    clear hcr
                    subst h2
                    clear h1
                    have r_23 : wr.cell? ⟨g_r, 23, none⟩ = some (.int .i64 21) := by rw [row_cell H_r.out]; rw [← HCr.out, ← HFinr.out.1]; rfl
                    have z_r := lt_of_heap H_r.out
                    have B2 := B.out
                    clear B
                    go_wp2_with fail
                    go_ret
                    exact ⟨rfl, B2⟩
                  · skip
                    rw [if_neg h2] at hcr
                    have b1 : decide (bN = 2) = false := decide_eq_false h2
                    have b2 : ((bN : Int) == 2) = false := by simp; omega
                    have b3 : decide ((bN : Int) = 2) = false := decide_eq_false (by omega)
                    by_cases h3 : dj ≤ m
                    · skip
                      rw [if_neg (fun h => h h3)] at hcr
                      have d2 : decide ((m : Int) < (dj : Int)) = false := decide_eq_false (by omega)
                      have d2b : decide (m < dj) = false := decide_eq_false (by omega)
                      have HCr : Hid (cr = 22) := Lib.hid hcr
                      clear hcr
                      clear h1 h2 h3
                      have r_23 : wr.cell? ⟨g_r, 23, none⟩ = some (.int .i64 22) := by rw [row_cell H_r.out]; rw [← HCr.out, ← HFinr.out.1]; rfl
                      have z_r := lt_of_heap H_r.out
                      have B2 := B.out
                      clear B
                      go_wp2_with fail
                      go_ret
                      exact ⟨rfl, B2⟩
                    · skip
                      rw [if_pos h3] at hcr
                      have d2 : decide ((m : Int) < (dj : Int)) = true := decide_eq_true (by omega)
                      have d2b : decide (m < dj) = true := decide_eq_true (by omega)
                      have HCr : Hid (cr = 20) := Lib.hid hcr
                      clear hcr
                      clear h1 h2 h3
                      have r_23 : wr.cell? ⟨g_r, 23, none⟩ = some (.int .i64 20) := by rw [row_cell H_r.out]; rw [← HCr.out, ← HFinr.out.1]; rfl
                      have z_r := lt_of_heap H_r.out
                      have B2 := B.out
                      clear B
                      go_wp2_with fail
                      go_ret
                      exact ⟨rfl, B2⟩
                · skip
                  rw [if_pos h1] at hcr
                  have d1 : decide ((m : Int) < (di : Int)) = true := decide_eq_true (by omega)
                  have d1b : decide (m < di) = true := decide_eq_true (by omega)
                  have HCr : Hid (cr = 20) := Lib.hid hcr
                  clear hcr
                  clear h1
                  have r_23 : wr.cell? ⟨g_r, 23, none⟩ = some (.int .i64 20) := by rw [row_cell H_r.out]; rw [← HCr.out, ← HFinr.out.1]; rfl
                  have z_r := lt_of_heap H_r.out
                  have B2 := B.out
                  clear B
                  go_wp2_with fail
                  go_ret
                  exact ⟨rfl, B2⟩
              | true =>
                have HCr : Hid (cr = 0) := Lib.hid (HBC.out.1 rfl)
                have HM4 : Hid (iN / 3 ≤ m ∧ bN < 2) := Lib.hid (by have := Hmay.out.1 rfl; omega)
                clear Hmay HBC
                have r_23 : wr.cell? ⟨g_r, 23, none⟩ = some (.int .i64 0) := by rw [row_cell H_r.out]; rw [← HCr.out, ← HFinr.out.1]; rfl
                have z_r := lt_of_heap H_r.out
                obtain ⟨p_0, p_1, p_2, p_3, p_f0, p_f1, p_f2, p_f3⟩ := box4 H_p.out
                have z_p := lt_of_heap H_p.out
                go_wp2_with (first | (refine wpList_load_row rfl 32 (.tmp 11) rfl g_h rfl 32 (hAt 12) (0, 0) _ H_h.out undH12 rfl infoH12 ?_; (try simp only [Act.put, List.setIfInBounds_toArray, List.set_cons_succ, List.set_cons_zero])))
                clear X_5 q_0 r_23 z_r p_0 p_1 p_2 p_3 p_f0 p_f1 p_f2 p_f3 z_p
                refine (call16_any 0 who (iN : Int) 0 (bN : Int) 0 0 m iN 0 _ (by decide) Hb.out (by have := Hi.out; omega) (by decide) (by decide) (by have := HbN.out; omega) rfl Hm.out.1 (by have := Hi.out; omega) rfl).mono ?_
                rintro r w6a ⟨kcq, cAq, hkc, rfl, hE, hEn, hb⟩
                have HKCq := Lib.hid hkc
                clear hkc
                have HLenq : Hid ((chE16 m).length = m) := Lib.hid (chE16_len (by have := HMJq.out; omega))
                have hEl : ∀ z, 0 < (chE16 m).length → cAq = some z → wr.heap.size ≤ z.block := fun z h0 hz => hEn z (by rw [HLenq.out] at h0; exact h0) hz
                clear hEn
                have F_cq : Hid (∀ z, 0 < (chE16 m).length → cAq = some z → z.block ∉ [p, b, X, q, d]) := Lib.hid (fun z h0 hz => HT.out.fresh (hEl z h0 hz))
                have F_cq_c : Hid (∀ z, 0 < (chE16 m).length → cAq = some z → z.block ≠ g_c) := Lib.hid (fun z h0 hz => by have := hEl z h0 hz; have := lt_of_heap H_c.out; omega)
                have F_cq_p : Hid (∀ z, 0 < (chE16 m).length → cAq = some z → z.block ≠ g_p) := Lib.hid (fun z h0 hz => by have := hEl z h0 hz; have := lt_of_heap H_p.out; omega)
                have F_cq_h : Hid (∀ z, 0 < (chE16 m).length → cAq = some z → z.block ≠ g_h) := Lib.hid (fun z h0 hz => by have := hEl z h0 hz; have := lt_of_heap H_h.out; omega)
                have F_cq_r : Hid (∀ z, 0 < (chE16 m).length → cAq = some z → z.block ≠ g_r) := Lib.hid (fun z h0 hz => by have := hEl z h0 hz; have := lt_of_heap H_r.out; omega)
                have hE0 := Lib.hid hE
                clear hE hEl
                have hsz := (hb).size
                replace H_c := Lib.hid (row_below H_c.out hb)
                replace H_p := Lib.hid (row_below H_p.out hb)
                replace H_h := Lib.hid (row_below H_h.out hb)
                replace H_r := Lib.hid (row_below H_r.out hb)
                replace E_cr := Lib.hid (Ents.below E_cr.out hb)
                replace HT := Lib.hid (HT.out.below hb)
                replace B := Lib.hid (below_only B.out hb)
                clear hb hsz
                have E_cq := hE0
                clear hE0
                go_upto_region 39 with (first | refine wpList_store_row rfl 43 (.tmp 24) (.tmp 182) rfl w6a.heap.size (beg16k m iN 0 0 0 (bN : Int) ⟨cAq, m, kcq⟩).arr rfl rfl 43 ZRun (row_new _ _ _) infoRun rfl (Rn.one _) ?_; (try simp only [Act.put, List.setIfInBounds_toArray, List.set_cons_succ, List.set_cons_zero]))
                refine alloc_set' w6a _ _ _ ?_
                intro w6 hr hb
                have hlB := B.out.size
                have hfr := HT.out.fresh (Nat.le_refl w6a.heap.size)
                have hl_c := lt_of_heap H_c.out
                have hl_p := lt_of_heap H_p.out
                have hl_h := lt_of_heap H_h.out
                have hl_r := lt_of_heap H_r.out
                have hf_cr := ents_far E_cr.out (Nat.le_refl w6a.heap.size)
                have hf_cq := ents_far E_cq.out (Nat.le_refl w6a.heap.size)
                have hsz := (hb).size
                replace H_c := Lib.hid (row_below H_c.out hb)
                replace H_p := Lib.hid (row_below H_p.out hb)
                replace H_h := Lib.hid (row_below H_h.out hb)
                replace H_r := Lib.hid (row_below H_r.out hb)
                replace E_cr := Lib.hid (Ents.below E_cr.out hb)
                replace E_cq := Lib.hid (Ents.below E_cq.out hb)
                replace HT := Lib.hid (HT.out.below hb)
                replace B := Lib.hid (below_only B.out hb)
                clear hb hsz
                have H_q := Lib.hid (show w6.heap[w6a.heap.size]? = some (.cells (beg16k m iN 0 0 0 (bN : Int) ⟨cAq, m, kcq⟩).arr 43 (0, 0)) from hr)
                clear hr
                obtain ⟨g_q, hg_q⟩ : ∃ x, x = w6a.heap.size := ⟨_, rfl⟩
                rw [← hg_q] at H_q ⊢
                have N_q : Hid (g_q ∉ [p, b, X, q, d]) := Lib.hid (by rw [hg_q]; exact hfr)
                clear hfr
                have M_c_q : Hid (g_c ≠ g_q) := Lib.hid (by omega)
                have M_q_c : Hid (g_q ≠ g_c) := Lib.hid (by omega)
                clear hl_c
                have M_p_q : Hid (g_p ≠ g_q) := Lib.hid (by omega)
                have M_q_p : Hid (g_q ≠ g_p) := Lib.hid (by omega)
                clear hl_p
                have M_h_q : Hid (g_h ≠ g_q) := Lib.hid (by omega)
                have M_q_h : Hid (g_q ≠ g_h) := Lib.hid (by omega)
                clear hl_h
                have M_r_q : Hid (g_r ≠ g_q) := Lib.hid (by omega)
                have M_q_r : Hid (g_q ≠ g_r) := Lib.hid (by omega)
                clear hl_r
                have F_cr_q : Hid (∀ z, 0 < ((chE16 m) : List Ent).length → cAr = some z → z.block ≠ g_q) := Lib.hid (by rw [hg_q]; exact hf_cr)
                clear hf_cr
                have F_cq_q : Hid (∀ z, 0 < ((chE16 m) : List Ent).length → cAq = some z → z.block ≠ g_q) := Lib.hid (by rw [hg_q]; exact hf_cq)
                clear hf_cq
                have L_q : Hid (w.heap.size ≤ g_q) := Lib.hid (by omega)
                clear hg_q hlB
                obtain ⟨nq, hN1, hN2, hN3, hN4, hRun⟩ := beg16_run (C := c16) (ws := wfr) (m := m) (j := iN) (v := 0) (k := 0) (a := 0) (b := (bN : Int)) (ch := ⟨cAq, m, kcq⟩) HLr.out (by have := HMJq.out; omega) (by have := HMJq.out; omega) (by have := HMJq.out; omega) (by have := HMJq.out; omega) (by have := Hi.out; omega) (by decide)
                have HN_q := Lib.hid (And.intro hN1 (And.intro hN2 (And.intro hN3 hN4)))
                obtain ⟨r0q, Hr0q⟩ : ∃ x : Rn, Hid ((beg16k m iN 0 0 0 (bN : Int) ⟨cAq, m, kcq⟩) = x) := ⟨_, Lib.hid rfl⟩
                have HChq : Hid (r0q.chain = ⟨cAq, m, kcq⟩) := Lib.hid (by rw [← Hr0q.out]; rfl)
                rw [Hr0q.out] at H_q hRun
                have HRunq := Lib.hid hRun
                clear hN1 hN2 hN3 hN4 hRun
                obtain ⟨cq, Hcq⟩ : ∃ x, Hid (verd c16 m iN 0 0 0 (bN : Int) = x) := ⟨_, Lib.hid rfl⟩
                rw [Hcq.out] at HN_q HRunq
                obtain ⟨xq, Hxq⟩ : ∃ x, Hid (endX wfr iN (cal16k 0 0 (bN : Int)) cq = x) := ⟨_, Lib.hid rfl⟩
                obtain ⟨wfq, Hwfq⟩ : ∃ x, Hid (endW wfr iN 0 (cal16k 0 0 (bN : Int)) cq = x) := ⟨_, Lib.hid rfl⟩
                rw [Hxq.out, Hwfq.out] at HRunq
                have HCq : Hid (cq = 0) := Lib.hid (by rw [← Hcq.out]; exact verd_load Hm.out.2 Hi.out.2 HM4.out.1 HM4.out.2)
                have HN3 : Hid (nq = 3) := Lib.hid (HN_q.out.2.2.1 rfl HCq.out)
                have HXq : Hid (xq = hC jN) := Lib.hid (by
                  rw [← Hxq.out, HCq.out, ← Hwfr.out, HCr.out]
                  exact store_get (ws := WS) (j := iN) (v := jN) (a := 0) (a' := 0) (b := (bN : Int)) HLw.out Hi.out.2 (by have := HM4.out; omega))
                go_wp2_with fail
                go_loopw [25] (fun tt wr => ∃ (i : Nat) (rr : Rn) (wn : List Int), tt = .int .i64 i ∧ Run16 c16 (chE16 m) iN 0 wfr cq xq wfq nq i rr wn ∧ rr.chain = ⟨cAq, m, kcq⟩ ∧ wr.heap[g_c]? = some (.cells #[.int .u8 h0, .int .u8 v0, .int .u8 s0, .int .u8 who] 64 (0, 0)) ∧ wr.heap[g_p]? = some (.cells #[.int .i64 4, .int .i64 2, .int .i64 128, .int .i64 512] 28 (0, 0)) ∧ wr.heap[g_h]? = some (.cells (hAt 12) 32 (0, 0)) ∧ wr.heap[g_r]? = some (.cells rer.arr 43 (0, 0)) ∧ wr.heap[g_q]? = some (.cells rr.arr 43 (0, 0)) ∧ Ents wr cAr (chE16 m) ∧ Ents wr cAq (chE16 m) ∧ TwoW w.heap.size wr p b X q d 4 2 128 512 wn WS ∧ Below w.heap.size w wr) (fun t _ => (3 - intOf t).toNat)
                case atStart => exact ⟨0, r0q, _, rfl, HRunq.out, HChq.out, H_c.out, H_p.out, H_h.out, H_r.out, H_q.out, E_cr.out, E_cq.out, HT.out, B.out⟩
                case round =>
                  clear H_c H_p H_h H_r H_q E_cr E_cq HT B HRunq HChq
                  obtain ⟨i3, rr, wn, rfl, hRun, hCh, hrel⟩ := hrel
                  have HRun := Lib.hid hRun
                  have HChr := Lib.hid hCh
                  clear hRun hCh
                  obtain ⟨hq_H_c, hq_H_p, hq_H_h, hq_H_r, hq_H_q, hq_E_cr, hq_E_cq, hq_HT, hq_B⟩ := hrel
                  replace H_c := Lib.hid hq_H_c
                  replace H_p := Lib.hid hq_H_p
                  replace H_h := Lib.hid hq_H_h
                  replace H_r := Lib.hid hq_H_r
                  replace H_q := Lib.hid hq_H_q
                  replace E_cr := Lib.hid hq_E_cr
                  replace E_cq := Lib.hid hq_E_cq
                  replace HT := Lib.hid hq_HT
                  replace B := Lib.hid hq_B
                  clear hq_H_c hq_H_p hq_H_h hq_H_r hq_H_q hq_E_cr hq_E_cq hq_HT hq_B
                  rw [HN3.out] at HRun
                  by_cases hiN : i3 < 3
                  · skip
                    obtain ⟨hI, hwn, hnext⟩ := run16_on HRun.out hiN
                    rw [hwn] at HT
                    clear hwn
                    have HI := Lib.hid hI
                    have HDn := Lib.hid hI.done
                    have Hnext := Lib.hid hnext
                    have hiI : (i3 : Int) < 3 := by omega
                    have hiB : decide ((i3 : Int) < 3) = true := decide_eq_true hiI
                    clear hI hnext HRun
                    have q_21 : wr.cell? ⟨g_q, 21, none⟩ = some (.bool false) := by rw [row_cell H_q.out]; rw [← HDn.out]; rfl
                    have z_q := lt_of_heap H_q.out
                    obtain ⟨p_0, p_1, p_2, p_3, p_f0, p_f1, p_f2, p_f3⟩ := box4 H_p.out
                    have z_p := lt_of_heap H_p.out
                    go_wp2_with (first | (refine wpList_load_row rfl 43 (.tmp 24) rfl g_q rfl 43 rr.arr (0, 0) _ H_q.out undRun rfl infoRun ?_; (try simp only [Act.put, List.setIfInBounds_toArray, List.set_cons_succ, List.set_cons_zero])))
                    clear q_21 z_q p_0 p_1 p_2 p_3 p_f0 p_f1 p_f2 p_f3 z_p
                    refine (slStep_any c16 (chE16 m) iN 0 p b wfr rr _ HT.out.a HLr.out HI.out (by rw [HLenq.out]; have := HMJq.out; omega) (by rw [HChr.out, HLenq.out]) (by rw [HChr.out, HLenq.out]; exact HKCq.out) (by rw [HChr.out]; exact E_cq.out)).mono ?_
                    rintro r y5 ⟨rfl, hA, hK⟩
                    obtain ⟨R2, HR2⟩ : ∃ R, Hid (slR c16 (chE16 m) wfr iN 0 rr = R) := ⟨_, Lib.hid rfl⟩
                    obtain ⟨W2, HW2⟩ : ∃ R, Hid (slW wfr rr = R) := ⟨_, Lib.hid rfl⟩
                    rw [HR2.out]
                    rw [HR2.out, HW2.out] at Hnext
                    rw [HW2.out] at hA
                    have HCh2 : Hid (R2.chain = ⟨cAq, m, kcq⟩) := Lib.hid (by rw [← HR2.out, (sl_stays HI.out).1]; exact HChr.out)
                    clear HR2 HW2 HI HChr
                    have hszK := hK.size
                    replace H_c := Lib.hid (hK.row H_c.out (by simpa using (HT.out.nb N_c.out).1))
                    replace H_p := Lib.hid (hK.row H_p.out (by simpa using (HT.out.nb N_p.out).1))
                    replace H_h := Lib.hid (hK.row H_h.out (by simpa using (HT.out.nb N_h.out).1))
                    replace H_r := Lib.hid (hK.row H_r.out (by simpa using (HT.out.nb N_r.out).1))
                    replace H_q := Lib.hid (hK.row H_q.out (by simpa using (HT.out.nb N_q.out).1))
                    replace E_cr := Lib.hid (ents_kept E_cr.out hK (fun z h0 hz => by simpa using (HT.out.nb (F_cr.out z h0 hz)).1))
                    replace E_cq := Lib.hid (ents_kept E_cq.out hK (fun z h0 hz => by simpa using (HT.out.nb (F_cq.out z h0 hz)).1))
                    replace B := Lib.hid (HT.out.under B.out hK (by simp))
                    replace HT := Lib.hid (HT.out.onA hA hK)
                    clear hA hK hszK
                    go_upto_region 41 with (first | (refine wpList_store_row rfl 43 (.tmp 24) (.tmp 194) rfl g_q R2.arr rfl rfl 43 rr.arr H_q.out infoRun rfl (Rn.one _) ?_; (try simp only [Act.put, List.setIfInBounds_toArray, List.set_cons_succ, List.set_cons_zero])))
                    refine set_row' y5 g_q _ _ _ H_q.out ?_
                    intro y6 hr hK
                    have hszK := hK.size
                    replace H_c := Lib.hid (hK.row H_c.out (by simpa using M_c_q.out))
                    replace H_p := Lib.hid (hK.row H_p.out (by simpa using M_p_q.out))
                    replace H_h := Lib.hid (hK.row H_h.out (by simpa using M_h_q.out))
                    replace H_r := Lib.hid (hK.row H_r.out (by simpa using M_r_q.out))
                    replace E_cr := Lib.hid (ents_kept E_cr.out hK (fun z h0 hz => by simpa using F_cr_q.out z h0 hz))
                    replace E_cq := Lib.hid (ents_kept E_cq.out hK (fun z h0 hz => by simpa using F_cq_q.out z h0 hz))
                    replace HT := Lib.hid (HT.out.kept hK (fun j hj => by simp only [List.mem_singleton] at hj; subst hj; exact N_q.out))
                    replace B := Lib.hid (Keep.under B.out hK (by have := B.out.size; omega) (by simp; exact L_q.out))
                    replace H_q := Lib.hid hr
                    clear hr hK hszK
                    go_wp2_with fail
                    go_roundw
                    case rel => exact ⟨i3 + 1, R2, W2, by go_num, by rw [HN3.out]; exact Hnext.out, HCh2.out, H_c.out, H_p.out, H_h.out, H_r.out, H_q.out, E_cr.out, E_cq.out, HT.out, B.out⟩
                    case measure => simp [intOf]; omega
                  · skip
                    obtain ⟨hiE, hcd, hax, hwf, hdn⟩ := run16_end HRun.out hiN
                    have hdn2 : rr.done = true ∧ rr.point = true := by
                      rcases hdn with h | h
                      · exact ⟨h.1, h.2.1⟩
                      · exact absurd h.2.2 (by decide)
                    have HFinq : Hid (rr.done = true ∧ rr.point = true ∧ rr.an = hC jN) := Lib.hid ⟨hdn2.1, hdn2.2, by rw [hax, HXq.out]⟩
                    subst hiE
                    clear hcd hax hwf hdn hdn2 HRun hiN
                    have hbd := hC_bd jN HMJr.out.2.2.1
                    have cw : IntKind.i64.wrap (hC jN) = hC jN := IntWalk.i64_in _ (by omega)
                    have h_v : wr.cell? ⟨g_h, jN, none⟩ = some (.int .u64 (hC jN)) := h12_cell H_h.out HMJr.out.2.2.1
                    have z_h := lt_of_heap H_h.out
                    have vI : (jN : Int) < 12 := by have := Hj.out; omega
                    have vI0 : (0 : Int) ≤ (jN : Int) := by omega
                    have v12 : decide ((12 : Int) ≤ (jN : Int)) = false := decide_eq_false (by omega)
                    obtain ⟨hx, Hhx⟩ : ∃ x, Hid (hC jN = x) := ⟨_, Lib.hid rfl⟩
                    rw [Hhx.out] at h_v cw HFinq
                    clear hbd
                    have q_21 : wr.cell? ⟨g_q, 21, none⟩ = some (.bool true) := by rw [row_cell H_q.out]; rw [← HFinq.out.1]; rfl
                    have q_22 : wr.cell? ⟨g_q, 22, none⟩ = some (.bool true) := by rw [row_cell H_q.out]; rw [← HFinq.out.2.1]; rfl
                    have q_24 : wr.cell? ⟨g_q, 24, none⟩ = some (.int .i64 hx) := by rw [row_cell H_q.out]; rw [← HFinq.out.2.2]; rfl
                    have z_q := lt_of_heap H_q.out
                    have B2 := B.out
                    clear B
                    go_upto_region 45 with fail
                    try simp only [Act.put]
                    go_quiet (fail)
                    go_wp2
                    go_ret
                    exact ⟨rfl, by first | exact B2 | exact below_drewN B2 _⟩
end Go.Proofs.YtnimaajnlkbdaaaGreat
