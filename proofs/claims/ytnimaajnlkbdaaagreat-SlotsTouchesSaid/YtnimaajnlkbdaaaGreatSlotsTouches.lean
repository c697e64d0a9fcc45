/- Layer 16: the walk of SlotsTouches. (Printed.) -/
import Derived.Test.YtnimaajnlkbdaaaGreatMU
import Derived.Test.YtnimaajnlkbdaaaGreatMP
import Derived.Test.YtnimaajnlkbdaaaGreatWd16
import Derived.Test.YtnimaajnlkbdaaaGreatOp16
import Derived.BigQuiet
namespace Go.Proofs.YtnimaajnlkbdaaaGreat
open Go.RowKit
set_option linter.unusedVariables false
set_option linter.unusedSimpArgs false

theorem endW16 {ws : List Int} {j v : Nat} {c : Cal} {code : Int} {n : Nat} {e f : Int} (he : (endW ws j v c code)[n]? = some e) (hf : ws[n]? = some f) : (code = 0 ∧ (c.op = 9 ∨ c.op = 11) ∧ (n = wordK j c ∧ e = hC v ∨ n ≠ wordK j c ∧ e = f)) ∨ (¬ (code = 0 ∧ (c.op = 9 ∨ c.op = 11)) ∧ e = f) := by
 unfold endW at he
 by_cases h : code = 0 ∧ (c.op = 9 ∨ c.op = 11)
 ·rw [if_pos h, List.getElem?_set] at he
  by_cases h2 : wordK j c = n
  ·rw [if_pos h2] at he
   have hl : n < ws.length := (List.getElem?_eq_some_iff.1 hf).1
   rw [if_pos (by omega)] at he
   injection he with he
   exact .inl ⟨h.1, h.2, .inl ⟨h2.symm, he.symm⟩⟩
  ·rw [if_neg h2, hf] at he
   injection he with he
   exact .inl ⟨h.1, h.2, .inr ⟨fun e => h2 e.symm, he.symm⟩⟩
 ·rw [if_neg h, hf] at he
  injection he with he
  exact .inr ⟨h, he.symm⟩
set_option maxRecDepth 100000 in
set_option maxHeartbeats 1000000 in
theorem rat16_any (a : Int) (w : World) : Calls Tryz.prog 20 #[.int .i64 4, .int .i64 a] w fun r w' => ∃ x, r = .returned (.int .i64 x) ∧ w' = w ∧ (1 ≤ a ∧ a ≤ 3 → x = 64 * a + 32) := by
 by_cases h : 1 ≤ a ∧ a ≤ 3
 ·refine (rplanAt_any 4 a w (by decide) (by omega)).mono ?_
  rintro r w' ⟨rfl, rfl⟩
  exact ⟨_, rfl, rfl, fun _ => by omega⟩
 ·have H := Lib.hid h
  clear h
  go_enter Tryz.func20, Tryz.ntmps20
  go_wp2_with fail
  go_ret
  exact ⟨_, rfl, rfl, fun h => absurd h H.out⟩
/-- where what is stored stands, if it is stored: behind a verdict 0 -/
theorem verd_in {m j v k : Nat} {a b : Int} (hk : k < 4) (hj12 : j < 12) (h : verd c16 m j v k a b = 0) : (k = 1 → j < 11 ∧ 0 ≤ b ∧ b ≤ 1) ∧ (k = 3 → 1 ≤ a ∧ a ≤ 3) := by
 unfold verd at h
 by_cases h0 : (begS m j v k a).1 = 0
 ·rw [if_neg (fun e => e h0)] at h
  constructor
  ·intro e
   subst e
   rw [if_pos (show 1 ≤ 1 from Nat.le_refl 1)] at h
   unfold cd5 at h
   split at h
   ·unfold cd6 at h
    split at h
    ·exact absurd h (by decide)
    split at h
    ·exact absurd h (by decide)
    ·rename_i hB
     have hB2 : 0 ≤ b ∧ b ≤ 1 := by
      rcases h2 : inB b 0 1 with _ | _
      ·exact absurd h2 hB
      ·exact of_decide_eq_true h2
     refine ⟨?_, hB2⟩
     unfold begS at h0
     rw [if_pos (show 1 ≤ 1 from Nat.le_refl 1)] at h0
     by_cases hc : chk16 m j = 0
     ·unfold chk16 at hc
      rcases Nat.lt_or_ge j 11 with h' | h'
      ·exact h'
      ·rw [if_pos (show j = 11 by omega)] at hc; exact absurd hc (by decide)
     ·rw [if_neg hc] at h0; exact absurd h0 hc
   ·exact absurd h (by decide)
  ·intro e
   subst e
   unfold begS at h0
   rw [if_neg (show ¬ 3 ≤ 1 by decide)] at h0
   cases hB : inB a 1 3 with
   | true => exact of_decide_eq_true hB
   | false => rw [hB, if_pos rfl] at h0; exact absurd h0 (by decide)
 ·rw [if_pos h0] at h
  exact absurd h h0
set_option maxRecDepth 100000 in
set_option maxHeartbeats 8000000 in
theorem slotsTouches_walk (u : Use16) (w : World) (hq : Use16Ok u) :
  Calls Tryz.prog 7 #[.agg #[.int .u8 u.op, .int .u8 u.who, .int .u8 u.h, .int .u8 u.v, .int .i64 u.b, .int .i64 u.a]] w fun r w' => r = .returned (.bool true) ∧ Below w.heap.size w w' := by
 obtain ⟨op, who, hh, vv, b0, a0⟩ := u
 obtain ⟨q1, q2, q3, q4, q5, q6⟩ := hq
 simp only at q1 q2 q3 q4 q5 q6 ⊢
 obtain ⟨k, Hk⟩ : ∃ s : Nat, Hid (op % 4 = (s : Int) ∧ s < 4) := ⟨(op % 4).toNat, Lib.hid (by omega)⟩
 obtain ⟨m, Hm⟩ : ∃ s : Nat, Hid (who % 3 = (s : Int) ∧ s < 3) := ⟨(who % 3).toNat, Lib.hid (by omega)⟩
 obtain ⟨j, Hj⟩ : ∃ s : Nat, Hid (hh % 12 = (s : Int) ∧ s < 12) := ⟨(hh % 12).toNat, Lib.hid (by omega)⟩
 obtain ⟨v, Hv⟩ : ∃ s : Nat, Hid (vv % 12 = (s : Int) ∧ s < 12) := ⟨(vv % 12).toNat, Lib.hid (by omega)⟩
 obtain ⟨od, Hod⟩ : ∃ s : Nat, Hid (op % 2 = (s : Int) ∧ s < 2 ∧ (s = 1 ↔ k = 1 ∨ k = 3)) := ⟨(op % 2).toNat, Lib.hid (by have := Hk.out; omega)⟩
 have ek : op.tmod 4 = (k : Int) := by rw [Int.tmod_eq_emod_of_nonneg q1.1]; exact Hk.out.1
 have eo : op.tmod 2 = (od : Int) := by rw [Int.tmod_eq_emod_of_nonneg q1.1]; exact Hod.out.1
 have ej : hh.tmod 12 = (j : Int) := by rw [Int.tmod_eq_emod_of_nonneg q3.1]; exact Hj.out.1
 have ev : vv.tmod 12 = (v : Int) := by rw [Int.tmod_eq_emod_of_nonneg q4.1]; exact Hv.out.1
 have HQ := Lib.hid (And.intro q1 (And.intro q2 (And.intro q3 (And.intro q4 (And.intro q5 q6)))))
 clear q1 q2 q3 q4 q5 q6
 go_enter Tryz.func7, Tryz.ntmps7
 have B := Lib.hid (Below.refl w.heap.size w)
 go_upto_region 1 with fail
 refine one_row w _ _ ?_
 intro w0 hr hb
 have hlB := B.out.size
 have hsz := (hb).size
 replace B := Lib.hid (below_only B.out hb)
 clear hb hsz
 have H_u := Lib.hid (show w0.heap[w.heap.size]? = some (.cells #[.int .u8 op, .int .u8 who, .int .u8 hh, .int .u8 vv, .int .i64 b0, .int .i64 a0] 47 (0, 0)) from hr)
 clear hr
 obtain ⟨g_u, hg_u⟩ : ∃ x, x = w.heap.size := ⟨_, rfl⟩
 rw [← hg_u] at H_u ⊢
 have L_u : Hid (w.heap.size ≤ g_u) := Lib.hid (by omega)
 clear hg_u hlB
 go_wp2_with fail
 refine (shown16_any _).mono ?_
 rintro r w1 ⟨rfl, hb⟩
 have hsz := (hb).size
 replace H_u := Lib.hid (row_below H_u.out hb)
 replace B := Lib.hid (below_only B.out hb)
 clear hb hsz
 go_wp2_with fail
 refine (plan16_any _).mono ?_
 rintro r w1a ⟨rfl, hb⟩
 have hsz := (hb).size
 replace H_u := Lib.hid (row_below H_u.out hb)
 replace B := Lib.hid (below_only B.out hb)
 clear hb hsz
 go_upto_region 3 with fail
 refine one_row w1a _ _ ?_
 intro w2 hr hb
 have hlB := B.out.size
 have hl_u := lt_of_heap H_u.out
 have hsz := (hb).size
 replace H_u := Lib.hid (row_below H_u.out hb)
 replace B := Lib.hid (below_only B.out hb)
 clear hb hsz
 have H_p := Lib.hid (show w2.heap[w1a.heap.size]? = some (.cells #[.int .i64 4, .int .i64 2, .int .i64 128, .int .i64 512] 28 (0, 0)) from hr)
 clear hr
 obtain ⟨g_p, hg_p⟩ : ∃ x, x = w1a.heap.size := ⟨_, rfl⟩
 rw [← hg_p] at H_p ⊢
 have M_u_p : Hid (g_u ≠ g_p) := Lib.hid (by omega)
 have M_p_u : Hid (g_p ≠ g_u) := Lib.hid (by omega)
 clear hl_u
 have L_p : Hid (w.heap.size ≤ g_p) := Lib.hid (by omega)
 clear hg_p hlB
 go_wp2_with fail
 refine (laid_any _).mono ?_
 rintro r w3 ⟨p, b, X, q, d, rfl, hT, hb⟩
 have HT0 := Lib.hid hT
 have HBB := Lib.hid B.out.size
 clear hT
 obtain ⟨wl, hwl⟩ : ∃ x, x = w2.heap.size := ⟨_, rfl⟩
 have hl_u := lt_of_heap H_u.out
 have hl_p := lt_of_heap H_p.out
 rw [← hwl] at HT0 HBB hl_u hl_p
 have hsz := (hb).size
 replace H_u := Lib.hid (row_below H_u.out hb)
 replace H_p := Lib.hid (row_below H_p.out hb)
 replace B := Lib.hid (below_only B.out hb)
 clear hb hsz
 have N_u : Hid (g_u ∉ [p, b, X, q, d]) := Lib.hid (HT0.out.elder hl_u)
 clear hl_u
 have N_p : Hid (g_p ∉ [p, b, X, q, d]) := Lib.hid (HT0.out.elder hl_p)
 clear hl_p
 have HT : Hid (TwoW w.heap.size w3 p b X q d 4 2 128 512 (oW 9) (oW 9)) := Lib.hid { HT0.out with low := by have := HT0.out.low; have := HBB.out; omega }
 clear HT0 hwl HBB
 obtain ⟨WS, HWS⟩ : ∃ x, Hid (oW 9 = x) := ⟨_, Lib.hid rfl⟩
 have HLw : Hid (Lw c16 WS) := Lib.hid (by rw [← HWS.out]; exact laid_lw)
 rw [HWS.out] at HT
 go_upto_region 4 with (first | (refine allocTo16 rfl 32 rfl _ (allocH12 _) ?_; (try simp only [Act.put, List.setIfInBounds_toArray, List.set_cons_succ, List.set_cons_zero])) | (refine wpList_store_row rfl 32 (.tmp 7) (.tmp 24) rfl w3.heap.size (hAt 12) rfl rfl 32 (hAt 0) (row_new _ _ _) infoH12 rfl (hAt_one 12) ?_; (try simp only [Act.put, List.setIfInBounds_toArray, List.set_cons_succ, List.set_cons_zero])))
 refine alloc_set' w3 _ _ _ ?_
 intro w4 hr hb
 have hlB := B.out.size
 have hfr := HT.out.fresh (Nat.le_refl w3.heap.size)
 have hl_u := lt_of_heap H_u.out
 have hl_p := lt_of_heap H_p.out
 have hsz := (hb).size
 replace H_u := Lib.hid (row_below H_u.out hb)
 replace H_p := Lib.hid (row_below H_p.out hb)
 replace HT := Lib.hid (HT.out.below hb)
 replace B := Lib.hid (below_only B.out hb)
 clear hb hsz
 have H_h := Lib.hid (show w4.heap[w3.heap.size]? = some (.cells (hAt 12) 32 (0, 0)) from hr)
 clear hr
 obtain ⟨g_h, hg_h⟩ : ∃ x, x = w3.heap.size := ⟨_, rfl⟩
 rw [← hg_h] at H_h ⊢
 have N_h : Hid (g_h ∉ [p, b, X, q, d]) := Lib.hid (by rw [hg_h]; exact hfr)
 clear hfr
 have M_u_h : Hid (g_u ≠ g_h) := Lib.hid (by omega)
 have M_h_u : Hid (g_h ≠ g_u) := Lib.hid (by omega)
 clear hl_u
 have M_p_h : Hid (g_p ≠ g_h) := Lib.hid (by omega)
 have M_h_p : Hid (g_h ≠ g_p) := Lib.hid (by omega)
 clear hl_p
 have L_h : Hid (w.heap.size ≤ g_h) := Lib.hid (by omega)
 clear hg_h hlB
 have HMJr : Hid (m < 3 ∧ j < 12 ∧ v < 12 ∧ k < 4) := Lib.hid ⟨Hm.out.2, Hj.out.2, Hv.out.2, Hk.out.2⟩
 have HLen : Hid (WS.length = 112) := Lib.hid HLw.out.len
 obtain ⟨u_0, u_1, u_2, u_3, u_4, u_5⟩ := box6 H_u.out
 have z_u := lt_of_heap H_u.out
 obtain ⟨p_0, p_1, p_2, p_3, p_f0, p_f1, p_f2, p_f3⟩ := box4 H_p.out
 have z_p := lt_of_heap H_p.out
 go_wp2_with (first | (refine wpList_load_row rfl 32 (.tmp 7) rfl g_h rfl 32 (hAt 12) (0, 0) _ H_h.out undH12 rfl infoH12 ?_; (try simp only [Act.put, List.setIfInBounds_toArray, List.set_cons_succ, List.set_cons_zero])))
 clear u_0 u_1 u_2 u_3 u_4 u_5 z_u p_0 p_1 p_2 p_3 p_f0 p_f1 p_f2 p_f3 z_p
 refine (call16_any op who hh vv b0 a0 k m j v _ HQ.out.1 HQ.out.2.1 HQ.out.2.2.1 HQ.out.2.2.2.1 HQ.out.2.2.2.2.2 HQ.out.2.2.2.2.1 Hk.out.1 Hm.out.1 Hj.out.1 Hv.out.1).mono ?_
 rintro r w5a ⟨kcr, cAr, hkc, rfl, hE, hEn, hb⟩
 have HKCr := Lib.hid hkc
 clear hkc
 have HLenr : Hid ((chE16 m).length = m) := Lib.hid (chE16_len (by have := HMJr.out; omega))
 have hEl : ∀ z, 0 < (chE16 m).length → cAr = some z → w4.heap.size ≤ z.block := fun z h0 hz => hEn z (by rw [HLenr.out] at h0; exact h0) hz
 clear hEn
 have F_cr : Hid (∀ z, 0 < (chE16 m).length → cAr = some z → z.block ∉ [p, b, X, q, d]) := Lib.hid (fun z h0 hz => HT.out.fresh (hEl z h0 hz))
 have F_cr_u : Hid (∀ z, 0 < (chE16 m).length → cAr = some z → z.block ≠ g_u) := Lib.hid (fun z h0 hz => by have := hEl z h0 hz; have := lt_of_heap H_u.out; omega)
 have F_cr_p : Hid (∀ z, 0 < (chE16 m).length → cAr = some z → z.block ≠ g_p) := Lib.hid (fun z h0 hz => by have := hEl z h0 hz; have := lt_of_heap H_p.out; omega)
 have F_cr_h : Hid (∀ z, 0 < (chE16 m).length → cAr = some z → z.block ≠ g_h) := Lib.hid (fun z h0 hz => by have := hEl z h0 hz; have := lt_of_heap H_h.out; omega)
 have hE0 := Lib.hid hE
 clear hE hEl
 have hsz := (hb).size
 replace H_u := Lib.hid (row_below H_u.out hb)
 replace H_p := Lib.hid (row_below H_p.out hb)
 replace H_h := Lib.hid (row_below H_h.out hb)
 replace HT := Lib.hid (HT.out.below hb)
 replace B := Lib.hid (below_only B.out hb)
 clear hb hsz
 have E_cr := hE0
 clear hE0
 go_upto_region 7 with (first | refine wpList_store_row rfl 43 (.tmp 8) (.tmp 34) rfl w5a.heap.size (beg16k m j v k a0 b0 ⟨cAr, m, kcr⟩).arr rfl rfl 43 ZRun (row_new _ _ _) infoRun rfl (Rn.one _) ?_; (try simp only [Act.put, List.setIfInBounds_toArray, List.set_cons_succ, List.set_cons_zero]))
 refine alloc_set' w5a _ _ _ ?_
 intro w5 hr hb
 have hlB := B.out.size
 have hfr := HT.out.fresh (Nat.le_refl w5a.heap.size)
 have hl_u := lt_of_heap H_u.out
 have hl_p := lt_of_heap H_p.out
 have hl_h := lt_of_heap H_h.out
 have hf_cr := ents_far E_cr.out (Nat.le_refl w5a.heap.size)
 have hsz := (hb).size
 replace H_u := Lib.hid (row_below H_u.out hb)
 replace H_p := Lib.hid (row_below H_p.out hb)
 replace H_h := Lib.hid (row_below H_h.out hb)
 replace E_cr := Lib.hid (Ents.below E_cr.out hb)
 replace HT := Lib.hid (HT.out.below hb)
 replace B := Lib.hid (below_only B.out hb)
 clear hb hsz
 have H_r := Lib.hid (show w5.heap[w5a.heap.size]? = some (.cells (beg16k m j v k a0 b0 ⟨cAr, m, kcr⟩).arr 43 (0, 0)) from hr)
 clear hr
 obtain ⟨g_r, hg_r⟩ : ∃ x, x = w5a.heap.size := ⟨_, rfl⟩
 rw [← hg_r] at H_r ⊢
 have N_r : Hid (g_r ∉ [p, b, X, q, d]) := Lib.hid (by rw [hg_r]; exact hfr)
 clear hfr
 have M_u_r : Hid (g_u ≠ g_r) := Lib.hid (by omega)
 have M_r_u : Hid (g_r ≠ g_u) := Lib.hid (by omega)
 clear hl_u
 have M_p_r : Hid (g_p ≠ g_r) := Lib.hid (by omega)
 have M_r_p : Hid (g_r ≠ g_p) := Lib.hid (by omega)
 clear hl_p
 have M_h_r : Hid (g_h ≠ g_r) := Lib.hid (by omega)
 have M_r_h : Hid (g_r ≠ g_h) := Lib.hid (by omega)
 clear hl_h
 have F_cr_r : Hid (∀ z, 0 < ((chE16 m) : List Ent).length → cAr = some z → z.block ≠ g_r) := Lib.hid (by rw [hg_r]; exact hf_cr)
 clear hf_cr
 have L_r : Hid (w.heap.size ≤ g_r) := Lib.hid (by omega)
 clear hg_r hlB
 obtain ⟨nr, hN1, hN2, hN3, hN4, hRun⟩ := beg16_run (C := c16) (ws := WS) (m := m) (j := j) (v := v) (k := k) (a := a0) (b := b0) (ch := ⟨cAr, m, kcr⟩) HLw.out (by have := HMJr.out; omega) (by have := HMJr.out; omega) (by have := HMJr.out; omega) (by have := HMJr.out; omega) (fun _ => c16_ep1) (fun _ => c16_ep1)
 have HN_r := Lib.hid (And.intro hN1 (And.intro hN2 (And.intro hN3 hN4)))
 obtain ⟨r0r, Hr0r⟩ : ∃ x : Rn, Hid ((beg16k m j v k a0 b0 ⟨cAr, m, kcr⟩) = x) := ⟨_, Lib.hid rfl⟩
 have HChr : Hid (r0r.chain = ⟨cAr, m, kcr⟩) := Lib.hid (by rw [← Hr0r.out]; rfl)
 rw [Hr0r.out] at H_r hRun
 have HRunr := Lib.hid hRun
 clear hN1 hN2 hN3 hN4 hRun
 obtain ⟨cr, Hcr⟩ : ∃ x, Hid (verd c16 m j v k a0 b0 = x) := ⟨_, Lib.hid rfl⟩
 rw [Hcr.out] at HN_r HRunr
 obtain ⟨xr, Hxr⟩ : ∃ x, Hid (endX WS j (cal16k k a0 b0) cr = x) := ⟨_, Lib.hid rfl⟩
 obtain ⟨wfr, Hwfr⟩ : ∃ x, Hid (endW WS j v (cal16k k a0 b0) cr = x) := ⟨_, Lib.hid rfl⟩
 rw [Hxr.out, Hwfr.out] at HRunr
 have HBNr : Hid (nr ≤ 5) := Lib.hid (Nat.le_trans HN_r.out.1 (bnd16_le _))
 have HRun0r := HRunr
 have HLr := Lib.hid (run16_lw HLw.out HRun0r.out)
 go_wp2_with fail
 go_loopw [9] (fun tt wr => ∃ (i : Nat) (rr : Rn) (wn : List Int), tt = .int .i64 i ∧ i ≤ 6 ∧ Run16 c16 (chE16 m) j v WS cr xr wfr nr i rr wn ∧ rr.chain = ⟨cAr, m, kcr⟩ ∧ wr.heap[g_u]? = some (.cells #[.int .u8 op, .int .u8 who, .int .u8 hh, .int .u8 vv, .int .i64 b0, .int .i64 a0] 47 (0, 0)) ∧ wr.heap[g_p]? = some (.cells #[.int .i64 4, .int .i64 2, .int .i64 128, .int .i64 512] 28 (0, 0)) ∧ wr.heap[g_h]? = some (.cells (hAt 12) 32 (0, 0)) ∧ wr.heap[g_r]? = some (.cells rr.arr 43 (0, 0)) ∧ Ents wr cAr (chE16 m) ∧ TwoW w.heap.size wr p b X q d 4 2 128 512 wn WS ∧ Below w.heap.size w wr) (fun t _ => (6 - intOf t).toNat)
 case atStart => exact ⟨0, r0r, _, rfl, by omega, HRunr.out, HChr.out, H_u.out, H_p.out, H_h.out, H_r.out, E_cr.out, HT.out, B.out⟩
 case round =>
  clear H_u H_p H_h H_r E_cr HT B HRunr HChr
  obtain ⟨i, rr, wn, rfl, hi6, hRun, hCh, hrel⟩ := hrel
  have HRun := Lib.hid hRun
  have HChr := Lib.hid hCh
  clear hRun hCh
  obtain ⟨hq_H_u, hq_H_p, hq_H_h, hq_H_r, hq_E_cr, hq_HT, hq_B⟩ := hrel
  replace H_u := Lib.hid hq_H_u
  replace H_p := Lib.hid hq_H_p
  replace H_h := Lib.hid hq_H_h
  replace H_r := Lib.hid hq_H_r
  replace E_cr := Lib.hid hq_E_cr
  replace HT := Lib.hid hq_HT
  replace B := Lib.hid hq_B
  clear hq_H_u hq_H_p hq_H_h hq_H_r hq_E_cr hq_HT hq_B
  go_upto_region 8 with fail
  try simp only [Act.put]
  go_cut [46] from 35 to 46 (fun vv wx => vv = .bool (decide (i < nr)) ∧ wr = wx)
  case first =>
   by_cases hiN : i < nr
   ·skip
    have hq := run16_on HRun.out hiN
    have hpcq := hq.1.pc
    have HPq := Lib.hid hq.1.done
    clear hq
    have e0 : decide (rr.pc = 0) = false := decide_eq_false (by omega)
    have e1 : (rr.pc == 0) = false := by simp; omega
    have e2 : (rr.pc != 0) = true := by simp; omega
    have HDq : Hid (decide (i < nr) = true) := Lib.hid (decide_eq_true hiN)
    have hlimI : (i : Int) < 6 := by have := HN_r.out.1; have := HBNr.out; omega
    have hlimB : decide ((i : Int) < 6) = true := decide_eq_true hlimI
    have r_21 : wr.cell? ⟨g_r, 21, none⟩ = some (.bool false) := by rw [row_cell H_r.out]; rw [← HPq.out]; rfl
    have r_7 : wr.cell? ⟨g_r, 7, none⟩ = some (.int .i64 rr.pc) := by rw [row_cell H_r.out]; rfl
    have z_r := lt_of_heap H_r.out
    clear hpcq
    go_wp2_with fail
    go_meet
    exact ⟨by rw [HDq.out], rfl⟩
   ·skip
    obtain ⟨hiE, hq1, hq2, hq3, hq⟩ := run16_end HRun.out hiN
    clear hq1 hq2 hq3
    have HDq : Hid (decide (i < nr) = false) := Lib.hid (decide_eq_false hiN)
    have hlimI : (i : Int) < 6 := by have := HN_r.out.1; have := HBNr.out; omega
    have hlimB : decide ((i : Int) < 6) = true := decide_eq_true hlimI
    clear hiE
    rcases hq with ⟨hd, _, _⟩ | ⟨hd, hp0, _⟩
    ·skip
     have HPq := Lib.hid hd
     clear hd
     have r_21 : wr.cell? ⟨g_r, 21, none⟩ = some (.bool true) := by rw [row_cell H_r.out]; rw [← HPq.out]; rfl
     have z_r := lt_of_heap H_r.out
     go_wp2_with fail
     go_meet
     exact ⟨by rw [HDq.out], rfl⟩
    ·skip
     have HPq := Lib.hid (And.intro hd hp0)
     clear hd hp0
     have r_21 : wr.cell? ⟨g_r, 21, none⟩ = some (.bool false) := by rw [row_cell H_r.out]; rw [← HPq.out.1]; rfl
     have r_7 : wr.cell? ⟨g_r, 7, none⟩ = some (.int .i64 0) := by rw [row_cell H_r.out]; rw [← HPq.out.2]; rfl
     have z_r := lt_of_heap H_r.out
     go_wp2_with fail
     go_meet
     exact ⟨by rw [HDq.out], rfl⟩
  case rest =>
   obtain ⟨rfl, hwx⟩ := hcut
   subst hwx
   by_cases hiN : i < nr
   ·skip
    rw [decide_eq_true hiN]
    obtain ⟨hI, hwn, hnext⟩ := run16_on HRun.out hiN
    rw [hwn] at HT
    clear hwn
    have HI := Lib.hid hI
    have Hnext := Lib.hid hnext
    have HiN : Hid (i + 1 ≤ 6) := Lib.hid (by have := HBNr.out; omega)
    clear hI hnext hiN HRun
    go_wp2_with fail
    have hl_u := lt_of_heap H_u.out
    have hl_p := lt_of_heap H_p.out
    have hl_h := lt_of_heap H_h.out
    have hl_r := lt_of_heap H_r.out
    have hfr := fun g h => HT.out.fresh (g := g) h
    refine (wordsL_any p b _ _ HT.out.a (by rw [HLen.out]; decide)).mono ?_
    rintro r y8 ⟨b_now, o_now, c_now, rfl, hW, hnw, hlb, hb⟩
    rw [HLen.out]
    have G_now : Hid (b_now ∉ [p, b, X, q, d]) := Lib.hid (hfr _ hnw)
    clear hfr
    have M_now_u : Hid (b_now ≠ g_u) := Lib.hid (by omega)
    clear hl_u
    have M_now_p : Hid (b_now ≠ g_p) := Lib.hid (by omega)
    clear hl_p
    have M_now_h : Hid (b_now ≠ g_h) := Lib.hid (by omega)
    clear hl_h
    have M_now_r : Hid (b_now ≠ g_r) := Lib.hid (by omega)
    clear hl_r
    clear hnw
    have hsz := (hb).size
    replace H_u := Lib.hid (row_below H_u.out hb)
    replace H_p := Lib.hid (row_below H_p.out hb)
    replace H_h := Lib.hid (row_below H_h.out hb)
    replace H_r := Lib.hid (row_below H_r.out hb)
    replace E_cr := Lib.hid (Ents.below E_cr.out hb)
    replace HT := Lib.hid (HT.out.below hb)
    replace B := Lib.hid (below_only B.out hb)
    clear hb hsz
    have W_now : Hid (∀ (jj : Nat) x, WS[jj]? = some x → y8.cell? ⟨b_now, o_now + jj, none⟩ = some (.int .u64 x)) := Lib.hid hW
    have Z_now : Hid (b_now < y8.heap.size) := Lib.hid hlb
    clear hW hlb
    go_wp2_with fail
    go_loopw [11] (fun tt wz => ∃ n : Nat, n ≤ 112 ∧ tt = .int .i64 n ∧ Below y8.heap.size y8 wz) (fun t _ => (112 - intOf t).toNat)
    case atStart => exact ⟨0, by omega, rfl, Below.refl _ _⟩
    case round =>
     obtain ⟨n, hn, rfl, hbz⟩ := hrel
     have HBz := Lib.hid hbz
     clear hbz
     have HTz := Lib.hid (HT.out.below HBz.out)
     have X_5 := HTz.out.x.cell
     obtain ⟨q_0, _⟩ := box1 HTz.out.x.arn.box
     rw [HLen.out] at q_0
     by_cases hn4 : n < 112
     ·obtain ⟨f, hf⟩ : ∃ x, WS[n]? = some x := ⟨_, List.getElem?_eq_getElem (by rw [HLen.out]; exact hn4)⟩
      have cd := HTz.out.x.arn.cell n f hf
      have cv : wr.cell? ⟨b_now, o_now + n, none⟩ = some (.int .u64 f) := (HBz.out.cell (lt_of_cell (W_now.out n f hf))).trans (W_now.out n f hf)
      have hnI : (n : Int) < 112 := by omega
      have hnI0 : (0 : Int) ≤ (n : Int) := by omega
      have hnB : decide ((112 : Int) ≤ (n : Int)) = false := decide_eq_false (by omega)
      have hnB2 : decide ((n : Int) < 112) = true := decide_eq_true hnI
      have zv := lt_of_cell cv
      clear hf
      go_upto_region 13 with fail
      try simp only [Act.put]
      go_cut [81] from 61 to 81 (fun vv wx => vv = .bool false ∧ Below wr.heap.size wr wx)
      case first =>
       go_quiet (fail)
       go_wp2
       go_meet
       exact ⟨rfl, by first | exact below_drewN (Below.refl _ _) _ | exact Below.refl _ _ | exact Below.drew (Below.refl _ _) | go_grown⟩
      case rest =>
       obtain ⟨rfl, hb⟩ := hcut
       have HB4 := Lib.hid (hb.mono HBz.out.size |> HBz.out.trans)
       clear hb cd cv zv X_5 q_0
       go_wp2_with fail
       go_roundw
       case rel => exact ⟨n + 1, by omega, by go_num, HB4.out⟩
       case measure => simp [intOf]; omega
     ·obtain rfl : n = 112 := by omega
      have hb := HBz.out
      clear HBz hn4 hn HTz
      have X_5' := Lib.hid X_5
      have q_0' := Lib.hid q_0
      clear X_5 q_0
      have hsz := (hb).size
      replace H_u := Lib.hid (row_below H_u.out hb)
      replace H_p := Lib.hid (row_below H_p.out hb)
      replace H_h := Lib.hid (row_below H_h.out hb)
      replace H_r := Lib.hid (row_below H_r.out hb)
      replace W_now := Lib.hid (fun n x hx => (hb.cell (lt_of_cell (W_now.out n x hx))).trans (W_now.out n x hx))
      replace Z_now := Lib.hid (Nat.lt_of_lt_of_le Z_now.out hsz)
      replace E_cr := Lib.hid (Ents.below E_cr.out hb)
      replace HT := Lib.hid (HT.out.below hb)
      replace B := Lib.hid (below_only B.out hb)
      clear hb hsz
      have X_5 := X_5'.out
      have q_0 := q_0'.out
      clear X_5' q_0'
      obtain ⟨p_0, p_1, p_2, p_3, p_f0, p_f1, p_f2, p_f3⟩ := box4 H_p.out
      have z_p := lt_of_heap H_p.out
      go_wp2_with (first | (refine wpList_load_row rfl 43 (.tmp 8) rfl g_r rfl 43 rr.arr (0, 0) _ H_r.out undRun rfl infoRun ?_; (try simp only [Act.put, List.setIfInBounds_toArray, List.set_cons_succ, List.set_cons_zero])))
      clear X_5 q_0 p_0 p_1 p_2 p_3 p_f0 p_f1 p_f2 p_f3 z_p
      refine (slStep_any c16 (chE16 m) j v p b WS rr _ HT.out.a HLw.out HI.out (by rw [HLenr.out]; have := HMJr.out; omega) (by rw [HChr.out, HLenr.out]) (by rw [HChr.out, HLenr.out]; exact HKCr.out) (by rw [HChr.out]; exact E_cr.out)).mono ?_
      rintro r y5 ⟨rfl, hA, hK⟩
      obtain ⟨R2, HR2⟩ : ∃ R, Hid (slR c16 (chE16 m) WS j v rr = R) := ⟨_, Lib.hid rfl⟩
      obtain ⟨W2, HW2⟩ : ∃ R, Hid (slW WS rr = R) := ⟨_, Lib.hid rfl⟩
      rw [HR2.out]
      rw [HR2.out, HW2.out] at Hnext
      rw [HW2.out] at hA
      have HCh2 : Hid (R2.chain = ⟨cAr, m, kcr⟩) := Lib.hid (by rw [← HR2.out, (sl_stays HI.out).1]; exact HChr.out)
      clear HR2 HW2 HI HChr
      clear W_now Z_now G_now
      have hszK := hK.size
      replace H_u := Lib.hid (hK.row H_u.out (by simpa using (HT.out.nb N_u.out).1))
      replace H_p := Lib.hid (hK.row H_p.out (by simpa using (HT.out.nb N_p.out).1))
      replace H_h := Lib.hid (hK.row H_h.out (by simpa using (HT.out.nb N_h.out).1))
      replace H_r := Lib.hid (hK.row H_r.out (by simpa using (HT.out.nb N_r.out).1))
      replace E_cr := Lib.hid (ents_kept E_cr.out hK (fun z h0 hz => by simpa using (HT.out.nb (F_cr.out z h0 hz)).1))
      replace B := Lib.hid (HT.out.under B.out hK (by simp))
      replace HT := Lib.hid (HT.out.onA hA hK)
      clear hA hK hszK
      go_upto_region 16 with (first | (refine wpList_store_row rfl 43 (.tmp 8) (.tmp 87) rfl g_r R2.arr rfl rfl 43 rr.arr H_r.out infoRun rfl (Rn.one _) ?_; (try simp only [Act.put, List.setIfInBounds_toArray, List.set_cons_succ, List.set_cons_zero])))
      refine set_row' y5 g_r _ _ _ H_r.out ?_
      intro y6 hr hK
      have hszK := hK.size
      replace H_u := Lib.hid (hK.row H_u.out (by simpa using M_u_r.out))
      replace H_p := Lib.hid (hK.row H_p.out (by simpa using M_p_r.out))
      replace H_h := Lib.hid (hK.row H_h.out (by simpa using M_h_r.out))
      replace E_cr := Lib.hid (ents_kept E_cr.out hK (fun z h0 hz => by simpa using F_cr_r.out z h0 hz))
      replace HT := Lib.hid (HT.out.kept hK (fun j hj => by simp only [List.mem_singleton] at hj; subst hj; exact N_r.out))
      replace B := Lib.hid (Keep.under B.out hK (by have := B.out.size; omega) (by simp; exact L_r.out))
      replace H_r := Lib.hid hr
      clear hr hK hszK
      go_wp2_with fail
      go_roundw
      case rel => exact ⟨i + 1, R2, W2, by go_num, HiN.out, Hnext.out, HCh2.out, H_u.out, H_p.out, H_h.out, H_r.out, E_cr.out, HT.out, B.out⟩
      case measure => have := HiN.out; simp [intOf]; omega
   rw [decide_eq_false hiN]
   obtain ⟨hiE, hcd, hax, hwf, hdn⟩ := run16_end HRun.out hiN
   rw [hwf] at HT
   obtain ⟨re, Hre⟩ : ∃ x, Hid (rr = x) := ⟨_, Lib.hid rfl⟩
   have HFin : Hid (re.code = cr ∧ (re.done = true ∧ 0 < nr ∨ re.done = false ∧ nr = 0) ∧ i ≤ 5) := Lib.hid (by rw [← Hre.out]; exact ⟨hcd, by rcases hdn with h | h; exact .inl ⟨h.1, h.2.2⟩; exact .inr ⟨h.1, h.2.2⟩, by have := HBNr.out; omega⟩)
   rw [Hre.out] at H_r
   clear hiE hcd hax hwf hdn Hre HRun HChr hiN hi6
   obtain ⟨wt, Hwt⟩ : ∃ x : Bool, Hid (x = true ↔ cr = 0 ∧ (k = 1 ∨ k = 3)) := ⟨decide (cr = 0 ∧ (k = 1 ∨ k = 3)), Lib.hid (by simp)⟩
   have HWl : Hid (wfr.length = 112) := Lib.hid HLr.out.len
   go_wp2_with fail
   have hl_u := lt_of_heap H_u.out
   have hl_p := lt_of_heap H_p.out
   have hl_h := lt_of_heap H_h.out
   have hl_r := lt_of_heap H_r.out
   have hfr := fun g h => HT.out.fresh (g := g) h
   refine (wordsL_any p b _ _ HT.out.a (by rw [HWl.out]; decide)).mono ?_
   rintro r y9 ⟨b_now, o_now, c_now, rfl, hW, hnw, hlb, hb⟩
   rw [HWl.out]
   have G_now : Hid (b_now ∉ [p, b, X, q, d]) := Lib.hid (hfr _ hnw)
   clear hfr
   have M_now_u : Hid (b_now ≠ g_u) := Lib.hid (by omega)
   clear hl_u
   have M_now_p : Hid (b_now ≠ g_p) := Lib.hid (by omega)
   clear hl_p
   have M_now_h : Hid (b_now ≠ g_h) := Lib.hid (by omega)
   clear hl_h
   have M_now_r : Hid (b_now ≠ g_r) := Lib.hid (by omega)
   clear hl_r
   clear hnw
   have hsz := (hb).size
   replace H_u := Lib.hid (row_below H_u.out hb)
   replace H_p := Lib.hid (row_below H_p.out hb)
   replace H_h := Lib.hid (row_below H_h.out hb)
   replace H_r := Lib.hid (row_below H_r.out hb)
   replace E_cr := Lib.hid (Ents.below E_cr.out hb)
   replace HT := Lib.hid (HT.out.below hb)
   replace B := Lib.hid (below_only B.out hb)
   clear hb hsz
   have W_now : Hid (∀ (jj : Nat) x, wfr[jj]? = some x → y9.cell? ⟨b_now, o_now + jj, none⟩ = some (.int .u64 x)) := Lib.hid hW
   have Z_now : Hid (b_now < y9.heap.size) := Lib.hid hlb
   clear hW hlb
   obtain ⟨u_0, u_1, u_2, u_3, u_4, u_5⟩ := box6 H_u.out
   have z_u := lt_of_heap H_u.out
   go_wp2_with fail
   clear u_0 u_1 u_2 u_3 u_4 u_5 z_u
   refine (rat16_any a0 _).mono ?_
   rintro r xa ⟨xat, rfl, e2, hat⟩
   rw [e2]
   clear e2 xa
   have Hat := Lib.hid hat
   clear hat
   obtain ⟨u_0, u_1, u_2, u_3, u_4, u_5⟩ := box6 H_u.out
   have z_u := lt_of_heap H_u.out
   go_upto_if 99 with fail
   try simp only [Act.put]
   go_cut [13] from 100 to 115 (fun vv wx => ∃ at_, vv = .int .i64 at_ ∧ (cr = 0 → k = 1 ∨ k = 3 → at_ = 8 * (wordK j (cal16k k a0 b0) : Int)) ∧ Below y9.heap.size y9 wx)
   case first =>
    have HV : Hid (cr = 0 → (k = 1 → j < 11 ∧ 0 ≤ b0 ∧ b0 ≤ 1) ∧ (k = 3 → 1 ≤ a0 ∧ a0 ≤ 3)) := Lib.hid (fun e => verd_in (m := m) (v := v) Hk.out.2 Hj.out.2 (by rw [Hcr.out]; exact e))
    by_cases hk1 : k = 1
    ·skip
     have b1 : decide (k = 1) = true := decide_eq_true hk1
     have b2 : ((k : Int) == 1) = true := by simp; omega
     have b3 : decide ((k : Int) = 1) = true := decide_eq_true (by omega)
     have Hk1 := Lib.hid hk1
     clear hk1
     have h_j : y9.cell? ⟨g_h, j, none⟩ = some (.int .u64 (hC j)) := h12_cell H_h.out Hj.out.2
     have z_h := lt_of_heap H_h.out
     have jI : (j : Int) < 12 := by have := Hj.out; omega
     have jI0 : (0 : Int) ≤ (j : Int) := by omega
     have j12 : decide ((12 : Int) ≤ (j : Int)) = false := decide_eq_false (by omega)
     have hbd := hC_bd j Hj.out.2
     go_wp2_with fail
     refine (runpackR_any (hC j) _ (by omega) (by omega)).mono ?_
     rintro r yu ⟨rfl, hb⟩
     obtain ⟨us, ue, ua, uc, Hun⟩ : ∃ us ue ua uc : Int, Hid (unpackR (hC j) = ((us, ue, ua), uc)) := ⟨_, _, _, _, Lib.hid rfl⟩
     rw [Hun.out]
     try dsimp only
     clear h_j z_h jI jI0 j12 hbd u_0 u_1 u_2 u_3 u_4 u_5 z_u
     go_upto_region 21 with fail
     refine one_row yu _ _ ?_
     intro yv hr hb2
     obtain ⟨f0, f1, f2, _, _, _⟩ := box3 hr
     have zf := lt_of_heap hr
     have hru := row_below (row_below H_u.out hb) hb2
     obtain ⟨u_0, u_1, u_2, u_3, u_4, u_5⟩ := box6 hru
     have zu := lt_of_heap hru
     have HB3 := Lib.hid (below_only hb hb2)
     clear hr hru hb hb2
     go_wp2_with fail
     go_meet
     refine ⟨_, rfl, ?_, HB3.out⟩
     intro e0 _
     obtain ⟨j11, b0', b1'⟩ := (HV.out e0).1 Hk1.out
     have hu := Hun.out
     rw [hC_unpack j j11] at hu
     have hua : ua = 8 * (kC j : Int) := by injection hu with hu _; injection hu with _ hu; injection hu with _ hu; exact hu.symm
     have hkb : kC j ≤ 100 := by unfold kC oK; split <;> (try split) <;> omega
     have hw : wordK j (cal16k k a0 b0) = kC j + 2 + b0.toNat := by
      rw [Hk1.out]
      unfold wordK
      rw [if_pos (show ((cal16k 1 a0 b0).op = 8 ∨ (cal16k 1 a0 b0).op = 9) by show ((8 : Int) + 1 = 8 ∨ (8 : Int) + 1 = 9); decide)]
      show ((8 * (kC j : Int) + 16 + 8 * b0) / 8).toNat = _
      omega
     rw [hw, hua]
     first | (rw [IntWalk.wrap64_in (8 * (kC j : Int) + 16) (by omega), IntWalk.wrap64_in (8 * b0) (by omega), IntWalk.wrap64_in _ (by omega)]; omega) | (rw [show IntKind.i64.wrap (8 * (kC j : Int) + 16) = 8 * (kC j : Int) + 16 from IntWalk.i64_in _ (by omega), show IntKind.i64.wrap (8 * b0) = 8 * b0 from IntWalk.i64_in _ (by omega), IntWalk.i64_in _ (by omega)]; omega)
    ·skip
     have b1 : decide (k = 1) = false := decide_eq_false hk1
     have b2 : ((k : Int) == 1) = false := by simp; omega
     have b3 : decide ((k : Int) = 1) = false := decide_eq_false (by omega)
     have Hk1 := Lib.hid hk1
     clear hk1
     go_wp2_with fail
     go_meet
     refine ⟨_, rfl, ?_, by first | exact Below.refl _ _ | go_grown⟩
     intro e0 hk
     have hk3 : k = 3 := by have := Hk1.out; omega
     obtain ⟨a1, a2⟩ := (HV.out e0).2 hk3
     rw [Hat.out ⟨a1, a2⟩, hk3]
     unfold wordK
     rw [if_neg (show ¬ ((cal16k 3 a0 b0).op = 8 ∨ (cal16k 3 a0 b0).op = 9) by show ¬ ((8 : Int) + 3 = 8 ∨ (8 : Int) + 3 = 9); decide)]
     show 64 * a0 + 32 = 8 * (((8 * a0 + 4).toNat : Nat) : Int)
     omega
   case rest =>
    obtain ⟨at_, rfl, hat, hb⟩ := hcut
    obtain ⟨z9, hwx⟩ : ∃ x, x = wc := ⟨_, rfl⟩
    subst hwx
    have Hat2 := Lib.hid hat
    clear hat
    clear u_0 u_1 u_2 u_3 u_4 u_5 z_u
    have hsz := (hb).size
    replace H_u := Lib.hid (row_below H_u.out hb)
    replace H_p := Lib.hid (row_below H_p.out hb)
    replace H_h := Lib.hid (row_below H_h.out hb)
    replace H_r := Lib.hid (row_below H_r.out hb)
    replace W_now := Lib.hid (fun n x hx => (hb.cell (lt_of_cell (W_now.out n x hx))).trans (W_now.out n x hx))
    replace Z_now := Lib.hid (Nat.lt_of_lt_of_le Z_now.out hsz)
    replace E_cr := Lib.hid (Ents.below E_cr.out hb)
    replace HT := Lib.hid (HT.out.below hb)
    replace B := Lib.hid (below_only B.out hb)
    clear hb hsz
    go_upto_region 22 with fail
    try simp only [Act.put]
    go_cut [16] from 116 to 129 (fun vv wx => vv = .bool wt ∧ z9 = wx)
    case first =>
     by_cases hc0 : cr = 0
     ·skip
      have HDt : Hid (re.done = true) := Lib.hid (by rcases HFin.out.2.1 with h | h; exact h.1; have := HN_r.out.2.1 hc0; omega)
      have HC0 := Lib.hid hc0
      clear hc0
      have r_21 : z9.cell? ⟨g_r, 21, none⟩ = some (.bool true) := by rw [row_cell H_r.out]; rw [← HDt.out]; rfl
      have r_23 : z9.cell? ⟨g_r, 23, none⟩ = some (.int .i64 0) := by rw [row_cell H_r.out]; rw [← HC0.out, ← HFin.out.1]; rfl
      have z_r := lt_of_heap H_r.out
      obtain ⟨u_0, u_1, u_2, u_3, u_4, u_5⟩ := box6 H_u.out
      have z_u := lt_of_heap H_u.out
      by_cases ho : od = 1
      ·skip
       have HW : Hid (wt = true) := Lib.hid (Hwt.out.2 ⟨HC0.out, Hod.out.2.2.1 ho⟩)
       subst ho
       have eo : op.tmod 2 = 1 := eo
       go_wp2_with fail
       go_meet
       exact ⟨by rw [HW.out], rfl⟩
      ·skip
       have HW : Hid (wt = false) := Lib.hid (by cases hc : wt with | false => rfl | true => exact absurd (Hod.out.2.2.2 (Hwt.out.1 hc).2) ho)
       have ho0 : od = 0 := by have := Hod.out.2.1; omega
       subst ho0
       have eo : op.tmod 2 = 0 := eo
       clear ho
       go_wp2_with fail
       go_meet
       exact ⟨by rw [HW.out], rfl⟩
     ·skip
      have HW : Hid (wt = false) := Lib.hid (by cases hc : wt with | false => rfl | true => exact absurd (Hwt.out.1 hc).1 hc0)
      obtain ⟨dn, Hdn⟩ : ∃ x, Hid (re.done = x) := ⟨_, Lib.hid rfl⟩
      have c1 : (cr == 0) = false := by simpa using hc0
      have c2 : decide (cr = 0) = false := decide_eq_false hc0
      clear hc0
      cases dn with
      | true =>
       have r_21 : z9.cell? ⟨g_r, 21, none⟩ = some (.bool true) := by rw [row_cell H_r.out]; rw [← Hdn.out]; rfl
       have r_23 : z9.cell? ⟨g_r, 23, none⟩ = some (.int .i64 cr) := by rw [row_cell H_r.out]; rw [← HFin.out.1]; rfl
       have z_r := lt_of_heap H_r.out
       go_wp2_with fail
       go_meet
       exact ⟨by rw [HW.out], rfl⟩
      | false =>
       have r_21 : z9.cell? ⟨g_r, 21, none⟩ = some (.bool false) := by rw [row_cell H_r.out]; rw [← Hdn.out]; rfl
       have r_23 : z9.cell? ⟨g_r, 23, none⟩ = some (.int .i64 cr) := by rw [row_cell H_r.out]; rw [← HFin.out.1]; rfl
       have z_r := lt_of_heap H_r.out
       go_wp2_with fail
       go_meet
       exact ⟨by rw [HW.out], rfl⟩
    case rest =>
     obtain ⟨rfl, hwx⟩ := hcut
     subst hwx
     have HNw : Hid (∀ (n : Nat) (e f : Int), wfr[n]? = some e → WS[n]? = some f → (wt = true ∧ (at_ = 8 * (n : Int) ∧ e = hC v ∨ at_ ≠ 8 * (n : Int) ∧ e = f)) ∨ (wt = false ∧ e = f)) := Lib.hid (fun n e f he hf => by
      rw [← Hwfr.out] at he
      have hop : ((cal16k k a0 b0).op = 9 ∨ (cal16k k a0 b0).op = 11) ↔ (k = 1 ∨ k = 3) := by
       show ((8 : Int) + (k : Int) = 9 ∨ (8 : Int) + (k : Int) = 11) ↔ _
       omega
      rcases endW16 he hf with ⟨h1, h2, h3⟩ | ⟨h1, h2⟩
      ·have hk := hop.1 h2
       refine .inl ⟨Hwt.out.2 ⟨h1, hk⟩, ?_⟩
       have ha := Hat2.out h1 hk
       rcases h3 with ⟨h4, h5⟩ | ⟨h4, h5⟩
       ·exact .inl ⟨by rw [ha, h4], h5⟩
       ·exact .inr ⟨by rw [ha]; omega, h5⟩
      ·refine .inr ⟨?_, h2⟩
       cases hc : wt with
       | false => rfl
       | true => have h := Hwt.out.1 hc; exact absurd ⟨h.1, hop.2 h.2⟩ h1)
     have X_5 := HT.out.x.cell
     obtain ⟨q_0, _⟩ := box1 HT.out.x.arn.box
     rw [HLen.out] at q_0
     have iI : decide ((5 : Int) < (i : Int)) = false := decide_eq_false (by have := HFin.out; omega)
     have iI2 : ¬ ((5 : Int) < (i : Int)) := by have := HFin.out; omega
     go_upto_region 25 with fail
     clear X_5 q_0 iI iI2
     go_wp2_with fail
     go_loopw [17] (fun tt wz => ∃ n : Nat, n ≤ 112 ∧ tt = .int .i64 n ∧ Below z9.heap.size z9 wz) (fun t _ => (112 - intOf t).toNat)
     case atStart => exact ⟨0, by omega, rfl, Below.refl _ _⟩
     case round =>
      obtain ⟨n, hn, rfl, hbz⟩ := hrel
      have HBz := Lib.hid hbz
      clear hbz
      have HTz := Lib.hid (HT.out.below HBz.out)
      have X_5 := HTz.out.x.cell
      obtain ⟨q_0, _⟩ := box1 HTz.out.x.arn.box
      rw [HLen.out] at q_0
      by_cases hn4 : n < 112
      ·obtain ⟨e, he⟩ : ∃ x, wfr[n]? = some x := ⟨_, List.getElem?_eq_getElem (by rw [HWl.out]; exact hn4)⟩
       obtain ⟨f, hf⟩ : ∃ x, WS[n]? = some x := ⟨_, List.getElem?_eq_getElem (by rw [HLen.out]; exact hn4)⟩
       have cd := HTz.out.x.arn.cell n f hf
       have cv : wr.cell? ⟨b_now, o_now + n, none⟩ = some (.int .u64 e) := (HBz.out.cell (lt_of_cell (W_now.out n e he))).trans (W_now.out n e he)
       have h_v : wr.cell? ⟨g_h, v, none⟩ = some (.int .u64 (hC v)) := h12_cell (row_below H_h.out HBz.out) Hv.out.2
       have hu3 : wr.cell? ⟨g_u, 3, none⟩ = some (.int .u8 vv) := by rw [row_cell (row_below H_u.out HBz.out)]; rfl
       have vI : (v : Int) < 12 := by have := Hv.out; omega
       have vI0 : (0 : Int) ≤ (v : Int) := by omega
       have v12 : decide ((12 : Int) ≤ (v : Int)) = false := decide_eq_false (by omega)
       have zh := lt_of_cell h_v
       have zu := lt_of_cell hu3
       have hnI : (n : Int) < 112 := by omega
       have hnI0 : (0 : Int) ≤ (n : Int) := by omega
       have hnB2 : decide ((n : Int) < 112) = true := decide_eq_true hnI
       have h8n : IntKind.i64.wrap (8 * (n : Int)) = 8 * (n : Int) := IntWalk.i64_in _ (by omega)
       have zv := lt_of_cell cv
       have HNn := Lib.hid (HNw.out n e f he hf)
       clear he hf
       obtain ⟨hx, Hhx⟩ : ∃ x, Hid (hC v = x) := ⟨_, Lib.hid rfl⟩
       rw [Hhx.out] at h_v HNn
       go_upto_region 28 with fail
       try simp only [Act.put]
       go_cut [196] from 151 to 196 (fun vv wx => vv = .bool false ∧ Below wr.heap.size wr wx)
       case first =>
        rcases HNn.out with ⟨hw, h⟩ | ⟨hw, h⟩
        ·rcases h with ⟨ha, hb⟩ | ⟨ha, hb⟩
         ·subst hw hb
          have a1 : (8 * (n : Int) == at_) = true := by simp; omega
          have a2 : decide (8 * (n : Int) = at_) = true := decide_eq_true (by omega)
          have a3 : (8 * (n : Int) != at_) = false := by simp; omega
          have ha' := Lib.hid ha
          clear ha HNn
          go_quiet (fail)
          go_wp2
          go_meet
          exact ⟨rfl, by first | exact below_drewN (Below.refl _ _) _ | exact Below.refl _ _⟩
         ·subst hw hb
          have a1 : (8 * (n : Int) == at_) = false := by simp; omega
          have a2 : decide (8 * (n : Int) = at_) = false := decide_eq_false (by omega)
          have a3 : (8 * (n : Int) != at_) = true := by simp; omega
          have ha' := Lib.hid ha
          clear ha HNn
          go_quiet (fail)
          go_wp2
          go_meet
          exact ⟨rfl, by first | exact below_drewN (Below.refl _ _) _ | exact Below.refl _ _⟩
        ·subst hw h
         clear HNn
         go_quiet (fail)
         go_wp2
         go_meet
         exact ⟨rfl, by first | exact below_drewN (Below.refl _ _) _ | exact Below.refl _ _⟩
       case rest =>
        obtain ⟨rfl, hb⟩ := hcut
        have HB4 := Lib.hid (hb.mono HBz.out.size |> HBz.out.trans)
        clear hb cd cv zv X_5 q_0 h_v hu3 vI vI0 v12 zh zu
        go_wp2_with fail
        go_roundw
        case rel => exact ⟨n + 1, by omega, by go_num, HB4.out⟩
        case measure => simp [intOf]; omega
      ·obtain rfl : n = 112 := by omega
       have B2 := below_only B.out HBz.out
       clear HBz hn4 hn HTz X_5 q_0 B
       go_wp2_with fail
       go_ret
       exact ⟨rfl, B2⟩
end Go.Proofs.YtnimaajnlkbdaaaGreat
