/- Layer 16: the walk of SlotsStale. (Printed.) -/
import Derived.Test.YtnimaajnlkbdaaaGreatMU
import Derived.Test.YtnimaajnlkbdaaaGreatMP
import Derived.Test.YtnimaajnlkbdaaaGreatWd16
import Derived.BigQuiet
namespace Go.Proofs.YtnimaajnlkbdaaaGreat
open Go.RowKit
set_option linter.unusedVariables false
set_option linter.unusedSimpArgs false

theorem infoUse16 : (Tryz.prog.info? 47).map (·.size) = some 6 := by kernel_rfl
theorem useOne (a b c d e f : Int) : (#[Value.int .u8 a, .int .u8 b, .int .u8 c, .int .u8 d, .int .i64 e, .int .i64 f].all (·.oneCell')) = true := by simp [Value.oneCell']
set_option maxRecDepth 100000 in
set_option maxHeartbeats 8000000 in
theorem slotsStale_walk (c0 c1 c2 c3 sl : Int) (w : World) (z0 : (Lit.int .u8 c0).wf = true) (z1 : (Lit.int .u8 c1).wf = true) (z2 : (Lit.int .u8 c2).wf = true) (z3 : (Lit.int .u8 c3).wf = true) (z4 : (Lit.int .i64 sl).wf = true) :
  Calls Tryz.prog 8 #[.agg #[.int .u8 c0, .int .u8 c1, .int .u8 c2, .int .u8 c3], .int .i64 sl] w fun r w' => r = .returned (.bool true) ∧ Below w.heap.size w w' := by
 have h0 := wf_u8 z0
 have h1 := wf_u8 z1
 have h2 := wf_u8 z2
 have h3 := wf_u8 z3
 have HSl := Lib.hid (wf_int z4)
 clear z0 z1 z2 z3 z4
 obtain ⟨iN, Hi⟩ : ∃ s : Nat, Hid (c0 % 6 + 3 = (s : Int) ∧ 3 ≤ s ∧ s < 9) := ⟨(c0 % 6 + 3).toNat, Lib.hid (by omega)⟩
 obtain ⟨jN, Hj⟩ : ∃ s : Nat, Hid (c1 % 3 = (s : Int) ∧ s < 3) := ⟨(c1 % 3).toNat, Lib.hid (by omega)⟩
 obtain ⟨aN, Ha⟩ : ∃ s : Nat, Hid (c1 % 2 = (s : Int) ∧ s < 2) := ⟨(c1 % 2).toNat, Lib.hid (by omega)⟩
 obtain ⟨kc, Hkc⟩ : ∃ s : Nat, Hid (c3 % 4 = (s : Int) ∧ s < 4) := ⟨(c3 % 4).toNat, Lib.hid (by omega)⟩
 obtain ⟨sN, HsN⟩ : ∃ s : Nat, Hid (iN / 3 = s ∧ 1 ≤ s ∧ s ≤ 2) := ⟨iN / 3, Lib.hid (by have := Hi.out; omega)⟩
 obtain ⟨e, He⟩ : ∃ e : Int, Hid (1 + c2 = e ∧ 1 ≤ e ∧ e ≤ 256) := ⟨_, Lib.hid ⟨rfl, by omega, by omega⟩⟩
 have w1 : IntKind.i64.wrap c1 = c1 := IntWalk.i64_in _ (by omega)
 have w2 : IntKind.i64.wrap c2 = c2 := IntWalk.i64_in _ (by omega)
 have wi : IntKind.i64.wrap (iN : Int) = (iN : Int) := IntWalk.i64_in _ (by have := Hi.out; omega)
 have e0 : c0.tmod 6 = (iN : Int) - 3 := by rw [Int.tmod_eq_emod_of_nonneg h0.1]; have := Hi.out.1; omega
 have e0b : IntKind.u8.wrap (3 + ((iN : Int) - 3)) = (iN : Int) := by rw [IntKind.wrap_u8]; have := Hi.out; omega
 have e1 : c1.tmod 3 = (jN : Int) := by rw [Int.tmod_eq_emod_of_nonneg h1.1]; exact Hj.out.1
 have e1b : c1.tmod 2 = (aN : Int) := by rw [Int.tmod_eq_emod_of_nonneg h1.1]; exact Ha.out.1
 have e3 : c3.tmod 4 = (kc : Int) := by rw [Int.tmod_eq_emod_of_nonneg h3.1]; exact Hkc.out.1
 have esN : ((iN : Int)).tdiv 3 = (sN : Int) := by rw [Int.tdiv_eq_ediv_of_nonneg (by omega)]; have := HsN.out; omega
 have snb : sN ≤ 2 := HsN.out.2.2
 have snw : IntKind.i64.wrap (sN : Int) = (sN : Int) := IntWalk.i64_in _ (by omega)
 obtain ⟨cst, cn, cp, cep, Hcc⟩ : ∃ cst cn cp cep : Int, Hid (c16 sN = ⟨cst, cn, cp, cep⟩ ∧ 0 ≤ cep ∧ cep ≤ 16) := by
  refine ⟨(c16 sN).st, (c16 sN).n, (c16 sN).p, (c16 sN).ep, Lib.hid ⟨rfl, ?_⟩⟩
  unfold c16
  rw [if_neg (by have := HsN.out; omega)]
  show 0 ≤ 5 * (sN : Int) ∧ 5 * (sN : Int) ≤ 16
  omega
 have hcp1 : IntKind.i64.wrap (cep + 1) = cep + 1 := IntWalk.i64_in _ (by have := Hcc.out; omega)
 have hcp2 : IntKind.i64.wrap (cep + 1 + c2) = cep + e := by rw [← He.out.1]; rw [show cep + 1 + c2 = cep + (1 + c2) by omega]; exact IntWalk.i64_in _ (by have := Hcc.out; have := He.out; omega)
 have Hc2 : Hid (0 ≤ c1 ∧ 0 ≤ c2) := Lib.hid ⟨h1.1, h2.1⟩
 have HOnR : Hid (Right ⟨cst, cn, cp, cep + e⟩) := Lib.hid (by have := on_right HsN.out.2 He.out.2; rw [Hcc.out.1] at this; exact this)
 clear h0 h1 h2 h3
 go_enter Tryz.func8, Tryz.ntmps8
 have B := Lib.hid (Below.refl w.heap.size w)
 go_upto_region 1 with fail
 refine one_row w _ _ ?_
 intro w0 hr hb
 have hlB := B.out.size
 have hsz := (hb).size
 replace B := Lib.hid (below_only B.out hb)
 clear hb hsz
 have H_c := Lib.hid (show w0.heap[w.heap.size]? = some (.cells #[.int .u8 c0, .int .u8 c1, .int .u8 c2, .int .u8 c3] 64 (0, 0)) from hr)
 clear hr
 obtain ⟨g_c, hg_c⟩ : ∃ x, x = w.heap.size := ⟨_, rfl⟩
 rw [← hg_c] at H_c ⊢
 have L_c : Hid (w.heap.size ≤ g_c) := Lib.hid (by omega)
 clear hg_c hlB
 go_wp2_with fail
 refine (shown16_any _).mono ?_
 rintro r w1 ⟨rfl, hb⟩
 have hsz := (hb).size
 replace H_c := Lib.hid (row_below H_c.out hb)
 replace B := Lib.hid (below_only B.out hb)
 clear hb hsz
 go_wp2_with fail
 refine (plan16_any _).mono ?_
 rintro r w1a ⟨rfl, hb⟩
 have hsz := (hb).size
 replace H_c := Lib.hid (row_below H_c.out hb)
 replace B := Lib.hid (below_only B.out hb)
 clear hb hsz
 go_upto_region 3 with fail
 refine one_row w1a _ _ ?_
 intro w2 hr hb
 have hlB := B.out.size
 have hl_c := lt_of_heap H_c.out
 have hsz := (hb).size
 replace H_c := Lib.hid (row_below H_c.out hb)
 replace B := Lib.hid (below_only B.out hb)
 clear hb hsz
 have H_p := Lib.hid (show w2.heap[w1a.heap.size]? = some (.cells #[.int .i64 4, .int .i64 2, .int .i64 128, .int .i64 512] 28 (0, 0)) from hr)
 clear hr
 obtain ⟨g_p, hg_p⟩ : ∃ x, x = w1a.heap.size := ⟨_, rfl⟩
 rw [← hg_p] at H_p ⊢
 have M_c_p : Hid (g_c ≠ g_p) := Lib.hid (by omega)
 have M_p_c : Hid (g_p ≠ g_c) := Lib.hid (by omega)
 clear hl_c
 have L_p : Hid (w.heap.size ≤ g_p) := Lib.hid (by omega)
 clear hg_p hlB
 go_wp2_with fail
 refine (laid_any _).mono ?_
 rintro r w3 ⟨p, b, X, q, d, rfl, hT, hb⟩
 have HT0 := Lib.hid hT
 have HBB := Lib.hid B.out.size
 clear hT
 obtain ⟨wl, hwl⟩ : ∃ x, x = w2.heap.size := ⟨_, rfl⟩
 have hl_c := lt_of_heap H_c.out
 have hl_p := lt_of_heap H_p.out
 rw [← hwl] at HT0 HBB hl_c hl_p
 have hsz := (hb).size
 replace H_c := Lib.hid (row_below H_c.out hb)
 replace H_p := Lib.hid (row_below H_p.out hb)
 replace B := Lib.hid (below_only B.out hb)
 clear hb hsz
 have N_c : Hid (g_c ∉ [p, b, X, q, d]) := Lib.hid (HT0.out.elder hl_c)
 clear hl_c
 have N_p : Hid (g_p ∉ [p, b, X, q, d]) := Lib.hid (HT0.out.elder hl_p)
 clear hl_p
 have HT : Hid (TwoW w.heap.size w3 p b X q d 4 2 128 512 (oW 9) (oW 9)) := Lib.hid { HT0.out with low := by have := HT0.out.low; have := HBB.out; omega }
 clear HT0 hwl HBB
 obtain ⟨WS, HWS⟩ : ∃ x, Hid (oW 9 = x) := ⟨_, Lib.hid rfl⟩
 have HLw : Hid (Lw c16 WS) := Lib.hid (by rw [← HWS.out]; exact laid_lw)
 rw [HWS.out] at HT
 go_upto_region 4 with (first | (refine allocTo16 rfl 32 rfl _ (allocH12 _) ?_; (try simp only [Act.put, List.setIfInBounds_toArray, List.set_cons_succ, List.set_cons_zero])) | (refine wpList_store_row rfl 32 (.tmp 9) (.tmp 29) rfl w3.heap.size (hAt 12) rfl rfl 32 (hAt 0) (row_new _ _ _) infoH12 rfl (hAt_one 12) ?_; (try simp only [Act.put, List.setIfInBounds_toArray, List.set_cons_succ, List.set_cons_zero])))
 refine alloc_set' w3 _ _ _ ?_
 intro w4 hr hb
 have hlB := B.out.size
 have hfr := HT.out.fresh (Nat.le_refl w3.heap.size)
 have hl_c := lt_of_heap H_c.out
 have hl_p := lt_of_heap H_p.out
 have hsz := (hb).size
 replace H_c := Lib.hid (row_below H_c.out hb)
 replace H_p := Lib.hid (row_below H_p.out hb)
 replace HT := Lib.hid (HT.out.below hb)
 replace B := Lib.hid (below_only B.out hb)
 clear hb hsz
 have H_h := Lib.hid (show w4.heap[w3.heap.size]? = some (.cells (hAt 12) 32 (0, 0)) from hr)
 clear hr
 obtain ⟨g_h, hg_h⟩ : ∃ x, x = w3.heap.size := ⟨_, rfl⟩
 rw [← hg_h] at H_h ⊢
 have N_h : Hid (g_h ∉ [p, b, X, q, d]) := Lib.hid (by rw [hg_h]; exact hfr)
 clear hfr
 have M_c_h : Hid (g_c ≠ g_h) := Lib.hid (by omega)
 have M_h_c : Hid (g_h ≠ g_c) := Lib.hid (by omega)
 clear hl_c
 have M_p_h : Hid (g_p ≠ g_h) := Lib.hid (by omega)
 have M_h_p : Hid (g_h ≠ g_p) := Lib.hid (by omega)
 clear hl_p
 have L_h : Hid (w.heap.size ≤ g_h) := Lib.hid (by omega)
 clear hg_h hlB
 obtain ⟨c_0, c_1, c_2, c_3, c_f0, c_f1, c_f2, c_f3⟩ := box4 H_c.out
 have z_c := lt_of_heap H_c.out
 obtain ⟨p_0, p_1, p_2, p_3, p_f0, p_f1, p_f2, p_f3⟩ := box4 H_p.out
 have z_p := lt_of_heap H_p.out
 go_wp2_with fail
 clear c_0 c_1 c_2 c_3 c_f0 c_f1 c_f2 c_f3 z_c p_0 p_1 p_2 p_3 p_f0 p_f1 p_f2 p_f3 z_p
 refine (foundCtl_any p b 4 2 128 512 WS (8 * sN) (sN : Int) (c16 sN) _ plan16_ok HT.out.a (c16_right _ (by omega)) (HLw.out.ctl _ (by omega)) (by omega) (by omega)).mono ?_
 rintro r w5 ⟨rfl, hb⟩
 rw [Hcc.out.1]
 have hsz := (hb).size
 replace H_c := Lib.hid (row_below H_c.out hb)
 replace H_p := Lib.hid (row_below H_p.out hb)
 replace H_h := Lib.hid (row_below H_h.out hb)
 replace HT := Lib.hid (HT.out.below hb)
 replace B := Lib.hid (below_only B.out hb)
 clear hb hsz
 go_upto_region 10 with fail
 refine one_row w5 _ _ ?_
 intro w6 hr hb
 have hlB := B.out.size
 have hfr := HT.out.fresh (Nat.le_refl w5.heap.size)
 have hl_c := lt_of_heap H_c.out
 have hl_p := lt_of_heap H_p.out
 have hl_h := lt_of_heap H_h.out
 have hsz := (hb).size
 replace H_c := Lib.hid (row_below H_c.out hb)
 replace H_p := Lib.hid (row_below H_p.out hb)
 replace H_h := Lib.hid (row_below H_h.out hb)
 replace HT := Lib.hid (HT.out.below hb)
 replace B := Lib.hid (below_only B.out hb)
 clear hb hsz
 have H_d := Lib.hid (show w6.heap[w5.heap.size]? = some (.cells #[.int .i64 cst, .int .i64 cn, .int .i64 cp, .int .i64 cep] 78 (0, 0)) from hr)
 clear hr
 obtain ⟨g_d, hg_d⟩ : ∃ x, x = w5.heap.size := ⟨_, rfl⟩
 rw [← hg_d] at H_d ⊢
 have N_d : Hid (g_d ∉ [p, b, X, q, d]) := Lib.hid (by rw [hg_d]; exact hfr)
 clear hfr
 have M_c_d : Hid (g_c ≠ g_d) := Lib.hid (by omega)
 have M_d_c : Hid (g_d ≠ g_c) := Lib.hid (by omega)
 clear hl_c
 have M_p_d : Hid (g_p ≠ g_d) := Lib.hid (by omega)
 have M_d_p : Hid (g_d ≠ g_p) := Lib.hid (by omega)
 clear hl_p
 have M_h_d : Hid (g_h ≠ g_d) := Lib.hid (by omega)
 have M_d_h : Hid (g_d ≠ g_h) := Lib.hid (by omega)
 clear hl_h
 have L_d : Hid (w.heap.size ≤ g_d) := Lib.hid (by omega)
 clear hg_d hlB
 obtain ⟨c_0, c_1, c_2, c_3, c_f0, c_f1, c_f2, c_f3⟩ := box4 H_c.out
 have z_c := lt_of_heap H_c.out
 obtain ⟨d_0, d_1, d_2, d_3, d_f0, d_f1, d_f2, d_f3⟩ := box4 H_d.out
 have z_d := lt_of_heap H_d.out
 go_upto_region 11 with fail
 clear c_0 c_1 c_2 c_3 c_f0 c_f1 c_f2 c_f3 z_c d_0 d_1 d_2 d_3 d_f0 d_f1 d_f2 d_f3 z_d
 refine set_oneR w6 g_d 3 (.int .i64 (cep + e)) _ _ H_d.out ?_
 intro w7 hr hK
 have hszK := hK.size
 replace hr : w7.heap[g_d]? = some (.cells #[.int .i64 cst, .int .i64 cn, .int .i64 cp, .int .i64 (cep + e)] 78 (0, 0)) := hr
 replace H_c := Lib.hid (hK.row H_c.out (by simpa using M_c_d.out))
 replace H_p := Lib.hid (hK.row H_p.out (by simpa using M_p_d.out))
 replace H_h := Lib.hid (hK.row H_h.out (by simpa using M_h_d.out))
 replace HT := Lib.hid (HT.out.kept hK (fun j hj => by simp only [List.mem_singleton] at hj; subst hj; exact N_d.out))
 replace B := Lib.hid (Keep.under B.out hK (by have := B.out.size; omega) (by simp; exact L_d.out))
 replace H_d := Lib.hid hr
 clear hr hK hszK
 obtain ⟨d_0, d_1, d_2, d_3, d_f0, d_f1, d_f2, d_f3⟩ := box4 H_d.out
 have z_d := lt_of_heap H_d.out
 go_wp2_with fail
 clear d_0 d_1 d_2 d_3 d_f0 d_f1 d_f2 d_f3 z_d
 refine (rpack_any cst cn cp (cep + e) _).mono ?_
 rintro r w8 ⟨rfl, hb⟩
 rw [pack_right HOnR.out]
 try dsimp only
 have hsz := (hb).size
 replace H_c := Lib.hid (row_below H_c.out hb)
 replace H_p := Lib.hid (row_below H_p.out hb)
 replace H_h := Lib.hid (row_below H_h.out hb)
 replace H_d := Lib.hid (row_below H_d.out hb)
 replace HT := Lib.hid (HT.out.below hb)
 replace B := Lib.hid (below_only B.out hb)
 clear hb hsz
 obtain ⟨cw, Hcw⟩ : ∃ x, Hid (word ⟨cst, cn, cp, cep + e⟩ = x) := ⟨_, Lib.hid rfl⟩
 rw [Hcw.out]
 have Hcwb : Hid (0 ≤ cw ∧ cw < 18446744073709551616) := Lib.hid (by rw [← Hcw.out]; exact word_bd HOnR.out)
 go_wp2_with fail
 refine (rplanAt_any 0 (sN : Int) _ (by decide) (by omega)).mono ?_
 rintro r wa ⟨rfl, e2⟩
 rw [e2, show 64 * (sN : Int) + 8 * 0 = ((8 * sN * 8 : Nat) : Int) by omega]
 clear e2 wa
 go_wp2_with fail
 refine (arnPut_any p b WS (8 * sN) (word (c16 sN)) cw _ HT.out.a (HLw.out.ctl _ (by omega)) Hcwb.out).mono ?_
 rintro r w9 ⟨rfl, hA, hK⟩
 have hszK := hK.size
 replace H_c := Lib.hid (hK.row H_c.out (by simpa using (HT.out.nb N_c.out).1))
 replace H_p := Lib.hid (hK.row H_p.out (by simpa using (HT.out.nb N_p.out).1))
 replace H_h := Lib.hid (hK.row H_h.out (by simpa using (HT.out.nb N_h.out).1))
 replace H_d := Lib.hid (hK.row H_d.out (by simpa using (HT.out.nb N_d.out).1))
 replace B := Lib.hid (HT.out.under B.out hK (by simp))
 replace HT := Lib.hid (HT.out.onA hA hK)
 clear hA hK hszK
 obtain ⟨WN, HWN⟩ : ∃ x, Hid (WS.set (8 * sN) cw = x) := ⟨_, Lib.hid rfl⟩
 rw [HWN.out] at HT
 obtain ⟨CN, HCN⟩ : ∃ x, Hid (onC sN e = x) := ⟨_, Lib.hid rfl⟩
 have HLn : Hid (Lw CN WN) := Lib.hid (by rw [← HCN.out, ← HWN.out, ← Hcw.out]; have := on_lw HLw.out HsN.out.2 He.out.2; rw [Hcc.out.1] at this; exact this)
 have HLen : Hid (WN.length = 112) := Lib.hid HLn.out.len
 go_wp2_with fail
 have hl_c := lt_of_heap H_c.out
 have hl_p := lt_of_heap H_p.out
 have hl_h := lt_of_heap H_h.out
 have hl_d := lt_of_heap H_d.out
 have hfr := fun g h => HT.out.fresh (g := g) h
 refine (wordsL_any p b _ _ HT.out.a (by rw [HLen.out]; decide)).mono ?_
 rintro r w10 ⟨b_was, o_was, c_was, rfl, hW, hnw, hlb, hb⟩
 rw [HLen.out]
 have G_was : Hid (b_was ∉ [p, b, X, q, d]) := Lib.hid (hfr _ hnw)
 clear hfr
 have M_was_c : Hid (b_was ≠ g_c) := Lib.hid (by omega)
 clear hl_c
 have M_was_p : Hid (b_was ≠ g_p) := Lib.hid (by omega)
 clear hl_p
 have M_was_h : Hid (b_was ≠ g_h) := Lib.hid (by omega)
 clear hl_h
 have M_was_d : Hid (b_was ≠ g_d) := Lib.hid (by omega)
 clear hl_d
 clear hnw
 have hsz := (hb).size
 replace H_c := Lib.hid (row_below H_c.out hb)
 replace H_p := Lib.hid (row_below H_p.out hb)
 replace H_h := Lib.hid (row_below H_h.out hb)
 replace H_d := Lib.hid (row_below H_d.out hb)
 replace HT := Lib.hid (HT.out.below hb)
 replace B := Lib.hid (below_only B.out hb)
 clear hb hsz
 have W_was : Hid (∀ (jj : Nat) x, WN[jj]? = some x → w10.cell? ⟨b_was, o_was + jj, none⟩ = some (.int .u64 x)) := Lib.hid hW
 have Z_was : Hid (b_was < w10.heap.size) := Lib.hid hlb
 clear hW hlb
 go_upto_region 15 with fail
 refine one_row w10 _ _ ?_
 intro w11 hr hb
 have hlB := B.out.size
 have hfr := HT.out.fresh (Nat.le_refl w10.heap.size)
 have hl_c := lt_of_heap H_c.out
 have hl_p := lt_of_heap H_p.out
 have hl_h := lt_of_heap H_h.out
 have hl_was := Z_was.out
 have hsz := (hb).size
 replace H_c := Lib.hid (row_below H_c.out hb)
 replace H_p := Lib.hid (row_below H_p.out hb)
 replace H_h := Lib.hid (row_below H_h.out hb)
 replace W_was := Lib.hid (fun n x hx => (hb.cell (lt_of_cell (W_was.out n x hx))).trans (W_was.out n x hx))
 replace Z_was := Lib.hid (Nat.lt_of_lt_of_le Z_was.out hsz)
 replace HT := Lib.hid (HT.out.below hb)
 replace B := Lib.hid (below_only B.out hb)
 clear hb hsz
 have H_u := Lib.hid (show w11.heap[w10.heap.size]? = some (.cells #[.int .u8 1, .int .u8 2, .int .u8 6, .int .u8 (iN : Int), .int .i64 0, .int .i64 0] 47 (0, 0)) from hr)
 clear hr
 obtain ⟨g_u, hg_u⟩ : ∃ x, x = w10.heap.size := ⟨_, rfl⟩
 rw [← hg_u] at H_u ⊢
 have N_u : Hid (g_u ∉ [p, b, X, q, d]) := Lib.hid (by rw [hg_u]; exact hfr)
 clear hfr
 have M_c_u : Hid (g_c ≠ g_u) := Lib.hid (by omega)
 have M_u_c : Hid (g_u ≠ g_c) := Lib.hid (by omega)
 clear hl_c
 have M_p_u : Hid (g_p ≠ g_u) := Lib.hid (by omega)
 have M_u_p : Hid (g_u ≠ g_p) := Lib.hid (by omega)
 clear hl_p
 have M_h_u : Hid (g_h ≠ g_u) := Lib.hid (by omega)
 have M_u_h : Hid (g_u ≠ g_h) := Lib.hid (by omega)
 clear hl_h
 have M_was_u : Hid (b_was ≠ g_u) := Lib.hid (by omega)
 have M_u_was : Hid (g_u ≠ b_was) := Lib.hid (by omega)
 clear hl_was
 have L_u : Hid (w.heap.size ≤ g_u) := Lib.hid (by omega)
 clear hg_u hlB
 obtain ⟨jH, HjH⟩ : ∃ x : Nat, Hid ((sN = 2 ∧ x = 3) ∨ (¬ sN = 2 ∧ x = 6)) := by
  by_cases h : sN = 2
  ·exact ⟨3, Lib.hid (.inl ⟨h, rfl⟩)⟩
  ·exact ⟨6, Lib.hid (.inr ⟨h, rfl⟩)⟩
 go_upto_if 76 with fail
 try simp only [Act.put]
 go_cut [] from 75 to 77 (fun wx => wx.heap[g_u]? = some (.cells #[.int .u8 1, .int .u8 2, .int .u8 (jH : Int), .int .u8 (iN : Int), .int .i64 0, .int .i64 0] 47 (0, 0)) ∧ Keep [g_u] w11 wx)
 case first =>
  obtain ⟨u_0, u_1, u_2, u_3, u_4, u_5⟩ := box6 H_u.out
  have z_u := lt_of_heap H_u.out
  have fu2 : w11.frozen? ⟨g_u, 2, none⟩ = false := row_frozen H_u.out 2
  by_cases hs2 : sN = 2
  ·skip
   have b1 : decide (sN = 2) = true := decide_eq_true hs2
   have Hj3 : Hid (jH = 3) := Lib.hid (by have := HjH.out; omega)
   have b2 : ((sN : Int) == 2) = true := by simp; omega
   have b3 : decide ((sN : Int) = 2) = true := decide_eq_true (by omega)
   clear hs2
   go_wp2_with fail
   go_meet
   exact ⟨by rw [Hj3.out]; exact row_set H_u.out (.int .u8 3), (Keep.refl [g_u] w11).setCell (p := ⟨g_u, 2, none⟩) (.inl (by simp)) _⟩
  ·skip
   have b1 : decide (sN = 2) = false := decide_eq_false hs2
   have Hj6 : Hid (jH = 6) := Lib.hid (by have := HjH.out; omega)
   have b2 : ((sN : Int) == 2) = false := by simp; omega
   have b3 : decide ((sN : Int) = 2) = false := decide_eq_false (by omega)
   clear hs2
   go_wp2_with fail
   go_meet
   exact ⟨by rw [Hj6.out]; exact H_u.out, Keep.refl _ _⟩
 case rest =>
  obtain ⟨hr, hK⟩ := hcut
  obtain ⟨w12, hwx⟩ : ∃ x, x = wc := ⟨_, rfl⟩
  subst hwx
  have hszK := hK.size
  replace H_c := Lib.hid (hK.row H_c.out (by simpa using M_c_u.out))
  replace H_p := Lib.hid (hK.row H_p.out (by simpa using M_p_u.out))
  replace H_h := Lib.hid (hK.row H_h.out (by simpa using M_h_u.out))
  replace W_was := Lib.hid (fun n x hx => hK.cell (W_was.out n x hx) (by simpa using M_was_u.out))
  replace Z_was := Lib.hid (Nat.lt_of_lt_of_le Z_was.out hszK)
  replace HT := Lib.hid (HT.out.kept hK (fun j hj => by simp only [List.mem_singleton] at hj; subst hj; exact N_u.out))
  replace B := Lib.hid (Keep.under B.out hK (by have := B.out.size; omega) (by simp; exact L_u.out))
  replace H_u := Lib.hid hr
  clear hr hK hszK
  obtain ⟨c_0, c_1, c_2, c_3, c_f0, c_f1, c_f2, c_f3⟩ := box4 H_c.out
  have z_c := lt_of_heap H_c.out
  go_upto_block 0 with fail
  clear c_0 c_1 c_2 c_3 c_f0 c_f1 c_f2 c_f3 z_c
  try simp only [Act.put]
  go_cut [] from 81 to 100 (fun wx => ∃ (k j v : Nat) (a b : Int), StaleOk CN k j v a b ∧ (-9223372036854775808 ≤ b ∧ b ≤ 9223372036854775807) ∧ wx.heap[g_u]? = some (.cells #[.int .u8 (k : Int), .int .u8 2, .int .u8 (j : Int), .int .u8 (v : Int), .int .i64 b, .int .i64 a] 47 (0, 0)) ∧ Keep [g_u] w12 wx)
  case first =>
   have hst : ∀ x, x < 9 → x / 3 = sN → ¬ (CN (sC x)).ep = eC x := fun x h1 h2 => by rw [← HCN.out]; exact on_stale h1 h2 He.out.2.1
   have hfr : ∀ x, x < 9 → ¬ x / 3 = sN → (CN (sC x)).ep = eC x := fun x h1 h2 => by rw [← HCN.out]; exact on_fresh h1 h2
   have HSt := Lib.hid hst
   have HFr := Lib.hid hfr
   clear hst hfr
   obtain ⟨u_0, u_1, u_2, u_3, u_4, u_5⟩ := box6 H_u.out
   have z_u := lt_of_heap H_u.out
   obtain ⟨c_0, c_1, c_2, c_3, c_f0, c_f1, c_f2, c_f3⟩ := box4 H_c.out
   have z_c := lt_of_heap H_c.out
   obtain rfl | rfl | rfl | rfl : kc = 0 ∨ kc = 1 ∨ kc = 2 ∨ kc = 3 := by have := Hkc.out; omega
   ·skip
    have e3 : c3.tmod 4 = 0 := e3
    go_wp2_with (refine wpList_store_row rfl 47 (.tmp 18) (.tmp 85) rfl g_u #[.int .u8 0, .int .u8 2, .int .u8 (iN : Int), .int .u8 0, .int .i64 sl, .int .i64 0] rfl rfl 47 _ H_u.out infoUse16 rfl (useOne _ _ _ _ _ _) ?_; (try simp only [Act.put, List.setIfInBounds_toArray, List.set_cons_succ, List.set_cons_zero]))
    go_meet
    exact ⟨0, iN, 0, 0, sl, ⟨by rw [stale_at (by decide) (by have := Hi.out; omega) (HSt.out iN (by have := Hi.out; omega) HsN.out.1)], ⟨by have := Hi.out; omega, by decide, by decide⟩, by decide⟩, HSl.out, setRow_heap _ _ _ _ _ _ H_u.out, (Keep.refl [g_u] w12).setRow (.inl (by simp)) _⟩
   ·skip
    have e3 : c3.tmod 4 = 1 := e3
    go_wp2_with (refine wpList_store_row rfl 47 (.tmp 18) (.tmp 91) rfl g_u #[.int .u8 1, .int .u8 2, .int .u8 (iN : Int), .int .u8 (jN : Int), .int .i64 sl, .int .i64 0] rfl rfl 47 _ H_u.out infoUse16 rfl (useOne _ _ _ _ _ _) ?_; (try simp only [Act.put, List.setIfInBounds_toArray, List.set_cons_succ, List.set_cons_zero]))
    go_meet
    exact ⟨1, iN, jN, 0, sl, ⟨by rw [stale_at (by decide) (by have := Hi.out; omega) (HSt.out iN (by have := Hi.out; omega) HsN.out.1)], ⟨by have := Hi.out; omega, by have := Hj.out; omega, by decide⟩, by decide⟩, HSl.out, setRow_heap _ _ _ _ _ _ H_u.out, (Keep.refl [g_u] w12).setRow (.inl (by simp)) _⟩
   ·skip
    have e3 : c3.tmod 4 = 2 := e3
    have wa : IntKind.i64.wrap (1 + (aN : Int)) = 1 + (aN : Int) := IntWalk.i64_in _ (by have := Ha.out; omega)
    go_wp2_with (refine wpList_store_row rfl 47 (.tmp 18) (.tmp 100) rfl g_u #[.int .u8 3, .int .u8 2, .int .u8 0, .int .u8 (iN : Int), .int .i64 0, .int .i64 ((1 : Int) + (aN : Int))] rfl rfl 47 _ H_u.out infoUse16 rfl (useOne _ _ _ _ _ _) ?_; (try simp only [Act.put, List.setIfInBounds_toArray, List.set_cons_succ, List.set_cons_zero]))
    go_meet
    exact ⟨3, 0, iN, 1 + (aN : Int), 0, ⟨by rw [stale_gate (by have := Hi.out; omega) (by have := Ha.out; omega) (HSt.out iN (by have := Hi.out; omega) HsN.out.1)], ⟨by decide, by have := Hi.out; omega, by decide⟩, by have := Ha.out; omega⟩, by decide, setRow_heap _ _ _ _ _ _ H_u.out, (Keep.refl [g_u] w12).setRow (.inl (by simp)) _⟩
   ·skip
    have e3 : c3.tmod 4 = 3 := e3
    go_wp2_with fail
    go_meet
    exact ⟨1, jH, iN, 0, 0, ⟨by rw [stale_val (by have := HjH.out; omega) (by have := Hi.out; omega) (HFr.out jH (by have := HjH.out; omega) (by have := HjH.out; omega)) (HSt.out iN (by have := Hi.out; omega) HsN.out.1)], ⟨by have := HjH.out; omega, by have := Hi.out; omega, by decide⟩, by decide⟩, by decide, H_u.out, (Keep.refl [g_u] w12)⟩
  case rest =>
   obtain ⟨k, j, v, a, bb, hSO, hbb, hr, hK⟩ := hcut
   obtain ⟨w13, hwx⟩ : ∃ x, x = wc := ⟨_, rfl⟩
   subst hwx
   have HSO := Lib.hid hSO
   have Hbb := Lib.hid hbb
   clear hSO hbb
   have hszK := hK.size
   replace H_c := Lib.hid (hK.row H_c.out (by simpa using M_c_u.out))
   replace H_p := Lib.hid (hK.row H_p.out (by simpa using M_p_u.out))
   replace H_h := Lib.hid (hK.row H_h.out (by simpa using M_h_u.out))
   replace W_was := Lib.hid (fun n x hx => hK.cell (W_was.out n x hx) (by simpa using M_was_u.out))
   replace Z_was := Lib.hid (Nat.lt_of_lt_of_le Z_was.out hszK)
   replace HT := Lib.hid (HT.out.kept hK (fun j hj => by simp only [List.mem_singleton] at hj; subst hj; exact N_u.out))
   replace B := Lib.hid (Keep.under B.out hK (by have := B.out.size; omega) (by simp; exact L_u.out))
   replace H_u := Lib.hid hr
   clear hr hK hszK
   have HMJr : Hid ((2 : Nat) < 3 ∧ j < 12 ∧ v < 12 ∧ k < 4) := Lib.hid (by have := HSO.out.lt; omega)
   obtain ⟨u_0, u_1, u_2, u_3, u_4, u_5⟩ := box6 H_u.out
   have z_u := lt_of_heap H_u.out
   obtain ⟨p_0, p_1, p_2, p_3, p_f0, p_f1, p_f2, p_f3⟩ := box4 H_p.out
   have z_p := lt_of_heap H_p.out
   go_wp2_with (first | (refine wpList_load_row rfl 32 (.tmp 9) rfl g_h rfl 32 (hAt 12) (0, 0) _ H_h.out undH12 rfl infoH12 ?_; (try simp only [Act.put, List.setIfInBounds_toArray, List.set_cons_succ, List.set_cons_zero])))
   clear u_0 u_1 u_2 u_3 u_4 u_5 z_u p_0 p_1 p_2 p_3 p_f0 p_f1 p_f2 p_f3 z_p
   refine (call16_any (k : Int) 2 (j : Int) (v : Int) bb a k 2 j v _ (by have := HSO.out.lt; omega) (by decide) (by have := HSO.out.lt; omega) (by have := HSO.out.lt; omega) HSO.out.a Hbb.out (by have := HSO.out.lt; omega) rfl (by have := HSO.out.lt; omega) (by have := HSO.out.lt; omega)).mono ?_
   rintro r w14a ⟨kcr, cAr, hkc, rfl, hE, hEn, hb⟩
   have HKCr := Lib.hid hkc
   clear hkc
   have HLenr : Hid ((chE16 2).length = 2) := Lib.hid (chE16_len (by have := HMJr.out; omega))
   have hEl : ∀ z, 0 < (chE16 2).length → cAr = some z → w13.heap.size ≤ z.block := fun z h0 hz => hEn z (by rw [HLenr.out] at h0; exact h0) hz
   clear hEn
   have F_cr : Hid (∀ z, 0 < (chE16 2).length → cAr = some z → z.block ∉ [p, b, X, q, d]) := Lib.hid (fun z h0 hz => HT.out.fresh (hEl z h0 hz))
   have F_cr_c : Hid (∀ z, 0 < (chE16 2).length → cAr = some z → z.block ≠ g_c) := Lib.hid (fun z h0 hz => by have := hEl z h0 hz; have := lt_of_heap H_c.out; omega)
   have F_cr_p : Hid (∀ z, 0 < (chE16 2).length → cAr = some z → z.block ≠ g_p) := Lib.hid (fun z h0 hz => by have := hEl z h0 hz; have := lt_of_heap H_p.out; omega)
   have F_cr_h : Hid (∀ z, 0 < (chE16 2).length → cAr = some z → z.block ≠ g_h) := Lib.hid (fun z h0 hz => by have := hEl z h0 hz; have := lt_of_heap H_h.out; omega)
   have F_cr_u : Hid (∀ z, 0 < (chE16 2).length → cAr = some z → z.block ≠ g_u) := Lib.hid (fun z h0 hz => by have := hEl z h0 hz; have := lt_of_heap H_u.out; omega)
   have hE0 := Lib.hid hE
   clear hE hEl
   have hsz := (hb).size
   replace H_c := Lib.hid (row_below H_c.out hb)
   replace H_p := Lib.hid (row_below H_p.out hb)
   replace H_h := Lib.hid (row_below H_h.out hb)
   replace H_u := Lib.hid (row_below H_u.out hb)
   replace W_was := Lib.hid (fun n x hx => (hb.cell (lt_of_cell (W_was.out n x hx))).trans (W_was.out n x hx))
   replace Z_was := Lib.hid (Nat.lt_of_lt_of_le Z_was.out hsz)
   replace HT := Lib.hid (HT.out.below hb)
   replace B := Lib.hid (below_only B.out hb)
   clear hb hsz
   have E_cr := hE0
   clear hE0
   go_upto_region 25 with (first | refine wpList_store_row rfl 43 (.tmp 19) (.tmp 104) rfl w14a.heap.size (beg16k 2 j v k a bb ⟨cAr, 2, kcr⟩).arr rfl rfl 43 ZRun (row_new _ _ _) infoRun rfl (Rn.one _) ?_; (try simp only [Act.put, List.setIfInBounds_toArray, List.set_cons_succ, List.set_cons_zero]))
   refine alloc_set' w14a _ _ _ ?_
   intro w14 hr hb
   have hlB := B.out.size
   have hfr := HT.out.fresh (Nat.le_refl w14a.heap.size)
   have hl_c := lt_of_heap H_c.out
   have hl_p := lt_of_heap H_p.out
   have hl_h := lt_of_heap H_h.out
   have hl_u := lt_of_heap H_u.out
   have hl_was := Z_was.out
   have hf_cr := ents_far E_cr.out (Nat.le_refl w14a.heap.size)
   have hsz := (hb).size
   replace H_c := Lib.hid (row_below H_c.out hb)
   replace H_p := Lib.hid (row_below H_p.out hb)
   replace H_h := Lib.hid (row_below H_h.out hb)
   replace H_u := Lib.hid (row_below H_u.out hb)
   replace W_was := Lib.hid (fun n x hx => (hb.cell (lt_of_cell (W_was.out n x hx))).trans (W_was.out n x hx))
   replace Z_was := Lib.hid (Nat.lt_of_lt_of_le Z_was.out hsz)
   replace E_cr := Lib.hid (Ents.below E_cr.out hb)
   replace HT := Lib.hid (HT.out.below hb)
   replace B := Lib.hid (below_only B.out hb)
   clear hb hsz
   have H_r := Lib.hid (show w14.heap[w14a.heap.size]? = some (.cells (beg16k 2 j v k a bb ⟨cAr, 2, kcr⟩).arr 43 (0, 0)) from hr)
   clear hr
   obtain ⟨g_r, hg_r⟩ : ∃ x, x = w14a.heap.size := ⟨_, rfl⟩
   rw [← hg_r] at H_r ⊢
   have N_r : Hid (g_r ∉ [p, b, X, q, d]) := Lib.hid (by rw [hg_r]; exact hfr)
   clear hfr
   have M_c_r : Hid (g_c ≠ g_r) := Lib.hid (by omega)
   have M_r_c : Hid (g_r ≠ g_c) := Lib.hid (by omega)
   clear hl_c
   have M_p_r : Hid (g_p ≠ g_r) := Lib.hid (by omega)
   have M_r_p : Hid (g_r ≠ g_p) := Lib.hid (by omega)
   clear hl_p
   have M_h_r : Hid (g_h ≠ g_r) := Lib.hid (by omega)
   have M_r_h : Hid (g_r ≠ g_h) := Lib.hid (by omega)
   clear hl_h
   have M_u_r : Hid (g_u ≠ g_r) := Lib.hid (by omega)
   have M_r_u : Hid (g_r ≠ g_u) := Lib.hid (by omega)
   clear hl_u
   have M_was_r : Hid (b_was ≠ g_r) := Lib.hid (by omega)
   have M_r_was : Hid (g_r ≠ b_was) := Lib.hid (by omega)
   clear hl_was
   have F_cr_r : Hid (∀ z, 0 < ((chE16 2) : List Ent).length → cAr = some z → z.block ≠ g_r) := Lib.hid (by rw [hg_r]; exact hf_cr)
   clear hf_cr
   have L_r : Hid (w.heap.size ≤ g_r) := Lib.hid (by omega)
   clear hg_r hlB
   obtain ⟨nr, hN1, hN2, hN3, hN4, hRun⟩ := beg16_run (C := CN) (ws := WN) (m := 2) (j := j) (v := v) (k := k) (a := a) (b := bb) (ch := ⟨cAr, 2, kcr⟩) HLn.out (by have := HMJr.out; omega) (by have := HMJr.out; omega) (by have := HMJr.out; omega) (by have := HMJr.out; omega) (by have := HSO.out.lt; omega) (by have := HSO.out.lt; omega)
   have HN_r := Lib.hid (And.intro hN1 (And.intro hN2 (And.intro hN3 hN4)))
   obtain ⟨r0r, Hr0r⟩ : ∃ x : Rn, Hid ((beg16k 2 j v k a bb ⟨cAr, 2, kcr⟩) = x) := ⟨_, Lib.hid rfl⟩
   have HChr : Hid (r0r.chain = ⟨cAr, 2, kcr⟩) := Lib.hid (by rw [← Hr0r.out]; rfl)
   rw [Hr0r.out] at H_r hRun
   have HRunr := Lib.hid hRun
   clear hN1 hN2 hN3 hN4 hRun
   obtain ⟨cr, Hcr⟩ : ∃ x, Hid (verd CN 2 j v k a bb = x) := ⟨_, Lib.hid rfl⟩
   rw [Hcr.out] at HN_r HRunr
   obtain ⟨xr, Hxr⟩ : ∃ x, Hid (endX WN j (cal16k k a bb) cr = x) := ⟨_, Lib.hid rfl⟩
   obtain ⟨wfr, Hwfr⟩ : ∃ x, Hid (endW WN j v (cal16k k a bb) cr = x) := ⟨_, Lib.hid rfl⟩
   rw [Hxr.out, Hwfr.out] at HRunr
   have HBNr : Hid (nr ≤ 5) := Lib.hid (Nat.le_trans HN_r.out.1 (bnd16_le _))
   have Hc19 : Hid (cr = 19) := Lib.hid (by rw [← Hcr.out]; exact HSO.out.code)
   have HN0 : Hid (nr ≠ 0) := Lib.hid (fun e => by
    have h1 := (HN_r.out.2.2.2).1 e
    have h2 : verd CN 2 j v k a bb = (begS 2 j v k a).1 := by unfold verd; rw [if_pos h1]
    rw [Hcr.out, Hc19.out] at h2
    exact begS_not h2.symm)
   have HX0 : Hid (xr = 0 ∧ wfr = WN) := Lib.hid (by rw [← Hxr.out, ← Hwfr.out, Hc19.out]; unfold endX endW; exact ⟨if_neg (by simp), if_neg (by simp)⟩)
   go_wp2_with fail
   go_loopw [20] (fun tt wr => ∃ (i : Nat) (rr : Rn) (wn : List Int), tt = .int .i64 i ∧ i ≤ 6 ∧ Run16 CN (chE16 2) j v WN cr xr wfr nr i rr wn ∧ rr.chain = ⟨cAr, 2, kcr⟩ ∧ wr.heap[g_c]? = some (.cells #[.int .u8 c0, .int .u8 c1, .int .u8 c2, .int .u8 c3] 64 (0, 0)) ∧ wr.heap[g_p]? = some (.cells #[.int .i64 4, .int .i64 2, .int .i64 128, .int .i64 512] 28 (0, 0)) ∧ wr.heap[g_h]? = some (.cells (hAt 12) 32 (0, 0)) ∧ wr.heap[g_u]? = some (.cells #[.int .u8 (k : Int), .int .u8 2, .int .u8 (j : Int), .int .u8 (v : Int), .int .i64 bb, .int .i64 a] 47 (0, 0)) ∧ wr.heap[g_r]? = some (.cells rr.arr 43 (0, 0)) ∧ (∀ (jj : Nat) x, WN[jj]? = some x → wr.cell? ⟨b_was, o_was + jj, none⟩ = some (.int .u64 x)) ∧ b_was < wr.heap.size ∧ Ents wr cAr (chE16 2) ∧ TwoW w.heap.size wr p b X q d 4 2 128 512 wn WS ∧ Below w.heap.size w wr) (fun t _ => (6 - intOf t).toNat)
   case atStart => exact ⟨0, r0r, _, rfl, by omega, HRunr.out, HChr.out, H_c.out, H_p.out, H_h.out, H_u.out, H_r.out, W_was.out, Z_was.out, E_cr.out, HT.out, B.out⟩
   case round =>
    clear H_c H_p H_h H_u H_r W_was Z_was E_cr HT B HRunr HChr
    obtain ⟨i, rr, wn, rfl, hi6, hRun, hCh, hrel⟩ := hrel
    have HRun := Lib.hid hRun
    have HChr := Lib.hid hCh
    clear hRun hCh
    obtain ⟨hq_H_c, hq_H_p, hq_H_h, hq_H_u, hq_H_r, hq_W_was, hq_Z_was, hq_E_cr, hq_HT, hq_B⟩ := hrel
    replace H_c := Lib.hid hq_H_c
    replace H_p := Lib.hid hq_H_p
    replace H_h := Lib.hid hq_H_h
    replace H_u := Lib.hid hq_H_u
    replace H_r := Lib.hid hq_H_r
    replace W_was := Lib.hid hq_W_was
    replace Z_was := Lib.hid hq_Z_was
    replace E_cr := Lib.hid hq_E_cr
    replace HT := Lib.hid hq_HT
    replace B := Lib.hid hq_B
    clear hq_H_c hq_H_p hq_H_h hq_H_u hq_H_r hq_W_was hq_Z_was hq_E_cr hq_HT hq_B
    go_upto_region 26 with fail
    try simp only [Act.put]
    go_cut [116] from 105 to 116 (fun vv wx => vv = .bool (decide (i < nr)) ∧ wr = wx)
    case first =>
     by_cases hiN : i < nr
     ·skip
      have hq := run16_on HRun.out hiN
      have hpcq := hq.1.pc
      have HPq := Lib.hid hq.1.done
      clear hq
      have e0 : decide (rr.pc = 0) = false := decide_eq_false (by omega)
      have e1 : (rr.pc == 0) = false := by simp; omega
      have e2 : (rr.pc != 0) = true := by simp; omega
      have HDq : Hid (decide (i < nr) = true) := Lib.hid (decide_eq_true hiN)
      have hlimI : (i : Int) < 6 := by have := HN_r.out.1; have := HBNr.out; omega
      have hlimB : decide ((i : Int) < 6) = true := decide_eq_true hlimI
      have r_21 : wr.cell? ⟨g_r, 21, none⟩ = some (.bool false) := by rw [row_cell H_r.out]; rw [← HPq.out]; rfl
      have r_7 : wr.cell? ⟨g_r, 7, none⟩ = some (.int .i64 rr.pc) := by rw [row_cell H_r.out]; rfl
      have z_r := lt_of_heap H_r.out
      clear hpcq
      go_wp2_with fail
      go_meet
      exact ⟨by rw [HDq.out], rfl⟩
     ·skip
      obtain ⟨hiE, hq1, hq2, hq3, hq⟩ := run16_end HRun.out hiN
      clear hq1 hq2 hq3
      have HDq : Hid (decide (i < nr) = false) := Lib.hid (decide_eq_false hiN)
      have hlimI : (i : Int) < 6 := by have := HN_r.out.1; have := HBNr.out; omega
      have hlimB : decide ((i : Int) < 6) = true := decide_eq_true hlimI
      clear hiE
      rcases hq with ⟨hd, _, _⟩ | ⟨hd, hp0, _⟩
      ·skip
       have HPq := Lib.hid hd
       clear hd
       have r_21 : wr.cell? ⟨g_r, 21, none⟩ = some (.bool true) := by rw [row_cell H_r.out]; rw [← HPq.out]; rfl
       have z_r := lt_of_heap H_r.out
       go_wp2_with fail
       go_meet
       exact ⟨by rw [HDq.out], rfl⟩
      ·skip
       have HPq := Lib.hid (And.intro hd hp0)
       clear hd hp0
       have r_21 : wr.cell? ⟨g_r, 21, none⟩ = some (.bool false) := by rw [row_cell H_r.out]; rw [← HPq.out.1]; rfl
       have r_7 : wr.cell? ⟨g_r, 7, none⟩ = some (.int .i64 0) := by rw [row_cell H_r.out]; rw [← HPq.out.2]; rfl
       have z_r := lt_of_heap H_r.out
       go_wp2_with fail
       go_meet
       exact ⟨by rw [HDq.out], rfl⟩
    case rest =>
     obtain ⟨rfl, hwx⟩ := hcut
     subst hwx
     by_cases hiN : i < nr
     ·skip
      rw [decide_eq_true hiN]
      obtain ⟨hI, hwn, hnext⟩ := run16_on HRun.out hiN
      rw [hwn] at HT
      clear hwn
      have HI := Lib.hid hI
      have Hnext := Lib.hid hnext
      have HiN : Hid (i + 1 ≤ 6) := Lib.hid (by have := HBNr.out; have := HN_r.out.1; omega)
      clear hI hnext hiN HRun
      obtain ⟨p_0, p_1, p_2, p_3, p_f0, p_f1, p_f2, p_f3⟩ := box4 H_p.out
      have z_p := lt_of_heap H_p.out
      go_wp2_with (first | (refine wpList_load_row rfl 43 (.tmp 19) rfl g_r rfl 43 rr.arr (0, 0) _ H_r.out undRun rfl infoRun ?_; (try simp only [Act.put, List.setIfInBounds_toArray, List.set_cons_succ, List.set_cons_zero])))
      clear p_0 p_1 p_2 p_3 p_f0 p_f1 p_f2 p_f3 z_p
      refine (slStep_any CN (chE16 2) j v p b WN rr _ HT.out.a HLn.out HI.out (by rw [HLenr.out]; have := HMJr.out; omega) (by rw [HChr.out, HLenr.out]) (by rw [HChr.out, HLenr.out]; exact HKCr.out) (by rw [HChr.out]; exact E_cr.out)).mono ?_
      rintro r y5 ⟨rfl, hA, hK⟩
      obtain ⟨R2, HR2⟩ : ∃ R, Hid (slR CN (chE16 2) WN j v rr = R) := ⟨_, Lib.hid rfl⟩
      obtain ⟨W2, HW2⟩ : ∃ R, Hid (slW WN rr = R) := ⟨_, Lib.hid rfl⟩
      rw [HR2.out]
      rw [HR2.out, HW2.out] at Hnext
      rw [HW2.out] at hA
      have HCh2 : Hid (R2.chain = ⟨cAr, 2, kcr⟩) := Lib.hid (by rw [← HR2.out, (sl_stays HI.out).1]; exact HChr.out)
      clear HR2 HW2 HI HChr
      have hszK := hK.size
      replace H_c := Lib.hid (hK.row H_c.out (by simpa using (HT.out.nb N_c.out).1))
      replace H_p := Lib.hid (hK.row H_p.out (by simpa using (HT.out.nb N_p.out).1))
      replace H_h := Lib.hid (hK.row H_h.out (by simpa using (HT.out.nb N_h.out).1))
      replace H_u := Lib.hid (hK.row H_u.out (by simpa using (HT.out.nb N_u.out).1))
      replace H_r := Lib.hid (hK.row H_r.out (by simpa using (HT.out.nb N_r.out).1))
      replace W_was := Lib.hid (fun n x hx => hK.cell (W_was.out n x hx) (by simpa using (HT.out.nb G_was.out).1))
      replace Z_was := Lib.hid (Nat.lt_of_lt_of_le Z_was.out hszK)
      replace E_cr := Lib.hid (ents_kept E_cr.out hK (fun z h0 hz => by simpa using (HT.out.nb (F_cr.out z h0 hz)).1))
      replace B := Lib.hid (HT.out.under B.out hK (by simp))
      replace HT := Lib.hid (HT.out.onA hA hK)
      clear hA hK hszK
      go_upto_region 27 with (first | (refine wpList_store_row rfl 43 (.tmp 19) (.tmp 124) rfl g_r R2.arr rfl rfl 43 rr.arr H_r.out infoRun rfl (Rn.one _) ?_; (try simp only [Act.put, List.setIfInBounds_toArray, List.set_cons_succ, List.set_cons_zero])))
      refine set_row' y5 g_r _ _ _ H_r.out ?_
      intro y6 hr hK
      have hszK := hK.size
      replace H_c := Lib.hid (hK.row H_c.out (by simpa using M_c_r.out))
      replace H_p := Lib.hid (hK.row H_p.out (by simpa using M_p_r.out))
      replace H_h := Lib.hid (hK.row H_h.out (by simpa using M_h_r.out))
      replace H_u := Lib.hid (hK.row H_u.out (by simpa using M_u_r.out))
      replace W_was := Lib.hid (fun n x hx => hK.cell (W_was.out n x hx) (by simpa using M_was_r.out))
      replace Z_was := Lib.hid (Nat.lt_of_lt_of_le Z_was.out hszK)
      replace E_cr := Lib.hid (ents_kept E_cr.out hK (fun z h0 hz => by simpa using F_cr_r.out z h0 hz))
      replace HT := Lib.hid (HT.out.kept hK (fun j hj => by simp only [List.mem_singleton] at hj; subst hj; exact N_r.out))
      replace B := Lib.hid (Keep.under B.out hK (by have := B.out.size; omega) (by simp; exact L_r.out))
      replace H_r := Lib.hid hr
      clear hr hK hszK
      go_wp2_with fail
      go_roundw
      case rel => exact ⟨i + 1, R2, W2, by go_num, HiN.out, Hnext.out, HCh2.out, H_c.out, H_p.out, H_h.out, H_u.out, H_r.out, W_was.out, Z_was.out, E_cr.out, HT.out, B.out⟩
      case measure => have := HiN.out; simp [intOf]; omega
     rw [decide_eq_false hiN]
     obtain ⟨hiE, hcd, hax, hwf, hdn⟩ := run16_end HRun.out hiN
     rw [hwf] at HT
     obtain ⟨rer, Hre⟩ : ∃ x, Hid (rr = x) := ⟨_, Lib.hid rfl⟩
     have HFinr : Hid (rer.code = cr ∧ rer.an = xr ∧ (rer.done = true ∧ rer.point = true ∧ 0 < nr ∨ rer.done = false ∧ rer.pc = 0 ∧ nr = 0) ∧ i = nr) := Lib.hid (by rw [← Hre.out]; exact ⟨hcd, hax, hdn, hiE⟩)
     rw [Hre.out] at H_r
     clear hiE hcd hax hwf hdn Hre HRun HChr hiN hi6
     rw [HX0.out.2] at HT
     have HDone : Hid (rer.done = true ∧ rer.point = true ∧ rer.code = 19 ∧ rer.an = 0) := Lib.hid (by
      have h := HFinr.out
      have hd : rer.done = true ∧ rer.point = true := by
       rcases h.2.2.1 with h | h
       ·exact ⟨h.1, h.2.1⟩
       ·exact absurd h.2.2 HN0.out
      exact ⟨hd.1, hd.2, by rw [h.1, Hc19.out], by rw [h.2.1, HX0.out.1]⟩)
     go_wp2_with fail
     have hl_c := lt_of_heap H_c.out
     have hl_p := lt_of_heap H_p.out
     have hl_h := lt_of_heap H_h.out
     have hl_u := lt_of_heap H_u.out
     have hl_r := lt_of_heap H_r.out
     have hfr := fun g h => HT.out.fresh (g := g) h
     refine (wordsL_any p b _ _ HT.out.a (by rw [HLen.out]; decide)).mono ?_
     rintro r y9 ⟨b_now, o_now, c_now, rfl, hW, hnw, hlb, hb⟩
     rw [HLen.out]
     have G_now : Hid (b_now ∉ [p, b, X, q, d]) := Lib.hid (hfr _ hnw)
     clear hfr
     have M_now_c : Hid (b_now ≠ g_c) := Lib.hid (by omega)
     clear hl_c
     have M_now_p : Hid (b_now ≠ g_p) := Lib.hid (by omega)
     clear hl_p
     have M_now_h : Hid (b_now ≠ g_h) := Lib.hid (by omega)
     clear hl_h
     have M_now_u : Hid (b_now ≠ g_u) := Lib.hid (by omega)
     clear hl_u
     have M_now_r : Hid (b_now ≠ g_r) := Lib.hid (by omega)
     clear hl_r
     clear hnw
     have hsz := (hb).size
     replace H_c := Lib.hid (row_below H_c.out hb)
     replace H_p := Lib.hid (row_below H_p.out hb)
     replace H_h := Lib.hid (row_below H_h.out hb)
     replace H_u := Lib.hid (row_below H_u.out hb)
     replace H_r := Lib.hid (row_below H_r.out hb)
     replace W_was := Lib.hid (fun n x hx => (hb.cell (lt_of_cell (W_was.out n x hx))).trans (W_was.out n x hx))
     replace Z_was := Lib.hid (Nat.lt_of_lt_of_le Z_was.out hsz)
     replace E_cr := Lib.hid (Ents.below E_cr.out hb)
     replace HT := Lib.hid (HT.out.below hb)
     replace B := Lib.hid (below_only B.out hb)
     clear hb hsz
     have W_now : Hid (∀ (jj : Nat) x, WN[jj]? = some x → y9.cell? ⟨b_now, o_now + jj, none⟩ = some (.int .u64 x)) := Lib.hid hW
     have Z_now : Hid (b_now < y9.heap.size) := Lib.hid hlb
     clear hW hlb
     go_wp2_with fail
     go_loopw [22] (fun tt wz => ∃ n : Nat, n ≤ 112 ∧ tt = .int .i64 n ∧ Below y9.heap.size y9 wz) (fun t _ => (112 - intOf t).toNat)
     case atStart => exact ⟨0, by omega, rfl, Below.refl _ _⟩
     case round =>
      obtain ⟨n, hn, rfl, hbz⟩ := hrel
      have HBz := Lib.hid hbz
      clear hbz
      by_cases hn4 : n < 112
      ·obtain ⟨f, hf⟩ : ∃ x, WN[n]? = some x := ⟨_, List.getElem?_eq_getElem (by rw [HLen.out]; exact hn4)⟩
       have cu : wr.cell? ⟨b_was, o_was + n, none⟩ = some (.int .u64 f) := (HBz.out.cell (lt_of_cell (W_was.out n f hf))).trans (W_was.out n f hf)
       have cv : wr.cell? ⟨b_now, o_now + n, none⟩ = some (.int .u64 f) := (HBz.out.cell (lt_of_cell (W_now.out n f hf))).trans (W_now.out n f hf)
       have hnI : (n : Int) < 112 := by omega
       have hnI0 : (0 : Int) ≤ (n : Int) := by omega
       have hnB : decide ((112 : Int) ≤ (n : Int)) = false := decide_eq_false (by omega)
       have hnB2 : decide ((n : Int) < 112) = true := decide_eq_true hnI
       have zu := lt_of_cell cu
       have zv := lt_of_cell cv
       clear hf
       go_upto_region 33 with fail
       try simp only [Act.put]
       go_cut [148] from 134 to 148 (fun vv wx => vv = .bool false ∧ Below wr.heap.size wr wx)
       case first =>
        go_quiet (fail)
        go_wp2
        go_meet
        exact ⟨rfl, by first | exact below_drewN (Below.refl _ _) _ | exact Below.refl _ _ | exact Below.drew (Below.refl _ _) | go_grown⟩
       case rest =>
        obtain ⟨rfl, hb⟩ := hcut
        have HB4 := Lib.hid (hb.mono HBz.out.size |> HBz.out.trans)
        clear hb cu cv zu zv
        go_wp2_with fail
        go_roundw
        case rel => exact ⟨n + 1, by omega, by go_num, HB4.out⟩
        case measure => simp [intOf]; omega
      ·obtain rfl : n = 112 := by omega
       have hb := HBz.out
       clear HBz hn4 hn
       have hsz := (hb).size
       replace H_c := Lib.hid (row_below H_c.out hb)
       replace H_p := Lib.hid (row_below H_p.out hb)
       replace H_h := Lib.hid (row_below H_h.out hb)
       replace H_u := Lib.hid (row_below H_u.out hb)
       replace H_r := Lib.hid (row_below H_r.out hb)
       replace W_was := Lib.hid (fun n x hx => (hb.cell (lt_of_cell (W_was.out n x hx))).trans (W_was.out n x hx))
       replace Z_was := Lib.hid (Nat.lt_of_lt_of_le Z_was.out hsz)
       replace W_now := Lib.hid (fun n x hx => (hb.cell (lt_of_cell (W_now.out n x hx))).trans (W_now.out n x hx))
       replace Z_now := Lib.hid (Nat.lt_of_lt_of_le Z_now.out hsz)
       replace E_cr := Lib.hid (Ents.below E_cr.out hb)
       replace HT := Lib.hid (HT.out.below hb)
       replace B := Lib.hid (below_only B.out hb)
       clear hb hsz
       have r_21 : wr.cell? ⟨g_r, 21, none⟩ = some (.bool true) := by rw [row_cell H_r.out]; rw [← HDone.out.1]; rfl
       have r_22 : wr.cell? ⟨g_r, 22, none⟩ = some (.bool true) := by rw [row_cell H_r.out]; rw [← HDone.out.2.1]; rfl
       have r_23 : wr.cell? ⟨g_r, 23, none⟩ = some (.int .i64 19) := by rw [row_cell H_r.out]; rw [← HDone.out.2.2.1]; rfl
       have r_24 : wr.cell? ⟨g_r, 24, none⟩ = some (.int .i64 0) := by rw [row_cell H_r.out]; rw [← HDone.out.2.2.2]; rfl
       have z_r := lt_of_heap H_r.out
       have B2 := B.out
       clear B
       go_wp2_with fail
       go_ret
       exact ⟨rfl, B2⟩
end Go.Proofs.YtnimaajnlkbdaaaGreat
