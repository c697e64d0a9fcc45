/- Layer 14: the walk of FoundWhole. -/
import Derived.Test.YthedndejlfkknaaFWhole
namespace Go.Proofs.Ythedndejlfkknaa
open Go.RowKit
set_option linter.unusedVariables false
set_option linter.unusedSimpArgs false

set_option maxRecDepth 100000 in
set_option maxHeartbeats 8000000 in
theorem foundWhole_walk (s0 t0 i0 h0 : Int) (A : Option Addr) (cp : Nat) (L : List FOp) (w : World) (z0 : (Lit.int .i64 s0).wf = true) (z1 : (Lit.int .i64 t0).wf = true) (z2 : (Lit.int .i64 i0).wf = true) (z3 : (Lit.int .i64 h0).wf = true) (hLk : L.length ≤ cp) (hkm : cp ≤ maxLen) (hL : Cells w A (L.flatMap fopCells)) (hq : ∀ o ∈ L, FOpOk o) :
    Calls Try.prog 6 #[.agg #[.int .i64 s0, .int .i64 t0, .int .i64 i0, .int .i64 h0], .slice A L.length cp] w fun r w' => r = .returned (.bool true) ∧ Below w.heap.size w w' := by
  obtain ⟨i0', hi0, hx0, hx1, hx2⟩ := info_parts infoExt
  have hlm : L.length ≤ 9223372036854775807 := by unfold maxLen at hkm; omega
  have HL0 := Lib.hid hL
  have Hq := Lib.hid hq
  have hP0 := fitP_ok ⟨s0, t0, i0, h0⟩
  have hP1 : (fitP ⟨s0, t0, i0, h0⟩).h ≤ 1016 := by unfold fitP; simp only; omega
  have HFit : Hid (∀ w, Calls Try.prog 10 #[.agg #[.int .i64 s0, .int .i64 t0, .int .i64 i0, .int .i64 h0]] w fun r w' => r = .returned (fitP ⟨s0, t0, i0, h0⟩).val ∧ Below w.heap.size w w') := Lib.hid fun w => fit_plan ⟨s0, t0, i0, h0⟩ w
  obtain ⟨⟨ps, pt, pi, ph⟩, HP⟩ : ∃ x, Hid (fitP ⟨s0, t0, i0, h0⟩ = x) := ⟨_, Lib.hid rfl⟩
  rw [HP.out] at hP0 hP1 HFit
  have HPl : Hid (PlanOk ps pt pi ph) := Lib.hid (by obtain ⟨a1, a2, a3, a4, a5, a6, a7, a8, a9, a10⟩ := hP0; exact ⟨a1, a2, a3, a4, a5, a6, a7, a8, a9, a10⟩)
  have HPh : Hid (ph ≤ 1016) := Lib.hid hP1
  clear hL hq hkm hP0 hP1 z0 z1 z2 z3
  go_enter Try.func6, Try.ntmps6
  go_upto_region 1 with fail
  refine one_row w _ _ ?_
  intro w1 hr hb
  have B := Lib.hid (hb)
  clear hb
  have H_q := Lib.hid (show w1.heap[w.heap.size]? = some (.cells #[.int .i64 s0, .int .i64 t0, .int .i64 i0, .int .i64 h0] 23 (0, 0)) from hr)
  clear hr
  go_wp2_with fail
  refine (shown_any _).mono ?_
  rintro r w2 ⟨rfl, hb⟩
  have hsz := (hb).size
  replace H_q := Lib.hid (row_below H_q.out hb)
  replace B := Lib.hid (below_only B.out hb)
  clear hb hsz
  obtain ⟨q_0, q_1, q_2, q_3, q_f0, q_f1, q_f2, q_f3⟩ := box4 H_q.out
  have z_q := lt_of_heap H_q.out
  go_wp2_with fail
  refine (HFit.out _).mono ?_
  rintro r w3 ⟨rfl, hb⟩
  clear q_0 q_1 q_2 q_3 q_f0 q_f1 q_f2 q_f3 z_q
  have hsz := (hb).size
  replace H_q := Lib.hid (row_below H_q.out hb)
  replace B := Lib.hid (below_only B.out hb)
  clear hb hsz
  clear H_q
  go_upto_region 3 with fail
  refine one_row w3 _ _ ?_
  intro w4 hr hb
  have hlB := B.out.size
  have hsz := (hb).size
  replace B := Lib.hid (below_only B.out hb)
  clear hb hsz
  have H_p := Lib.hid (show w4.heap[w3.heap.size]? = some (.cells #[.int .i64 ps, .int .i64 pt, .int .i64 pi, .int .i64 ph] 23 (0, 0)) from hr)
  clear hr
  obtain ⟨g_p, hg_p⟩ : ∃ x, x = w3.heap.size := ⟨_, rfl⟩
  rw [← hg_p] at H_p ⊢
  have L_p : Hid (w.heap.size ≤ g_p) := Lib.hid (by omega)
  clear hg_p hlB
  obtain ⟨p_0, p_1, p_2, p_3, p_f0, p_f1, p_f2, p_f3⟩ := box4 H_p.out
  have z_p := lt_of_heap H_p.out
  go_wp2_with fail
  refine (foundNewG_any ps pt pi ph _ HPl.out).mono ?_
  rintro r w5 ⟨p, b, gg, q, rfl, hA, hG, hl, hn, hb⟩
  have E_p : Hid (g_p < w4.heap.size) := Lib.hid (lt_of_heap H_p.out)
  have HBB : Hid (w.heap.size ≤ w4.heap.size) := Lib.hid B.out.size
  have HF := Lib.hid (fs_new (t := pt) HPl.out hA hG hl hn)
  obtain ⟨BB, hBB⟩ : ∃ x, x = w4.heap.size := ⟨_, rfl⟩
  rw [← hBB] at E_p HBB HF
  obtain ⟨f, hf⟩ : ∃ x, x = 64 * ps + pi := ⟨_, rfl⟩
  obtain ⟨e, he⟩ : ∃ x, x = f + ph := ⟨_, rfl⟩
  rw [← hf, ← he] at HF
  have Hfe := Lib.hid (And.intro hf he)
  have HlS : Hid (((newS ⟨ps, pt, pi, ph⟩).l.length : Int) = ps) := Lib.hid (by have := HPl.out.s0; simp [newS]; omega)
  obtain ⟨m, hm⟩ : ∃ x, x = (newWs ps pi ph).length := ⟨_, rfl⟩
  have Hm : Hid ((newWs ps pi ph).length = m) := Lib.hid hm.symm
  have Hm0 : Hid (0 < m) := Lib.hid (by rw [hm, newWs_len]; have := HPl.out.s0; have := HPl.out.i0; have := HPl.out.h0; omega)
  have hm1 : m ≤ 8192 := by rw [hm]; exact hA.small
  clear hA hG hl hn hf he hBB hm
  clear p_0 p_1 p_2 p_3 p_f0 p_f1 p_f2 p_f3 z_p
  have hsz := (hb).size
  replace H_p := Lib.hid (row_below H_p.out hb)
  replace B := Lib.hid (below_only B.out hb)
  clear hb hsz
  obtain ⟨p_0, p_1, p_2, p_3, p_f0, p_f1, p_f2, p_f3⟩ := box4 H_p.out
  have z_p := lt_of_heap H_p.out
  go_wp2_with fail
  refine (rplanHeap_any ps pt pi ph _ HPl.out).mono ?_
  rintro r w6 ⟨rfl, hb⟩
  clear p_0 p_1 p_2 p_3 p_f0 p_f1 p_f2 p_f3 z_p
  replace HF := Lib.hid (HF.out.below hb)
  have hsz := (hb).size
  replace H_p := Lib.hid (row_below H_p.out hb)
  replace B := Lib.hid (below_only B.out hb)
  clear hb hsz
  rw [← Hfe.out.1]
  go_upto_region 7 with fail
  refine one_row w6 _ _ ?_
  intro w7 hr hb
  have hlB := B.out.size
  have hfr := HF.out.fresh (Nat.le_refl w6.heap.size)
  have hlp := HF.out.lt.1
  have hl_p := lt_of_heap H_p.out
  replace HF := Lib.hid (HF.out.below hb)
  have hsz := (hb).size
  replace H_p := Lib.hid (row_below H_p.out hb)
  replace B := Lib.hid (below_only B.out hb)
  clear hb hsz
  have H_h := Lib.hid (show w7.heap[w6.heap.size]? = some (.cells #[.int .i64 f, .int .i64 ph] 65 (0, 0)) from hr)
  clear hr
  obtain ⟨g_h, hg_h⟩ : ∃ x, x = w6.heap.size := ⟨_, rfl⟩
  rw [← hg_h] at H_h ⊢
  have N_h : Hid (g_h ∉ FsT b gg q ∧ g_h ≠ p) := Lib.hid ⟨by rw [hg_h]; exact hfr, by omega⟩
  clear hfr hlp
  have M_p_h : Hid (g_p ≠ g_h) := Lib.hid (by omega)
  have M_h_p : Hid (g_h ≠ g_p) := Lib.hid (by omega)
  clear hl_p
  have L_h : Hid (w.heap.size ≤ g_h) := Lib.hid (by omega)
  clear hg_h hlB
  have HTil : Hid (Til f e (newS ⟨ps, pt, pi, ph⟩)) := Lib.hid (by have h9 := til_new14 HPl.out; rw [← Hfe.out.1, ← Hfe.out.2] at h9; exact h9)
  have Hf8 : Hid (f % 8 = 0 ∧ e - f ≤ 1024 ∧ 0 ≤ f ∧ f ≤ 3000 ∧ e = f + ph) := Lib.hid (by have h1 := Hfe.out; have h2 := HPl.out; obtain ⟨a1, a2, a3, a4, a5, a6, a7, a8, a9, a10⟩ := h2; have := HPh.out; omega)
  obtain ⟨M, HM⟩ : ∃ M : Nat, Hid (ph = 8 * (M : Int)) := ⟨(ph / 8).toNat, Lib.hid (by have := HPl.out.h8; have := HPl.out.h0; omega)⟩
  have hMd : ph.tdiv 8 = (M : Int) := by rw [HM.out]; exact Int.mul_tdiv_cancel_left _ (by decide)
  have hM128 : M ≤ 128 := by have := HPh.out; have := HM.out; omega
  go_wp2_with fail
  go_loopw [11] (fun t wr => ∃ (k : Nat) (S : Sco) (ws : List Int) (q : Option Nat), k ≤ L.length ∧ k ≤ 40 ∧ t = .int .i64 k ∧ (S.l.length : Int) = ps ∧ ws.length = m ∧ Fs BB wr p b gg q f e S ws ∧ wr.heap[g_p]? = some (.cells #[.int .i64 ps, .int .i64 pt, .int .i64 pi, .int .i64 ph] 23 (0, 0)) ∧ Below w.heap.size w wr ∧ Til f e S ∧ wr.heap[g_h]? = some (.cells #[.int .i64 f, .int .i64 ph] 65 (0, 0)) ∧ (g_h ∉ FsT b gg q ∧ g_h ≠ p)) (fun t _ => (40 - intOf t).toNat)
  case atStart => exact ⟨0, _, _, _, Nat.zero_le _, by omega, rfl, HlS.out, Hm.out, HF.out, H_p.out, B.out, HTil.out, H_h.out, N_h.out⟩
  case round =>
    clear HF H_p B HlS Hm HTil H_h N_h
    obtain ⟨k, S, ws, q, hk, hk2, rfl, hlS, hm, hF, hp, hB, hT, hh, hnh⟩ := hrel
    have HlS := Lib.hid hlS
    have Hmu := Lib.hid hm
    have HF := Lib.hid hF
    have H_p := Lib.hid hp
    have B := Lib.hid hB
    have HTil := Lib.hid hT
    have H_h := Lib.hid hh
    have N_h := Lib.hid hnh
    clear hlS hm hF hp hB hT hh hnh
    by_cases hlt : k < L.length ∧ k < 40
    · skip
      obtain ⟨hlt, hlt2⟩ := hlt
      have hlt3 : (k : Int) < 40 := by omega
      obtain ⟨bA, off, rfl, hbA, hcA⟩ := fops_at HL0.out (by omega)
      obtain ⟨⟨mk, n⟩, hop⟩ : ∃ o, L[k]? = some o := ⟨_, List.getElem?_eq_getElem hlt⟩
      have Hn : Hid (-9223372036854775808 ≤ n ∧ n ≤ 9223372036854775807) := Lib.hid (Hq.out _ (List.mem_of_getElem? hop))
      obtain ⟨k0, k1⟩ := hcA k _ hop
      simp only at k0 k1
      have K0 := Lib.hid k0
      have K1 := Lib.hid k1
      have HbA := Lib.hid hbA
      have hbA2 : bA < wr.heap.size := Nat.lt_of_lt_of_le hbA B.out.size
      clear hcA hop k0 k1
      clear hbA
      have cA0 : wr.cell? ⟨bA, off + k * 2, none⟩ = some (.bool mk) := (B.out.cell (p := ⟨bA, off + k * 2, none⟩) HbA.out).trans K0.out
      have cA1 : wr.cell? ⟨bA, off + k * 2 + 1, none⟩ = some (.int .i64 n) := (B.out.cell (p := ⟨bA, off + k * 2 + 1, none⟩) HbA.out).trans K1.out
      have zA : bA < wr.heap.size := Nat.lt_of_lt_of_le HbA.out B.out.size
      go_upto_region 10 with fail
      try simp only [Act.put]
      go_cut [] from 59 to 66 (fun wx => ∃ q', Fs BB wx p b gg q' f e (does14 f e mk n S) (words14 mk n S ws) ∧ NewQ wr q q' ∧ Keep (FsT b gg q) wr wx)
      case first =>
        refine wp_region_held_drew (S := fun W' => W'.heap[g_p]? = some (.cells #[.int .i64 ps, .int .i64 pt, .int .i64 pi, .int .i64 ph] 23 (0, 0)) ∧ W'.cell? ⟨bA, off + k * 2, none⟩ = some (.bool mk) ∧ W'.cell? ⟨bA, off + k * 2 + 1, none⟩ = some (.int .i64 n) ∧ bA < W'.heap.size) (by kernel_rfl) (show wr.drew.heap[_]? = _ ∧ wr.drew.cell? _ = _ ∧ wr.drew.cell? _ = _ ∧ _ from ⟨H_p.out, cA0, cA1, zA⟩) ?_
        intro hS
        have hF0 : Fs BB wr.drew p b gg q f e S ws := HF.out.below (Below.drew (Below.refl _ _))
        have hK0 : Keep (FsT b gg q) wr wr.drew := (Keep.refl _ _).drew
        have hNA : bA ∉ FsT b gg q := HF.out.elder (Nat.lt_of_lt_of_le HbA.out HBB.out)
        have hsz0 : wr.heap.size ≤ wr.drew.heap.size := Nat.le_refl _
        clear cA0 cA1 zA hbA2
        generalize wr.drew = y0 at hS hF0 hK0 hsz0 ⊢
        refine wpAnyH_take_at (i := 0) (v := .agg #[.int .i64 ps, .int .i64 pt, .int .i64 pi, .int .i64 ph]) (some 59) rfl rfl (by kernel_rfl) (by kernel_rfl) (by kernel_rfl) (fun _ _ _ h => h) (yieldsIf_load_row (by kernel_rfl) 23 (.tmp 6) rfl g_p rfl #[.int .i64 ps, .int .i64 pt, .int .i64 pi, .int .i64 ph] (fun W' hW' => hW'.1) undPln4 rfl infoPln4) (by assumption) ?_
        try simp only [Act.put]
        try simp only [List.setIfInBounds_toArray]
        try simp only [List.set_cons_succ]
        try simp only [List.set_cons_zero]
        refine wpAnyH_take_at (i := 1) (v := ?v1x1) (some 60) rfl rfl (by kernel_rfl) (by kernel_rfl) (by kernel_rfl) (fun _ _ _ h => h) (Or.inl ⟨by kernel_rfl, ?h1x1⟩) (by assumption) ?r1x1
        case h1x1 => (intro w' hSw; obtain ⟨s1, s2, s3, s4⟩ := hSw; go_simp; first | done | (with_reducible rfl))
        try simp only [Act.put]
        try simp only [List.setIfInBounds_toArray]
        try simp only [List.set_cons_succ]
        try simp only [List.set_cons_zero]
        refine wpAnyH_take_at (i := 2) (v := ?v2x2) (some 61) rfl rfl (by kernel_rfl) (by kernel_rfl) (by kernel_rfl) (fun _ _ _ h => h) (Or.inl ⟨by kernel_rfl, ?h2x2⟩) (by assumption) ?r2x2
        case h2x2 => (intro w' hSw; obtain ⟨s1, s2, s3, s4⟩ := hSw; go_simp; first | done | (with_reducible rfl))
        try simp only [Act.put]
        try simp only [List.setIfInBounds_toArray]
        try simp only [List.set_cons_succ]
        try simp only [List.set_cons_zero]
        refine wpAnyH_take_at (i := 3) (v := ?v3x3) (some 62) rfl rfl (by kernel_rfl) (by kernel_rfl) (by kernel_rfl) (fun _ _ _ h => h) (Or.inl ⟨by kernel_rfl, ?h3x3⟩) (by assumption) ?r3x3
        case h3x3 => (intro w' hSw; obtain ⟨s1, s2, s3, s4⟩ := hSw; go_simp; first | done | (with_reducible rfl))
        try simp only [Act.put]
        try simp only [List.setIfInBounds_toArray]
        try simp only [List.set_cons_succ]
        try simp only [List.set_cons_zero]
        refine wpAnyH_take_at (i := 4) (v := ?v4x4) (some 63) rfl rfl (by kernel_rfl) (by kernel_rfl) (by kernel_rfl) (fun _ _ _ h => h) (Or.inl ⟨by kernel_rfl, ?h4x4⟩) (by assumption) ?r4x4
        case h4x4 => (intro w' hSw; obtain ⟨s1, s2, s3, s4⟩ := hSw; go_simp; first | done | (with_reducible rfl))
        try simp only [Act.put]
        try simp only [List.setIfInBounds_toArray]
        try simp only [List.set_cons_succ]
        try simp only [List.set_cons_zero]
        refine wpAnyH_take_at (i := 5) (v := ?v5x5) (some 64) rfl rfl (by kernel_rfl) (by kernel_rfl) (by kernel_rfl) (fun _ _ _ h => h) (Or.inl ⟨by kernel_rfl, ?h5x5⟩) (by assumption) ?r5x5
        case h5x5 => (intro w' hSw; obtain ⟨s1, s2, s3, s4⟩ := hSw; go_simp; first | done | (with_reducible rfl))
        try simp only [Act.put]
        try simp only [List.setIfInBounds_toArray]
        try simp only [List.set_cons_succ]
        try simp only [List.set_cons_zero]
        refine wpAnyH_take_at (i := 6) (v := ?v6x6) (some 65) rfl rfl (by kernel_rfl) (by kernel_rfl) (by kernel_rfl) (fun _ _ _ h => h) (Or.inl ⟨by kernel_rfl, ?h6x6⟩) (by assumption) ?r6x6
        case h6x6 => (intro w' hSw; obtain ⟨s1, s2, s3, s4⟩ := hSw; go_simp; first | done | (with_reducible rfl))
        try simp only [Act.put]
        try simp only [List.setIfInBounds_toArray]
        try simp only [List.set_cons_succ]
        try simp only [List.set_cons_zero]
        refine wpAnyH_ready (rs := [7]) (by kernel_rfl) (by simp) ?_
        refine AllReadyH.cons rfl (fun K hK => ?_) AllReadyH.nil
        go_simp
        refine (steps_any BB p b gg q f e S ws ps pt pi ph mk n _ HPl.out hF0 HlS.out Hn.out).mono ?_
        rintro e' y8 ⟨kc, cA, q', rfl, hF1, hq1, hK1⟩
        go_simp
        refine hK.out _ _ (by obtain ⟨s1, s2, s3, s4⟩ := hS; exact ⟨hK1.row s1 (hF0.elder E_p.out), hK1.cell s2 hNA, hK1.cell s3 hNA, Nat.lt_of_lt_of_le s4 hK1.size⟩) (fun hS => ?_)
        clear hK K
        try simp only [Act.put]
        try simp only [List.setIfInBounds_toArray]
        try simp only [List.set_cons_succ]
        try simp only [List.set_cons_zero]
        refine wpAnyH_done (by kernel_rfl) ?_ _
        go_wp2_with fail
        go_meet
        exact ⟨q', hF1, fun j hj => (hq1 j hj).imp id (fun h9 => Nat.le_trans hsz0 h9), hK0.trans hK1⟩
      case rest =>
        obtain ⟨q2, hF, hq, hK⟩ := hcut
        obtain ⟨x1, hwx⟩ : ∃ x, x = wc := ⟨_, rfl⟩
        subst hwx
        clear cA0 cA1 zA hbA2
        replace H_p := Lib.hid (hK.row H_p.out (HF.out.elder E_p.out))
        have hl_h := lt_of_heap H_h.out
        have hn_h := N_h.out
        replace H_h := Lib.hid (hK.row H_h.out hn_h.1)
        replace N_h : Hid (g_h ∉ FsT b gg q2 ∧ g_h ≠ p) := Lib.hid ⟨notin_new hn_h.1 hl_h hq, hn_h.2⟩
        clear hl_h hn_h
        replace B := Lib.hid (Keep.under B.out hK (by have := B.out.size; omega) (fun j hj => Nat.le_trans HBB.out (HF.out.ges j hj).1))
        replace HF := Lib.hid hF
        clear hF hq hK
        have HlS2 : Hid (((does14 f e mk n S).l.length : Int) = ps) := Lib.hid (by rw [does14_len]; exact HlS.out)
        have Hmv : Hid ((words14 mk n S ws).length = m) := Lib.hid (by rw [words14_len, Hmu.out])
        replace HTil : Hid (Til f e (does14 f e mk n S)) := Lib.hid (til_does HTil.out)
        obtain ⟨S2, HS2⟩ : ∃ x, Hid (does14 f e mk n S = x) := ⟨_, Lib.hid rfl⟩
        obtain ⟨ws2, Hws2⟩ : ∃ x, Hid (words14 mk n S ws = x) := ⟨_, Lib.hid rfl⟩
        rw [HS2.out] at HF HlS2 HTil
        rw [Hws2.out] at HF Hmv
        clear HS2 Hws2
        have hFl := HF.out.gr.size
        have hn8 := HF.out.n8
        go_wp2_with fail
        refine (free_any BB gg f e S2.F q2 _ (HF.out.below ((Below.refl x1.heap.size x1).alloc (Nat.le_refl _) (.cells #[] 65))).gr).mono ?_
        rintro r x2 ⟨v, rfl, A_f, c_f, rfl, hcf, hcs, hnf, hb⟩
        have HO := Lib.hid (own_below (own_empty (base := x1.heap.size) (size := 2) (Nat.le_refl _) (row_new x1 #[] 65)) hb)
        have HCf := Lib.hid hcs
        have HB2 := Lib.hid (((Below.refl x1.heap.size x1).alloc (Nat.le_refl _) (.cells #[] 65)).trans (hb.mono (by simp)))
        have hz2 : x1.heap.size ≤ x2.heap.size := HB2.out.size
        clear hcf hcs hnf hb
        go_wp2_with (at_builtin; refine wpList_append_any _ rfl (.tmp 67) (.tmp 69) _ (by rfl) x1.heap.size 65 i0' _ 2 16 Try.underlying67 hi0 hx0 hx1 hx2 rfl (by omega) (.slice (some ⟨x1.heap.size, 0, none⟩) 0 0) 0 [] (by rfl) HO.out A_f S2.F.length c_f (S2.F.flatMap extCells) (by rfl) (exts_len _) HCf.out (exts_one _) (by simp only [maxLen]; omega) (by omega) hz2 ?_; intro v3 x3 hown hg hat; simp only [Nat.zero_add, List.nil_append] at hown; obtain ⟨A3, c3, rfl, hc3, hm3, hcs3⟩ := own_slice hown; have Hown := Lib.hid hown; have HB3 := Lib.hid (HB2.out.grown hg hz2 (fun i hi => by simp [Value.ownBlock] at hi; omega)); clear hown hg hat hc3 hm3 hcs3)
        go_loopw [12, 13] (fun v t wq => ∃ (j : Nat) (A : Option Addr) (c : Nat), 1 ≤ j ∧ (j : Int) ≤ ps ∧ v = .slice A (rowsS S2 j).length c ∧ t = .int .i64 j ∧ wq.ownsRow x1.heap.size 65 2 (.slice A (rowsS S2 j).length c) (rowsS S2 j).length ((rowsS S2 j).flatMap extCells) ∧ Below x1.heap.size x1 wq) (fun _ t _ => (ps - intOf t).toNat)
        case atStart => exact ⟨1, A3, c3, Nat.le_refl _, HPl.out.s0, by rw [rows_one], rfl, by rw [rows_one]; exact Hown.out, HB3.out⟩
        case round =>
          obtain ⟨j, A3', c3', hj1, hj2, rfl, rfl, hown, hbz⟩ := hrel
          clear Hown HB3
          have Hown := Lib.hid hown
          have HBz := Lib.hid hbz
          have HF0 := Lib.hid (HF.out.below hbz)
          have H_p0 := Lib.hid (row_below H_p.out hbz)
          obtain ⟨x0, x1', x2', x3', _⟩ := box4 H_p0.out
          have zp := lt_of_heap H_p0.out
          have hps8 : ps ≤ 8 := HPl.out.s1
          have hrl : (rowsS S2 j).length ≤ 131080 := by have := rows_len (S := S2) (k := j); omega
          clear hbz hown
          by_cases hjm : (j : Int) < ps
          · skip
            obtain ⟨⟨⟨c1, c2, c3, c4⟩, ⟨y1, y2⟩⟩, hx⟩ : ∃ x, S2.l[j]? = some x := ⟨_, List.getElem?_eq_getElem (by have := HlS2.out; omega)⟩
            have Hr := Lib.hid (HF0.out.ok _ (List.mem_of_getElem? hx)).r
            have Hw := Lib.hid (HF0.out.s.blk j _ hx)
            have Hj : Hid (0 ≤ (j : Int) ∧ (j : Int) ≤ ps - 1 ∧ (j : Int) ≤ 7) := Lib.hid (by have := HPl.out.s1; omega)
            have Hown_ := Lib.hid (HTil.out.own j _ hj1 hx)
            have HRn := Lib.hid (rows_next hj1 hx)
            have Ha1 : Hid (64 * (j : Int) + 8 * 1 = (((8 * j + 1) * 8 : Nat) : Int)) := Lib.hid (by omega)
            have Ha2 : Hid (64 * (j : Int) + 8 * 2 = (((8 * j + 2) * 8 : Nat) : Int)) := Lib.hid (by omega)
            clear hx
            go_wp2_with fail
            refine (foundCtl_any p b ps pt pi ph ws2 (8 * j) j ⟨c1, c2, c3, c4⟩ _ HPl.out HF0.out.a Hr.out Hw.out.1 (by omega) ⟨Hj.out.1, Hj.out.2.1⟩).mono ?_
            rintro r z1 ⟨rfl, hb⟩
            have HO1 := Lib.hid (own_below Hown.out hb)
            have HB1 := Lib.hid (HBz.out.trans (hb.mono HBz.out.size))
            replace HF0 := Lib.hid (HF0.out.below hb)
            clear hb x0 x1' x2' x3' zp
            go_upto_region 16 with fail
            refine one_row z1 _ _ ?_
            intro z2 hC hb
            obtain ⟨gc, hgc⟩ : ∃ x, x = z1.heap.size := ⟨_, rfl⟩
            rw [← hgc] at hC ⊢
            have HC := Lib.hid hC
            replace HO1 := Lib.hid (own_below HO1.out hb)
            replace HB1 := Lib.hid (HB1.out.trans (hb.mono HB1.out.size))
            replace HF0 := Lib.hid (HF0.out.below hb)
            clear hb hgc hC
            go_wp2_with fail
            refine (rplanAt_any 1 j _ (by decide) ⟨Hj.out.1, Hj.out.2.2⟩).mono ?_
            rintro r z3 ⟨rfl, e3⟩
            rw [e3, Ha1.out]
            clear e3 z3
            go_wp2_with fail
            refine (arnWord_any p b ws2 (8 * j + 1) y1 _ HF0.out.a Hw.out.2.1).mono ?_
            rintro r z3 ⟨rfl, e3⟩
            rw [e3]
            clear e3 z3
            go_wp2_with fail
            refine (rplanAt_any 2 j _ (by decide) ⟨Hj.out.1, Hj.out.2.2⟩).mono ?_
            rintro r z3 ⟨rfl, e3⟩
            rw [e3, Ha2.out]
            clear e3 z3
            go_wp2_with fail
            refine (arnWord_any p b ws2 (8 * j + 2) y2 _ HF0.out.a Hw.out.2.2).mono ?_
            rintro r z3 ⟨rfl, e3⟩
            rw [e3]
            clear e3 z3
            rcases Hown_.out with ⟨hs0, hs1⟩ | ⟨hs0, hs1⟩
            · try simp only at hs0 hs1
              subst hs0
              injection hs1 with hs1 hs2
              subst hs1 hs2
              have hrn : rowsS S2 (j + 1) = rowsS S2 j := by rw [HRn.out]; simp
              have HRq := Lib.hid hrn
              obtain ⟨d0, _⟩ := box4 HC.out
              have zc := lt_of_heap HC.out
              clear hrn
              go_wp2_with fail
              go_roundw
              case rel => exact ⟨j + 1, _, _, by omega, by omega, by rw [HRq.out], by go_num, by rw [HRq.out]; exact HO1.out, HB1.out⟩
              case measure => simp [intOf]; omega
            · try simp only at hs0
              subst hs0
              obtain ⟨g1, g2, g3, g4, g5⟩ := hs1
              try simp only at g1 g2 g3 g4 g5
              have hrn : rowsS S2 (j + 1) = rowsS S2 j ++ [(y1, y2)] := by rw [HRn.out]; simp
              have HRq := Lib.hid hrn
              obtain ⟨f1, f2, f3, f4, f5⟩ := Hf8.out
              have v1 : decide (y1 > 65536) = false := decide_eq_false (by have := HPh.out; omega)
              have v2 : decide (y2 > 65536) = false := decide_eq_false (by have := HPh.out; omega)
              have v1' : ¬ (65536 < y1) := by have := HPh.out; omega
              have v2' : ¬ (65536 < y2) := by have := HPh.out; omega
              have u1 : IntKind.i64.wrap y1 = y1 := IntWalk.i64_in _ (by have := HPh.out; omega)
              have u2 : IntKind.i64.wrap y2 = y2 := IntWalk.i64_in _ (by have := HPh.out; omega)
              obtain ⟨d0, _⟩ := box4 HC.out
              have zc := lt_of_heap HC.out
              have hz1 : x1.heap.size ≤ z2.heap.size := HB1.out.size
              clear hrn g1 g2 g3 g4 g5 f1 f2 f3 f4 f5
              go_wp2_with (at_builtin; refine wpList_append_any _ rfl (.tmp 124) (.tmp 130) _ (by rfl) x1.heap.size 65 i0' _ 2 16 Try.underlying67 hi0 hx0 hx1 hx2 rfl (by omega) (.slice A3' (rowsS S2 j).length c3') (rowsS S2 j).length ((rowsS S2 j).flatMap extCells) (by rfl) (own_below HO1.out (by go_grown)) (some ⟨z2.heap.size, 0, none⟩) 1 1 (extCells (y1, y2)) (by rfl) rfl (cells_two (by simp [go_sem]) (by simp [go_sem])) (extCells_one _) (by simp only [maxLen]; omega) (by omega) (by simp; omega) ?_; intro v6 z6 hown6 hg6 hat6)
              have B6 := Lib.hid (Below.grown (HB1.out.alloc hz1 (.cells #[.int .i64 y1, .int .i64 y2] 65)) hg6 (by simp; omega) (fun i hi => own_ge HO1.out i hi))
              go_roundw
              case rel =>
                obtain ⟨A6, c6, rfl, -, -, -⟩ := own_slice hown6
                exact ⟨j + 1, A6, c6, by omega, by omega, by rw [HRq.out, List.length_append, List.length_singleton], by go_num, by rw [HRq.out, List.length_append, List.length_singleton, List.flatMap_append]; simpa using hown6, B6.out⟩
              case measure => simp [intOf]; omega
          · skip
            have hjl : j = S2.l.length := by have := HlS2.out; omega
            have HJ := Lib.hid hjl
            obtain ⟨H, hH⟩ : ∃ x, rowsS S2 j = x := ⟨_, rfl⟩
            have HHr : Hid (rowsS S2 S2.l.length = H) := Lib.hid (by rw [← hjl]; exact hH)
            rw [hH] at Hown hrl ⊢
            have H_h0 := Lib.hid (row_below H_h.out HBz.out)
            have hlt2' : ¬ (j : Int) < ps := hjm
            have hcH := (own_slice Hown.out)
            obtain ⟨A9, c9, e9, -, -, hcs⟩ := hcH
            injection e9 with e9
            subst e9
            have HcH := Lib.hid hcs
            have HoL : Hid (∀ a, A3' = some a → a.block < wr.heap.size) := Lib.hid (fun a ha => by
              subst ha
              exact (Hown.out.lt a.block (by simp [Value.ownBlock])).2)
            clear hjl hH hcs
            go_upto_region 23 with (refine wpList_zero128 20 132 rfl rfl rfl rfl rfl rfl rfl (by rfl) (by rfl) ?_)
            refine one_row wr _ _ ?_
            intro x5 hr hb
            obtain ⟨g_u, hgu⟩ : ∃ x, x = wr.heap.size := ⟨_, rfl⟩
            rw [← hgu] at hr ⊢
            have H_u := Lib.hid hr
            have HGu : Hid (g_u ≠ g_p ∧ g_u ≠ g_h ∧ g_u ≠ p ∧ g_u ∉ FsT b gg q2 ∧ x1.heap.size ≤ g_u ∧ ∀ a, A3' = some a → a.block ≠ g_u) := Lib.hid ⟨by have := lt_of_heap H_p0.out; omega, by have := lt_of_heap H_h0.out; omega, by have := HF0.out.lt.1; omega, HF0.out.fresh (by omega), by have := HBz.out.size; omega, fun a ha => by have := HoL.out a ha; omega⟩
            replace HF0 := Lib.hid (HF0.out.below hb)
            replace H_p0 := Lib.hid (row_below H_p0.out hb)
            replace H_h0 := Lib.hid (row_below H_h0.out hb)
            replace HcH := Lib.hid (HcH.out.below hb)
            replace HBz := Lib.hid (HBz.out.trans (hb.mono HBz.out.size))
            have zu5 : g_u < x5.heap.size := lt_of_heap hr
            clear hb hr hgu Hown x0 x1' x2' x3' zp hjm
            go_wp2_with fail
            go_loopw [21] (fun t wq => ∃ (kk : Nat) (u : List Bool), kk ≤ H.length ∧ t = .int .i64 kk ∧ wq.heap[g_u]? = some (.cells (intsV u).toArray 70 (0, 0)) ∧ Keep [g_u] x5 wq ∧ Used f u (cov (H.take kk))) (fun t _ => H.length - (intOf t).toNat)
            case atStart => exact ⟨0, List.replicate 128 false, Nat.zero_le _, rfl, H_u.out, Keep.refl _ _, used_init f _ (fun j hj => by rw [List.take_zero] at hj; exact cov_nil j hj)⟩
            case round =>
              obtain ⟨kk, v, hkk, rfl, hV, hKv, hVs⟩ := hrel
              have HV := Lib.hid hV
              have HKv := Lib.hid hKv
              have HVs := Lib.hid hVs
              have HEv := Lib.hid (hKv.row H_h0.out (by simpa using HGu.out.2.1.symm))
              have zv := hKv.size
              obtain ⟨e0, e1, _, _⟩ := box2 HEv.out
              have ze := lt_of_heap HEv.out
              have zV := lt_of_heap hV
              clear hV hKv hVs
              by_cases hkl2 : kk < H.length
              · obtain ⟨bh, oh, rfl, hbh, hch⟩ := exts_at (HcH.out.kept HKv.out (fun a ha => by simpa using HGu.out.2.2.2.2.2 a ha)) (by omega)
                obtain ⟨y, hy⟩ : ∃ y, H[kk]? = some y := ⟨_, List.getElem?_eq_getElem hkl2⟩
                obtain ⟨y0, y1⟩ := hch kk y hy
                obtain ⟨ii, mm, a1, a2, a3, a4, a5, a6, a7, a8, a9⟩ := rows_spec HTil.out HF0.out.n1 (by rw [HHr.out]; exact hy) (by rw [HHr.out]; exact HVs.out) Hf8.out.1 Hf8.out.2.1
                rw [HHr.out] at a5
                obtain ⟨ya, yn⟩ := y
                dsimp only at y0 y1 a1 a2 a6 a7 a8 a9
                have hd1 : decide (ya < f) = false := decide_eq_false (by omega)
                have hd1' : ¬ ya < f := by omega
                have hd3 : ¬ yn < 8 := by omega
                have hd2' : ¬ (f + ph < ya + yn) := by have := Hf8.out.2.2.2.2; omega
                have hd2 : decide (ya + yn > f + ph) = false := decide_eq_false (by omega)
                have ya0 : 0 ≤ ya := by have := Hf8.out.2.2.1; omega
                have yb : ya ≤ 131072 := by have h1 := Hf8.out; have h2 := HPh.out; omega
                have ybn : yn ≤ 131072 := by have h1 := Hf8.out; have h2 := HPh.out; omega
                have hm8 : ya.tmod 8 = 0 := by rw [Int.tmod_eq_emod_of_nonneg ya0]; exact a9
                have hm8b : (ya.tmod 8 == 0) = true := by rw [hm8]; rfl
                have hm8c : (ya % 8 == 0) = true := by rw [a9]; rfl
                have hwf : IntKind.i64.wrap (f + ph) = f + ph := IntWalk.i64_in _ (by have h1 := Hf8.out; have h2 := HPh.out; have h3 := HPl.out.h0; omega)
                have hwy : IntKind.i64.wrap (ya + yn) = ya + yn := IntWalk.i64_in _ (by omega)
                have hle : ya + yn ≤ f + ph := by omega
                have hyn : 0 ≤ yn := by omega
                have f0' : 0 ≤ f := Hf8.out.2.2.1
                have f1' : f ≤ 3000 := Hf8.out.2.2.2.1
                have p1' : ph ≤ 1016 := HPh.out
                have p0' : 0 ≤ ph := HPl.out.h0
                have hyd : yn.tdiv 8 = (mm : Int) := by rw [a1]; exact Int.mul_tdiv_cancel_left _ (by decide)
                have A1 := Lib.hid a1
                have A2 := Lib.hid a2
                have A4 := Lib.hid a4
                have A5 := Lib.hid a5
                have hbn : bh ≠ g_u := HGu.out.2.2.2.2.2 _ rfl
                have Y0 := Lib.hid y0
                have Y1 := Lib.hid y1
                clear a1 a2 a4 a5 a7 hy hch
                go_wp2_with fail
                go_quiet (fail)
                go_wp2_with fail
                go_loopw [22] (fun tt wq => ∃ jj : Nat, jj ≤ mm ∧ tt = .int .i64 jj ∧ wq.heap[g_u]? = some (.cells (intsV (setB v ii true jj)).toArray 70 (0, 0)) ∧ Keep [g_u] wr wq)
                  (fun tt _ => mm - (intOf tt).toNat)
                case atStart => exact ⟨0, Nat.zero_le _, rfl, HV.out, by repeat (first | exact Keep.refl _ _ | refine Keep.drewN ?_ _ | refine Keep.drew ?_)⟩
                case round =>
                  obtain ⟨jj, hjj, rfl, hr, hKq⟩ := hrel
                  have Hr := Lib.hid hr
                  have HKq := Lib.hid hKq
                  clear y0 y1 e0 e1
                  have y0 := hKq.cell Y0.out (by simpa using hbn)
                  have y1 := hKq.cell Y1.out (by simpa using hbn)
                  obtain ⟨e0, e1, _, _⟩ := box2 (hKq.row HEv.out (by simpa using HGu.out.2.1.symm))
                  have zq := hKq.size
                  have zr' := lt_of_heap hr
                  clear hr hKq
                  by_cases hjm : jj < mm
                  · have hcell : (setB v ii true jj)[ii + jj]? = some false := by
                      rw [setB_get _ _ _ _ _ (by have := HVs.out.len; omega), if_neg (by omega)]
                      exact A4.out _ (by omega) (by omega)
                    have c0 := ints_cell Hr.out (ii + jj) false hcell
                    have c0f := row_frozen Hr.out (ii + jj)
                    have g1 : ya - f = 8 * (ii : Int) := by have := A2.out; omega
                    have g2 : (8 * (ii : Int)).tdiv 8 = (ii : Int) := Int.mul_tdiv_cancel_left _ (by decide)
                    have g3 : ((ii : Int) + (jj : Int)).toNat = ii + jj := by omega
                    have g4 : 0 ≤ (ii : Int) + (jj : Int) := by omega
                    have g5 : (ii : Int) + (jj : Int) < 128 := by omega
                    have g6 : ii + jj < 128 := by omega
                    have g7 : 0 ≤ ya - f := by omega
                    simp only [Bool.false_eq_true, if_false] at c0
                    clear hcell
                    go_wp2_with fail
                    go_region
                    go_wp2_with fail
                    go_roundw
                    case rel =>
                      refine ⟨jj + 1, hjm, by go_num, ?_, ?_⟩
                      · have := row_set (i := ii + jj) Hr.out (.int .i64 1)
                        rw [ints_set] at this
                        exact this
                      · repeat (first | exact HKq.out | refine Keep.drewN ?_ _ | refine Keep.drew ?_ | refine Keep.setCell ?_ (.inl (by simp)) _)
                    case measure => simp [intOf]; omega
                  · obtain rfl : jj = mm := by omega
                    go_wp2_with fail
                    go_roundw
                    case rel => exact ⟨kk + 1, setB v ii true jj, by omega, by go_num, Hr.out, HKv.out.trans HKq.out, A5.out⟩
                    case measure => simp [intOf]; omega
              · obtain rfl : kk = H.length := by omega
                have HFv := Lib.hid (HF0.out.kept HKv.out (fun i hi hm => by simp only [List.mem_singleton] at hi; subst hi; rcases List.mem_cons.1 hm with h9 | h9; exact HGu.out.2.2.1 h9; exact HGu.out.2.2.2.1 h9))
                have H_pv := Lib.hid (HKv.out.row H_p0.out (by simpa using HGu.out.1.symm))
                have HBv := Lib.hid (Keep.under HBz.out HKv.out HBz.out.size (by simpa using HGu.out.2.2.2.2.1))
                go_wp2_with fail
                go_loopw [23] (fun tt wq => ∃ i2 : Nat, i2 ≤ M ∧ tt = .int .i64 i2 ∧ wq = wr) (fun tt _ => M - (intOf tt).toNat)
                case atStart => exact ⟨0, Nat.zero_le _, rfl, rfl⟩
                case round =>
                  obtain ⟨i2, hi2, rfl, rfl⟩ := hrel
                  by_cases hil : i2 < M
                  · have hu := used_all HVs.out (by have := rows_all HTil.out HF0.out.n1; rw [HHr.out] at this; exact this) (n := i2) (by have := HM.out; have := Hf8.out.2.2.2.2; omega)
                    have c0 := ints_cell HV.out i2 true hu
                    have h128 : i2 < 128 := by omega
                    have h128' : (i2 : Int) < 128 := by omega
                    simp only [if_true] at c0
                    clear hu
                    go_wp2_with fail
                    go_roundw
                    case rel => exact ⟨i2 + 1, hil, by go_num, by first | rfl | trivial⟩
                    case measure => simp [intOf]; omega
                  · obtain rfl : i2 = M := by omega
                    have B9 := Lib.hid (below_only B.out HBv.out)
                    go_wp2_with fail
                    go_roundw
                    case rel => exact ⟨k + 1, S2, ws2, q2, by omega, by omega, by go_num, HlS2.out, Hmv.out, HFv.out, H_pv.out, B9.out, HTil.out, HEv.out, N_h.out⟩
                    case measure => simp [intOf]; omega
    · by_cases hl : k < L.length
      · have h100 : ¬ k < 40 := fun h => hlt ⟨hl, h⟩
        have B2 := B.out
        clear B hlt
        go_wp2_with fail
        go_ret
        exact ⟨rfl, B2⟩
      · have B2 := B.out
        clear B hlt
        go_wp2_with fail
        go_ret
        exact ⟨rfl, B2⟩

end Go.Proofs.Ythedndejlfkknaa
