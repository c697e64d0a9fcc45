/- Layer 14: the walk of FoundEpochs. -/
import Derived.Test.YthedndejlfkknaaFEpoch
namespace Go.Proofs.Ythedndejlfkknaa
open Go.RowKit
set_option linter.unusedVariables false
set_option linter.unusedSimpArgs false

set_option maxRecDepth 100000 in
set_option maxHeartbeats 8000000 in
theorem foundEpochs_walk (s0 t0 i0 h0 : Int) (A : Option Addr) (cp : Nat) (L : List FOp) (w : World) (z0 : (Lit.int .i64 s0).wf = true) (z1 : (Lit.int .i64 t0).wf = true) (z2 : (Lit.int .i64 i0).wf = true) (z3 : (Lit.int .i64 h0).wf = true) (hLk : L.length ≤ cp) (hkm : cp ≤ maxLen) (hL : Cells w A (L.flatMap fopCells)) (hq : ∀ o ∈ L, FOpOk o) :
    Calls Try.prog 4 #[.agg #[.int .i64 s0, .int .i64 t0, .int .i64 i0, .int .i64 h0], .slice A L.length cp] w fun r w' => r = .returned (.bool true) ∧ Below w.heap.size w w' := by
  have hlm : L.length ≤ 9223372036854775807 := by unfold maxLen at hkm; omega
  have HL0 := Lib.hid hL
  have Hq := Lib.hid hq
  have hP0 := fitP_ok ⟨s0, t0, i0, h0⟩
  have hP1 : (fitP ⟨s0, t0, i0, h0⟩).h ≤ 1016 := by unfold fitP; simp only; omega
  have HFit : Hid (∀ w, Calls Try.prog 10 #[.agg #[.int .i64 s0, .int .i64 t0, .int .i64 i0, .int .i64 h0]] w fun r w' => r = .returned (fitP ⟨s0, t0, i0, h0⟩).val ∧ Below w.heap.size w w') := Lib.hid fun w => fit_plan ⟨s0, t0, i0, h0⟩ w
  obtain ⟨⟨ps, pt, pi, ph⟩, HP⟩ : ∃ x, Hid (fitP ⟨s0, t0, i0, h0⟩ = x) := ⟨_, Lib.hid rfl⟩
  rw [HP.out] at hP0 hP1 HFit
  have HPl : Hid (PlanOk ps pt pi ph) := Lib.hid (by obtain ⟨a1, a2, a3, a4, a5, a6, a7, a8, a9, a10⟩ := hP0; exact ⟨a1, a2, a3, a4, a5, a6, a7, a8, a9, a10⟩)
  have HPh : Hid (ph ≤ 1016) := Lib.hid hP1
  clear hL hq hkm hP0 hP1 z0 z1 z2 z3
  go_enter Try.func4, Try.ntmps4
  go_upto_region 1 with fail
  refine one_row w _ _ ?_
  intro w1 hr hb
  have B := Lib.hid (hb)
  clear hb
  have H_q := Lib.hid (show w1.heap[w.heap.size]? = some (.cells #[.int .i64 s0, .int .i64 t0, .int .i64 i0, .int .i64 h0] 23 (0, 0)) from hr)
  clear hr
  go_wp2_with fail
  refine (shown_any _).mono ?_
  rintro r w2 ⟨rfl, hb⟩
  have hsz := (hb).size
  replace H_q := Lib.hid (row_below H_q.out hb)
  replace B := Lib.hid (below_only B.out hb)
  clear hb hsz
  obtain ⟨q_0, q_1, q_2, q_3, q_f0, q_f1, q_f2, q_f3⟩ := box4 H_q.out
  have z_q := lt_of_heap H_q.out
  go_wp2_with fail
  refine (HFit.out _).mono ?_
  rintro r w3 ⟨rfl, hb⟩
  clear q_0 q_1 q_2 q_3 q_f0 q_f1 q_f2 q_f3 z_q
  have hsz := (hb).size
  replace H_q := Lib.hid (row_below H_q.out hb)
  replace B := Lib.hid (below_only B.out hb)
  clear hb hsz
  clear H_q
  go_upto_region 3 with fail
  refine one_row w3 _ _ ?_
  intro w4 hr hb
  have hlB := B.out.size
  have hsz := (hb).size
  replace B := Lib.hid (below_only B.out hb)
  clear hb hsz
  have H_p := Lib.hid (show w4.heap[w3.heap.size]? = some (.cells #[.int .i64 ps, .int .i64 pt, .int .i64 pi, .int .i64 ph] 23 (0, 0)) from hr)
  clear hr
  obtain ⟨g_p, hg_p⟩ : ∃ x, x = w3.heap.size := ⟨_, rfl⟩
  rw [← hg_p] at H_p ⊢
  have L_p : Hid (w.heap.size ≤ g_p) := Lib.hid (by omega)
  clear hg_p hlB
  obtain ⟨p_0, p_1, p_2, p_3, p_f0, p_f1, p_f2, p_f3⟩ := box4 H_p.out
  have z_p := lt_of_heap H_p.out
  go_wp2_with fail
  refine (foundNewG_any ps pt pi ph _ HPl.out).mono ?_
  rintro r w5 ⟨p, b, gg, q, rfl, hA, hG, hl, hn, hb⟩
  have E_p : Hid (g_p < w4.heap.size) := Lib.hid (lt_of_heap H_p.out)
  have HBB : Hid (w.heap.size ≤ w4.heap.size) := Lib.hid B.out.size
  have HF := Lib.hid (fs_new (t := pt) HPl.out hA hG hl hn)
  obtain ⟨BB, hBB⟩ : ∃ x, x = w4.heap.size := ⟨_, rfl⟩
  rw [← hBB] at E_p HBB HF
  obtain ⟨f, hf⟩ : ∃ x, x = 64 * ps + pi := ⟨_, rfl⟩
  obtain ⟨e, he⟩ : ∃ x, x = f + ph := ⟨_, rfl⟩
  rw [← hf, ← he] at HF
  have Hfe := Lib.hid (And.intro hf he)
  have HlS : Hid (((newS ⟨ps, pt, pi, ph⟩).l.length : Int) = ps) := Lib.hid (by have := HPl.out.s0; simp [newS]; omega)
  obtain ⟨m, hm⟩ : ∃ x, x = (newWs ps pi ph).length := ⟨_, rfl⟩
  have Hm : Hid ((newWs ps pi ph).length = m) := Lib.hid hm.symm
  have Hm0 : Hid (0 < m) := Lib.hid (by rw [hm, newWs_len]; have := HPl.out.s0; have := HPl.out.i0; have := HPl.out.h0; omega)
  have hm1 : m ≤ 8192 := by rw [hm]; exact hA.small
  clear hA hG hl hn hf he hBB hm
  clear p_0 p_1 p_2 p_3 p_f0 p_f1 p_f2 p_f3 z_p
  have hsz := (hb).size
  replace H_p := Lib.hid (row_below H_p.out hb)
  replace B := Lib.hid (below_only B.out hb)
  clear hb hsz
  go_upto_region 7 with (first | (refine wpList_store_row rfl 51 (.tmp 10) (.tmp 42) rfl w5.heap.size (ivA (List.replicate 8 0)) rfl rfl 51 _ (row_new _ _ _) info8i (by kernel_rfl) (by kernel_rfl) ?_; (try simp only [Act.put]); (try simp only [List.setIfInBounds_toArray]); (try simp only [List.set_cons_succ]); (try simp only [List.set_cons_zero])))
  refine alloc_set' w5 _ _ _ ?_
  intro w6 hr hb
  have hlB := B.out.size
  have hfr := HF.out.fresh (Nat.le_refl w5.heap.size)
  have hlp := HF.out.lt.1
  have hl_p := lt_of_heap H_p.out
  replace HF := Lib.hid (HF.out.below hb)
  have hsz := (hb).size
  replace H_p := Lib.hid (row_below H_p.out hb)
  replace B := Lib.hid (below_only B.out hb)
  clear hb hsz
  have H_e := Lib.hid (show w6.heap[w5.heap.size]? = some (.cells (ivA (List.replicate 8 0)) 51 (0, 0)) from hr)
  clear hr
  obtain ⟨g_e, hg_e⟩ : ∃ x, x = w5.heap.size := ⟨_, rfl⟩
  rw [← hg_e] at H_e ⊢
  have N_e : Hid (g_e ∉ FsT b gg q ∧ g_e ≠ p) := Lib.hid ⟨by rw [hg_e]; exact hfr, by omega⟩
  clear hfr hlp
  have M_p_e : Hid (g_p ≠ g_e) := Lib.hid (by omega)
  have M_e_p : Hid (g_e ≠ g_p) := Lib.hid (by omega)
  clear hl_p
  have L_e : Hid (w.heap.size ≤ g_e) := Lib.hid (by omega)
  clear hg_e hlB
  go_upto_region 8 with (first | (refine wpList_store_row rfl 52 (.tmp 11) (.tmp 43) rfl w6.heap.size (bvA (true :: List.replicate 7 false)) rfl rfl 52 _ (row_new _ _ _) info8b (by kernel_rfl) (by kernel_rfl) ?_; (try simp only [Act.put]); (try simp only [List.setIfInBounds_toArray]); (try simp only [List.set_cons_succ]); (try simp only [List.set_cons_zero])))
  refine alloc_set' w6 _ _ _ ?_
  intro w7 hr hb
  have hlB := B.out.size
  have hfr := HF.out.fresh (Nat.le_refl w6.heap.size)
  have hlp := HF.out.lt.1
  have hl_p := lt_of_heap H_p.out
  have hl_e := lt_of_heap H_e.out
  replace HF := Lib.hid (HF.out.below hb)
  have hsz := (hb).size
  replace H_p := Lib.hid (row_below H_p.out hb)
  replace H_e := Lib.hid (row_below H_e.out hb)
  replace B := Lib.hid (below_only B.out hb)
  clear hb hsz
  have H_m := Lib.hid (show w7.heap[w6.heap.size]? = some (.cells (bvA (true :: List.replicate 7 false)) 52 (0, 0)) from hr)
  clear hr
  obtain ⟨g_m, hg_m⟩ : ∃ x, x = w6.heap.size := ⟨_, rfl⟩
  rw [← hg_m] at H_m ⊢
  have N_m : Hid (g_m ∉ FsT b gg q ∧ g_m ≠ p) := Lib.hid ⟨by rw [hg_m]; exact hfr, by omega⟩
  clear hfr hlp
  have M_p_m : Hid (g_p ≠ g_m) := Lib.hid (by omega)
  have M_m_p : Hid (g_m ≠ g_p) := Lib.hid (by omega)
  clear hl_p
  have M_e_m : Hid (g_e ≠ g_m) := Lib.hid (by omega)
  have M_m_e : Hid (g_m ≠ g_e) := Lib.hid (by omega)
  clear hl_e
  have L_m : Hid (w.heap.size ≤ g_m) := Lib.hid (by omega)
  clear hg_m hlB
  have HEp := Lib.hid (epR_new HPl.out)
  go_wp2_with fail
  go_loopw [12] (fun t wr => ∃ (k : Nat) (S : Sco) (ws : List Int) (q : Option Nat) (E : List Int) (Md : List Bool), k ≤ L.length ∧ k ≤ 40 ∧ t = .int .i64 k ∧ (S.l.length : Int) = ps ∧ ws.length = m ∧ Fs BB wr p b gg q f e S ws ∧ wr.heap[g_p]? = some (.cells #[.int .i64 ps, .int .i64 pt, .int .i64 pi, .int .i64 ph] 23 (0, 0)) ∧ Below w.heap.size w wr ∧ EpR S E Md k ∧ wr.heap[g_e]? = some (.cells (ivA E) 51 (0, 0)) ∧ wr.heap[g_m]? = some (.cells (bvA Md) 52 (0, 0)) ∧ (g_e ∉ FsT b gg q ∧ g_e ≠ p) ∧ (g_m ∉ FsT b gg q ∧ g_m ≠ p)) (fun t _ => (40 - intOf t).toNat)
  case atStart => exact ⟨0, _, _, _, _, _, Nat.zero_le _, by omega, rfl, HlS.out, Hm.out, HF.out, H_p.out, B.out, HEp.out, H_e.out, H_m.out, N_e.out, N_m.out⟩
  case round =>
    clear HF H_p B HlS Hm HEp H_e H_m N_e N_m
    obtain ⟨k, S, ws, q, E, Md, hk, hk2, rfl, hlS, hm, hF, hp, hB, hE, he, hmm, hne, hnm⟩ := hrel
    have HlS := Lib.hid hlS
    have Hmu := Lib.hid hm
    have HF := Lib.hid hF
    have H_p := Lib.hid hp
    have B := Lib.hid hB
    have HEp := Lib.hid hE
    have H_e := Lib.hid he
    have H_m := Lib.hid hmm
    have N_e := Lib.hid hne
    have N_m := Lib.hid hnm
    clear hlS hm hF hp hB hE he hmm hne hnm
    by_cases hlt : k < L.length ∧ k < 40
    · skip
      obtain ⟨hlt, hlt2⟩ := hlt
      have hlt3 : (k : Int) < 40 := by omega
      obtain ⟨bA, off, rfl, hbA, hcA⟩ := fops_at HL0.out (by omega)
      obtain ⟨⟨mk, n⟩, hop⟩ : ∃ o, L[k]? = some o := ⟨_, List.getElem?_eq_getElem hlt⟩
      have Hn : Hid (-9223372036854775808 ≤ n ∧ n ≤ 9223372036854775807) := Lib.hid (Hq.out _ (List.mem_of_getElem? hop))
      obtain ⟨k0, k1⟩ := hcA k _ hop
      simp only at k0 k1
      have K0 := Lib.hid k0
      have K1 := Lib.hid k1
      have HbA := Lib.hid hbA
      have hbA2 : bA < wr.heap.size := Nat.lt_of_lt_of_le hbA B.out.size
      clear hcA hop k0 k1
      clear hbA
      have cA0 : wr.cell? ⟨bA, off + k * 2, none⟩ = some (.bool mk) := (B.out.cell (p := ⟨bA, off + k * 2, none⟩) HbA.out).trans K0.out
      have cA1 : wr.cell? ⟨bA, off + k * 2 + 1, none⟩ = some (.int .i64 n) := (B.out.cell (p := ⟨bA, off + k * 2 + 1, none⟩) HbA.out).trans K1.out
      have zA : bA < wr.heap.size := Nat.lt_of_lt_of_le HbA.out B.out.size
      go_upto_region 11 with fail
      try simp only [Act.put]
      go_cut [13, 14] from 54 to 64 (fun vd ve wx => ∃ kc cA q' gr, vd = .pointer (some ⟨gr, 0, none⟩) ∧ ve = .bool (done14 mk n S) ∧ wx.heap[gr]? = some (.cells (run14 f e ps mk n S ⟨cA, 0, kc⟩).arr 42 (0, 0)) ∧ wr.heap.size ≤ gr ∧ gr ∉ FsT b gg q' ∧ gr ≠ p ∧ Fs BB wx p b gg q' f e (does14 f e mk n S) (words14 mk n S ws) ∧ NewQ wr q q' ∧ Keep (FsT b gg q) wr wx)
      case first =>
        refine wp_region_held_drew (S := fun W' => W'.heap[g_p]? = some (.cells #[.int .i64 ps, .int .i64 pt, .int .i64 pi, .int .i64 ph] 23 (0, 0)) ∧ W'.cell? ⟨bA, off + k * 2, none⟩ = some (.bool mk) ∧ W'.cell? ⟨bA, off + k * 2 + 1, none⟩ = some (.int .i64 n) ∧ bA < W'.heap.size) (by kernel_rfl) (show wr.drew.heap[_]? = _ ∧ wr.drew.cell? _ = _ ∧ wr.drew.cell? _ = _ ∧ _ from ⟨H_p.out, cA0, cA1, zA⟩) ?_
        intro hS
        have hF0 : Fs BB wr.drew p b gg q f e S ws := HF.out.below (Below.drew (Below.refl _ _))
        have hK0 : Keep (FsT b gg q) wr wr.drew := (Keep.refl _ _).drew
        have hNA : bA ∉ FsT b gg q := HF.out.elder (Nat.lt_of_lt_of_le HbA.out HBB.out)
        clear cA0 cA1 zA hbA2
        have hsz0 : wr.heap.size ≤ wr.drew.heap.size := Nat.le_refl _
        generalize wr.drew = y0 at hsz0 hS hF0 hK0 ⊢
        refine wpAnyH_take_at (i := 0) (v := .agg #[.int .i64 ps, .int .i64 pt, .int .i64 pi, .int .i64 ph]) (some 55) rfl rfl (by kernel_rfl) (by kernel_rfl) (by kernel_rfl) (fun _ _ _ h => h) (yieldsIf_load_row (by kernel_rfl) 23 (.tmp 6) rfl g_p rfl #[.int .i64 ps, .int .i64 pt, .int .i64 pi, .int .i64 ph] (fun W' hW' => hW'.1) undPln4 rfl infoPln4) (by assumption) ?_
        try simp only [Act.put]
        try simp only [List.setIfInBounds_toArray]
        try simp only [List.set_cons_succ]
        try simp only [List.set_cons_zero]
        refine wpAnyH_take_at (i := 1) (v := ?v1x45) (some 56) rfl rfl (by kernel_rfl) (by kernel_rfl) (by kernel_rfl) (fun _ _ _ h => h) (Or.inl ⟨by kernel_rfl, ?h1x45⟩) (by assumption) ?r1x45
        case h1x45 => (intro w' hSw; obtain ⟨s1, s2, s3, s4⟩ := hSw; go_simp; first | done | (with_reducible rfl))
        try simp only [Act.put]
        try simp only [List.setIfInBounds_toArray]
        try simp only [List.set_cons_succ]
        try simp only [List.set_cons_zero]
        refine wpAnyH_take_at (i := 2) (v := ?v2x46) (some 57) rfl rfl (by kernel_rfl) (by kernel_rfl) (by kernel_rfl) (fun _ _ _ h => h) (Or.inl ⟨by kernel_rfl, ?h2x46⟩) (by assumption) ?r2x46
        case h2x46 => (intro w' hSw; obtain ⟨s1, s2, s3, s4⟩ := hSw; go_simp; first | done | (with_reducible rfl))
        try simp only [Act.put]
        try simp only [List.setIfInBounds_toArray]
        try simp only [List.set_cons_succ]
        try simp only [List.set_cons_zero]
        refine wpAnyH_take_at (i := 3) (v := ?v3x47) (some 58) rfl rfl (by kernel_rfl) (by kernel_rfl) (by kernel_rfl) (fun _ _ _ h => h) (Or.inl ⟨by kernel_rfl, ?h3x47⟩) (by assumption) ?r3x47
        case h3x47 => (intro w' hSw; obtain ⟨s1, s2, s3, s4⟩ := hSw; go_simp; first | done | (with_reducible rfl))
        try simp only [Act.put]
        try simp only [List.setIfInBounds_toArray]
        try simp only [List.set_cons_succ]
        try simp only [List.set_cons_zero]
        refine wpAnyH_take_at (i := 4) (v := ?v4x48) (some 59) rfl rfl (by kernel_rfl) (by kernel_rfl) (by kernel_rfl) (fun _ _ _ h => h) (Or.inl ⟨by kernel_rfl, ?h4x48⟩) (by assumption) ?r4x48
        case h4x48 => (intro w' hSw; obtain ⟨s1, s2, s3, s4⟩ := hSw; go_simp; first | done | (with_reducible rfl))
        try simp only [Act.put]
        try simp only [List.setIfInBounds_toArray]
        try simp only [List.set_cons_succ]
        try simp only [List.set_cons_zero]
        refine wpAnyH_take_at (i := 5) (v := ?v5x49) (some 60) rfl rfl (by kernel_rfl) (by kernel_rfl) (by kernel_rfl) (fun _ _ _ h => h) (Or.inl ⟨by kernel_rfl, ?h5x49⟩) (by assumption) ?r5x49
        case h5x49 => (intro w' hSw; obtain ⟨s1, s2, s3, s4⟩ := hSw; go_simp; first | done | (with_reducible rfl))
        try simp only [Act.put]
        try simp only [List.setIfInBounds_toArray]
        try simp only [List.set_cons_succ]
        try simp only [List.set_cons_zero]
        refine wpAnyH_take_at (i := 6) (v := ?v6x50) (some 61) rfl rfl (by kernel_rfl) (by kernel_rfl) (by kernel_rfl) (fun _ _ _ h => h) (Or.inl ⟨by kernel_rfl, ?h6x50⟩) (by assumption) ?r6x50
        case h6x50 => (intro w' hSw; obtain ⟨s1, s2, s3, s4⟩ := hSw; go_simp; first | done | (with_reducible rfl))
        try simp only [Act.put]
        try simp only [List.setIfInBounds_toArray]
        try simp only [List.set_cons_succ]
        try simp only [List.set_cons_zero]
        refine wpAnyH_ready (rs := [7, 11]) (by kernel_rfl) (by simp) ?_
        refine AllReadyH.cons rfl (fun K hK => ?_) (AllReadyH.cons rfl (fun K hK => ?_) AllReadyH.nil)
        · skip
          go_simp
          refine (steps_any BB p b gg q f e S ws ps pt pi ph mk n _ HPl.out hF0 HlS.out Hn.out).mono ?_
          rintro e' y8 ⟨kc, cA, q', rfl, hF1, hq1, hK1⟩
          go_simp
          have hszS := hK0.size
          replace hK0 := hK0.trans hK1
          refine hK.out _ _ (by obtain ⟨s1, s2, s3, s4⟩ := hS; exact ⟨hK1.row s1 (hF0.elder E_p.out), hK1.cell s2 hNA, hK1.cell s3 hNA, Nat.lt_of_lt_of_le s4 hK1.size⟩) (fun hS => ?_)
          clear hK K
          try simp only [Act.put]
          try simp only [List.setIfInBounds_toArray]
          try simp only [List.set_cons_succ]
          try simp only [List.set_cons_zero]
          refine wpAnyH_take_at (i := 8) (v := ?v8x51) (some 54) rfl rfl (by kernel_rfl) (by kernel_rfl) (by kernel_rfl) (fun _ _ _ h => h) (Or.inl ⟨by kernel_rfl, ?h8x51⟩) (by assumption) ?r8x51
          case h8x51 => (intro w hSw; (try dsimp only at hSw); go_simp; first | done | (with_reducible rfl))
          try simp only [Act.put]
          try simp only [List.setIfInBounds_toArray]
          try simp only [List.set_cons_succ]
          try simp only [List.set_cons_zero]
          refine wpAnyH_take_at (i := 9) (v := ?v9x52) (some 63) rfl rfl (by kernel_rfl) (by kernel_rfl) (by kernel_rfl) (fun _ _ _ h => h) (Or.inl ⟨by kernel_rfl, ?h9x52⟩) (by assumption) ?r9x52
          case h9x52 => (intro w hSw; (try dsimp only at hSw); go_simp; first | done | (with_reducible rfl))
          try simp only [Act.put]
          try simp only [List.setIfInBounds_toArray]
          try simp only [List.set_cons_succ]
          try simp only [List.set_cons_zero]
          refine wpAnyH_take_at (i := 10) (v := ?v10x53) (some 64) rfl rfl (by kernel_rfl) (by kernel_rfl) (by kernel_rfl) (fun _ _ _ h => h) (Or.inl ⟨by kernel_rfl, ?h10x53⟩) (by assumption) ?r10x53
          case h10x53 => (intro w hSw; (try dsimp only at hSw); go_simp; first | done | (with_reducible rfl))
          try simp only [Act.put]
          try simp only [List.setIfInBounds_toArray]
          try simp only [List.set_cons_succ]
          try simp only [List.set_cons_zero]
          refine wpAnyH_ready (rs := [11]) (by kernel_rfl) (by simp) ?_
          refine AllReadyH.cons rfl (fun K hK => ?_) AllReadyH.nil
          refine step_alloc_run (some 13) rfl rfl rfl ?_
          refine k_alloc (fun yZ hZ hb => ?_)
          have hz0 : wr.heap.size ≤ y8.heap.size := hK0.size
          obtain ⟨gZ, HgZ⟩ : ∃ x, x = y8.heap.size := ⟨_, rfl⟩
          have hzn : gZ ∉ FsT b gg q' := by rw [HgZ]; exact hF1.fresh (Nat.le_refl _)
          have hzp : gZ ≠ p := by have := hF1.lt.1; omega
          have hzg : gZ ≠ g_p := by have := lt_of_heap hS.1; omega
          have hzA : gZ ≠ bA := by have := hS.2.2.2; omega
          rw [← HgZ] at hZ hz0 ⊢
          clear HgZ
          have hzl := lt_of_heap hZ
          replace hF1 := hF1.below hb
          replace hK0 := hK0.call hb
          refine hK.out _ _ (by obtain ⟨s1, s2, s3, s4⟩ := hS; exact ⟨row_below s1 hb, (hb.cell (lt_of_cell s2)).trans s2, (hb.cell (lt_of_cell s3)).trans s3, Nat.lt_of_lt_of_le s4 hb.size⟩) (fun hS => ?_)
          clear hK K
          try simp only [Act.put]
          try simp only [List.setIfInBounds_toArray]
          try simp only [List.set_cons_succ]
          try simp only [List.set_cons_zero]
          refine wpAnyH_ready (rs := [12]) (by kernel_rfl) (by simp) ?_
          refine AllReadyH.cons rfl (fun K hK => ?_) AllReadyH.nil
          refine step_store_row none rfl rfl 42 (.tmp 13) (.tmp 63) rfl gZ (run14 f e ps mk n S ⟨cA, 0, kc⟩).arr rfl rfl 42 ZRun hZ infoRun rfl (Rn.one _) ?_
          refine hK.out _ _ (by obtain ⟨s1, s2, s3, s4⟩ := hS; exact ⟨(setRow_other _ _ _ _ hzg.symm).trans s1, (cell_setRow hzA.symm).trans s2, (cell_setRow hzA.symm).trans s3, by simpa [World.setRow] using s4⟩) (fun hS => ?_)
          clear hK K
          try simp only [Act.put]
          try simp only [List.setIfInBounds_toArray]
          try simp only [List.set_cons_succ]
          try simp only [List.set_cons_zero]
          refine wpAnyH_take_at (i := 13) (v := ?v13x54) (some 14) rfl rfl (by kernel_rfl) (by kernel_rfl) (by kernel_rfl) (fun _ _ _ h => h) (Or.inl ⟨by kernel_rfl, ?h13x54⟩) (by assumption) ?r13x54
          case h13x54 => (intro w hSw; (try dsimp only at hSw); go_simp; first | done | (with_reducible rfl))
          try simp only [Act.put]
          try simp only [List.setIfInBounds_toArray]
          try simp only [List.set_cons_succ]
          try simp only [List.set_cons_zero]
          refine wpAnyH_done (by kernel_rfl) ?_ _
          go_wp2_with fail
          go_meet
          have hks := (Keep.refl [gZ] yZ).setRow (g := gZ) (.inl (by simp)) (run14 f e ps mk n S ⟨cA, 0, kc⟩).arr
          exact ⟨kc, cA, q', gZ, rfl, rfl, setRow_heap _ _ _ _ _ _ hZ, hz0, hzn, hzp, hF1.kept hks (fun j hj hm => by
            simp only [List.mem_singleton] at hj
            subst hj
            rcases List.mem_cons.1 hm with h9 | h9
            · exact hzp h9
            · exact hzn h9), fun j hj => (hq1 j hj).imp id (fun h9 => Nat.le_trans hszS h9), hK0.setRow (.inr hz0) _⟩
        · skip
          refine step_alloc_run (some 13) rfl rfl rfl ?_
          refine k_alloc (fun yZ hZ hb => ?_)
          have hz0 : wr.heap.size ≤ y0.heap.size := hK0.size
          obtain ⟨gZ, HgZ⟩ : ∃ x, x = y0.heap.size := ⟨_, rfl⟩
          have hzn : gZ ∉ FsT b gg q := by rw [HgZ]; exact hF0.fresh (Nat.le_refl _)
          have hzp : gZ ≠ p := by have := hF0.lt.1; omega
          have hzg : gZ ≠ g_p := by have := lt_of_heap hS.1; omega
          have hzA : gZ ≠ bA := by have := hS.2.2.2; omega
          rw [← HgZ] at hZ hz0 ⊢
          clear HgZ
          have hzl := lt_of_heap hZ
          replace hF0 := hF0.below hb
          replace hK0 := hK0.call hb
          refine hK.out _ _ (by obtain ⟨s1, s2, s3, s4⟩ := hS; exact ⟨row_below s1 hb, (hb.cell (lt_of_cell s2)).trans s2, (hb.cell (lt_of_cell s3)).trans s3, Nat.lt_of_lt_of_le s4 hb.size⟩) (fun hS => ?_)
          clear hK K
          try simp only [Act.put]
          try simp only [List.setIfInBounds_toArray]
          try simp only [List.set_cons_succ]
          try simp only [List.set_cons_zero]
          refine wpAnyH_ready (rs := [7]) (by kernel_rfl) (by simp) ?_
          refine AllReadyH.cons rfl (fun K hK => ?_) AllReadyH.nil
          go_simp
          refine (steps_any BB p b gg q f e S ws ps pt pi ph mk n _ HPl.out hF0 HlS.out Hn.out).mono ?_
          rintro e' y8 ⟨kc, cA, q', rfl, hF1, hq1, hK1⟩
          go_simp
          replace hZ := hK1.row hZ hzn
          have hzn' := notin_new hzn hzl hq1
          have hszS := hK0.size
          replace hK0 := hK0.trans hK1
          refine hK.out _ _ (by obtain ⟨s1, s2, s3, s4⟩ := hS; exact ⟨hK1.row s1 (hF0.elder E_p.out), hK1.cell s2 hNA, hK1.cell s3 hNA, Nat.lt_of_lt_of_le s4 hK1.size⟩) (fun hS => ?_)
          clear hK K
          try simp only [Act.put]
          try simp only [List.setIfInBounds_toArray]
          try simp only [List.set_cons_succ]
          try simp only [List.set_cons_zero]
          refine wpAnyH_take_at (i := 8) (v := ?v8x55) (some 54) rfl rfl (by kernel_rfl) (by kernel_rfl) (by kernel_rfl) (fun _ _ _ h => h) (Or.inl ⟨by kernel_rfl, ?h8x55⟩) (by assumption) ?r8x55
          case h8x55 => (intro w hSw; (try dsimp only at hSw); go_simp; first | done | (with_reducible rfl))
          try simp only [Act.put]
          try simp only [List.setIfInBounds_toArray]
          try simp only [List.set_cons_succ]
          try simp only [List.set_cons_zero]
          refine wpAnyH_take_at (i := 9) (v := ?v9x56) (some 63) rfl rfl (by kernel_rfl) (by kernel_rfl) (by kernel_rfl) (fun _ _ _ h => h) (Or.inl ⟨by kernel_rfl, ?h9x56⟩) (by assumption) ?r9x56
          case h9x56 => (intro w hSw; (try dsimp only at hSw); go_simp; first | done | (with_reducible rfl))
          try simp only [Act.put]
          try simp only [List.setIfInBounds_toArray]
          try simp only [List.set_cons_succ]
          try simp only [List.set_cons_zero]
          refine wpAnyH_take_at (i := 10) (v := ?v10x57) (some 64) rfl rfl (by kernel_rfl) (by kernel_rfl) (by kernel_rfl) (fun _ _ _ h => h) (Or.inl ⟨by kernel_rfl, ?h10x57⟩) (by assumption) ?r10x57
          case h10x57 => (intro w hSw; (try dsimp only at hSw); go_simp; first | done | (with_reducible rfl))
          try simp only [Act.put]
          try simp only [List.setIfInBounds_toArray]
          try simp only [List.set_cons_succ]
          try simp only [List.set_cons_zero]
          refine wpAnyH_ready (rs := [12]) (by kernel_rfl) (by simp) ?_
          refine AllReadyH.cons rfl (fun K hK => ?_) AllReadyH.nil
          refine step_store_row none rfl rfl 42 (.tmp 13) (.tmp 63) rfl gZ (run14 f e ps mk n S ⟨cA, 0, kc⟩).arr rfl rfl 42 ZRun hZ infoRun rfl (Rn.one _) ?_
          refine hK.out _ _ (by obtain ⟨s1, s2, s3, s4⟩ := hS; exact ⟨(setRow_other _ _ _ _ hzg.symm).trans s1, (cell_setRow hzA.symm).trans s2, (cell_setRow hzA.symm).trans s3, by simpa [World.setRow] using s4⟩) (fun hS => ?_)
          clear hK K
          try simp only [Act.put]
          try simp only [List.setIfInBounds_toArray]
          try simp only [List.set_cons_succ]
          try simp only [List.set_cons_zero]
          refine wpAnyH_take_at (i := 13) (v := ?v13x58) (some 14) rfl rfl (by kernel_rfl) (by kernel_rfl) (by kernel_rfl) (fun _ _ _ h => h) (Or.inl ⟨by kernel_rfl, ?h13x58⟩) (by assumption) ?r13x58
          case h13x58 => (intro w hSw; (try dsimp only at hSw); go_simp; first | done | (with_reducible rfl))
          try simp only [Act.put]
          try simp only [List.setIfInBounds_toArray]
          try simp only [List.set_cons_succ]
          try simp only [List.set_cons_zero]
          refine wpAnyH_done (by kernel_rfl) ?_ _
          go_wp2_with fail
          go_meet
          have hks := (Keep.refl [gZ] y8).setRow (g := gZ) (.inl (by simp)) (run14 f e ps mk n S ⟨cA, 0, kc⟩).arr
          exact ⟨kc, cA, q', gZ, rfl, rfl, setRow_heap _ _ _ _ _ _ hZ, hz0, hzn', hzp, hF1.kept hks (fun j hj hm => by
            simp only [List.mem_singleton] at hj
            subst hj
            rcases List.mem_cons.1 hm with h9 | h9
            · exact hzp h9
            · exact hzn' h9), fun j hj => (hq1 j hj).imp id (fun h9 => Nat.le_trans hszS h9), hK0.setRow (.inr hz0) _⟩
      case rest =>
        obtain ⟨kc, cA, q2, g_r, rfl, rfl, hr, hlr, hnr, hnp, hF, hq, hK⟩ := hcut
        obtain ⟨x1, hwx⟩ : ∃ x, x = wc := ⟨_, rfl⟩
        subst hwx
        clear cA0 cA1 zA hbA2
        replace H_p := Lib.hid (hK.row H_p.out (HF.out.elder E_p.out))
        have hl_e := lt_of_heap H_e.out
        have hn_e := N_e.out
        replace H_e := Lib.hid (hK.row H_e.out hn_e.1)
        replace N_e : Hid (g_e ∉ FsT b gg q2 ∧ g_e ≠ p) := Lib.hid ⟨notin_new hn_e.1 hl_e hq, hn_e.2⟩
        clear hl_e hn_e
        have hl_m := lt_of_heap H_m.out
        have hn_m := N_m.out
        replace H_m := Lib.hid (hK.row H_m.out hn_m.1)
        replace N_m : Hid (g_m ∉ FsT b gg q2 ∧ g_m ≠ p) := Lib.hid ⟨notin_new hn_m.1 hl_m hq, hn_m.2⟩
        clear hl_m hn_m
        replace B := Lib.hid (Keep.under B.out hK (by have := B.out.size; omega) (fun j hj => Nat.le_trans HBB.out (HF.out.ges j hj).1))
        replace HF := Lib.hid hF
        clear hF hq hK
        have H_r := Lib.hid (show x1.heap[g_r]? = some (.cells (run14 f e ps mk n S ⟨cA, 0, kc⟩).arr 42 (0, 0)) from hr)
        have N_r : Hid (g_r ∉ FsT b gg q2 ∧ g_r ≠ p) := Lib.hid ⟨hnr, hnp⟩
        clear hr hlr hnr hnp
        have HD : Hid (done14 mk n S = true → _) := Lib.hid fun hdn => done14_run (f := f) (e := e) (ch := ⟨cA, 0, kc⟩) hdn HlS.out
        have HS := Lib.hid (epR_step (f := f) (e := e) (mk := mk) (n := n) HEp.out hk2)
        have HlS2 : Hid (((does14 f e mk n S).l.length : Int) = ps) := Lib.hid (by rw [does14_len]; exact HlS.out)
        have Hmv : Hid ((words14 mk n S ws).length = m) := Lib.hid (by rw [words14_len, Hmu.out])
        obtain ⟨R, HR⟩ : ∃ x, Hid (run14 f e ps mk n S ⟨cA, 0, kc⟩ = x) := ⟨_, Lib.hid rfl⟩
        obtain ⟨S2, HS2⟩ : ∃ x, Hid (does14 f e mk n S = x) := ⟨_, Lib.hid rfl⟩
        obtain ⟨ws2, Hws2⟩ : ∃ x, Hid (words14 mk n S ws = x) := ⟨_, Lib.hid rfl⟩
        obtain ⟨dn, Hdn⟩ : ∃ x, Hid (done14 mk n S = x) := ⟨_, Lib.hid rfl⟩
        obtain ⟨code, Hcode⟩ : ∃ x, Hid (R.code = x) := ⟨_, Lib.hid rfl⟩
        rw [HR.out, Hdn.out] at HD
        rw [HS2.out, Hdn.out] at HS
        rw [HR.out] at H_r
        rw [HS2.out] at HF HlS2
        rw [Hws2.out] at HF Hmv
        rw [Hdn.out]
        obtain ⟨bC, HbC⟩ : ∃ x : Bool, Hid (x = (dn && ((code == 0) && mk))) := ⟨_, Lib.hid rfl⟩
        obtain ⟨bD, HbD⟩ : ∃ x : Bool, Hid (x = (dn && ((code == 0) && !mk))) := ⟨_, Lib.hid rfl⟩
        go_upto_region 12 with fail
        try simp only [Act.put]
        go_cut [77] from 65 to 77 (fun vd wx => vd = .bool bC ∧ x1 = wx)
        case first =>
          have hbC := HbC.out
          have o23 : x1.cell? ⟨g_r, 23, none⟩ = some (.int .i64 code) := by rw [row_cell H_r.out, ← Hcode.out]; rfl
          have zr := lt_of_heap H_r.out
          cases dn with
          | false =>
            go_wp2_with fail
            go_meet
            exact ⟨by rw [hbC]; rfl, rfl⟩
          | true =>
            have hD := HD.out rfl
            have o0 : x1.cell? ⟨g_r, 0, none⟩ = some (.int .u8 (if mk then 2 else 3)) := by rw [row_cell H_r.out, ← hD.2.2.2.2.1]; rfl
            clear hD
            by_cases hc0 : code = 0
            · subst hc0
              cases mk with
              | false =>
                simp only [Bool.false_eq_true, if_false] at o0
                go_wp2_with fail
                go_meet
                exact ⟨by rw [hbC]; rfl, rfl⟩
              | true =>
                simp only [if_true] at o0
                go_wp2_with fail
                go_meet
                exact ⟨by rw [hbC]; rfl, rfl⟩
            · have qc : (code == 0) = false := by simpa using hc0
              have hbC2 : bC = false := by rw [hbC, qc]; rfl
              go_wp2_with fail
              go_meet
              exact ⟨by rw [hbC2], rfl⟩
        case rest =>
          obtain ⟨rfl, hwx⟩ := hcut
          subst hwx
          go_upto_if 77 with fail
          try simp only [Act.put]
          go_cut [15] from 78 to 101 (fun v15 wx => ∃ Md1 : List Bool, wx.heap[g_m]? = some (.cells (bvA Md1) 52 (0, 0)) ∧ Keep [g_m] x1 wx ∧ (bC = false → Md1 = Md) ∧ (bC = true → EpR S2 E Md1 (k + 1)))
          case first =>
            cases bC with
            | false =>
              go_wp2_with fail
              go_meet
              exact ⟨Md, H_m.out, Keep.refl _ _, (fun _ => rfl), (fun h => by cases h)⟩
            | true =>
              have h1 := HbC.out
              obtain ⟨hdn, hc0, hmk⟩ : dn = true ∧ code = 0 ∧ mk = true := by
                have h2 : (dn && ((code == 0) && mk)) = true := h1.symm
                simp only [Bool.and_eq_true, beq_iff_eq] at h2
                exact ⟨h2.1, h2.2.1, h2.2.2⟩
              have hD := HD.out hdn
              obtain ⟨kk, e1, e2, e3, e4, e5, e6⟩ := HS.out.2.2.1 hmk (by rw [← hc0, ← Hcode.out, hD.2.2.2.2.2.1, if_pos hmk])
              have o24 : x1.cell? ⟨g_r, 24, none⟩ = some (.int .i64 (kk : Int)) := by rw [row_cell H_r.out, ← e1, ← (show R.an = (createS (begA mk n) S).1.1 by rw [hD.2.2.2.2.2.2, if_pos hmk])]; rfl
              have zr := lt_of_heap H_r.out
              obtain ⟨x0, _, _, _, _⟩ := box4 H_p.out
              have zp := lt_of_heap H_p.out
              have zm := lt_of_heap H_m.out
              have hkp : (kk : Int) < ps := by rw [← HlS.out]; omega
              have hk8 : kk < 8 := by have := HPl.out.s1; omega
              have hkI : (kk : Int) < 8 := by omega
              have hk0 : 0 ≤ (kk : Int) := by omega
              have ck : x1.cell? ⟨g_m, kk, none⟩ = some (.bool false) := by rw [row_cell H_m.out]; simp [e5]
              have cf := row_frozen H_m.out kk
              have E4 := Lib.hid e4
              have E6 := Lib.hid e6
              have hps8 : ps ≤ 8 := HPl.out.s1
              clear h1 hdn hc0 hmk hD e1 e4 e5 e6
              go_wp2_with fail
              go_loopw [15] (fun v wz => ∃ t : Nat, 1 ≤ t ∧ t ≤ kk ∧ v = .int .i64 t ∧ x1 = wz) (fun v _ => (kk - intOf v).toNat)
              case atStart => exact ⟨1, Nat.le_refl _, e2, by first | rfl | trivial, by first | rfl | trivial⟩
              case round =>
                obtain ⟨tt, ht1, ht2, rfl, hwz⟩ := hrel
                subst hwz
                have htp : (tt : Int) < ps := by omega
                have ht8 : (tt : Int) < 8 := by omega
                have ht0 : 0 ≤ (tt : Int) := by omega
                have htn : tt < 8 := by omega
                by_cases htk : tt < kk
                · have ct : x1.cell? ⟨g_m, tt, none⟩ = some (.bool true) := by rw [row_cell H_m.out]; simp [E4.out tt ht1 htk]
                  clear ck cf
                  go_wp2_with fail
                  go_roundw
                  case rel => exact ⟨tt + 1, by omega, by omega, by go_num, by first | rfl | trivial⟩
                  case measure => simp [intOf]; omega
                · obtain rfl : tt = kk := by omega
                  clear htk ht2
                  go_wp2_with fail
                  go_meet
                  exact ⟨Md.set tt true, by rw [← bvA_set]; exact row_set H_m.out _, (Keep.refl [g_m] x1).setCell (p := ⟨g_m, tt, none⟩) (.inl (by simp)) _, (fun h => by cases h), fun _ => E6.out⟩
          case rest =>
            obtain ⟨Md1, hm1, hK, hM0, hM1⟩ := hcut
            obtain ⟨x2, hwx⟩ : ∃ x, x = wc := ⟨_, rfl⟩
            subst hwx
            have HM0 := Lib.hid hM0
            have HM1 := Lib.hid hM1
            clear hM0 hM1
            have M_r_m : Hid (g_r ≠ g_m) := Lib.hid (by intro h9; have h8 := H_r.out; rw [h9, H_m.out] at h8; simp at h8)
            have M_r_e : Hid (g_r ≠ g_e) := Lib.hid (by intro h9; have h8 := H_r.out; rw [h9, H_e.out] at h8; simp at h8)
            replace H_p := Lib.hid (hK.row H_p.out (by simp; exact M_p_m.out))
            replace H_e := Lib.hid (hK.row H_e.out (by simp; exact M_e_m.out))
            replace H_r := Lib.hid (hK.row H_r.out (by simp; exact M_r_m.out))
            replace HF := Lib.hid (HF.out.kept hK (fun i hi hm => by
              simp only [List.mem_cons, List.not_mem_nil, or_false] at hi
              subst hi
              rcases List.mem_cons.1 hm with h9 | h9
              · exact N_m.out.2 h9
              · exact N_m.out.1 h9))
            replace B := Lib.hid (Keep.under B.out hK (by have := B.out.size; omega) (by simp; exact L_m.out))
            clear hK
            replace H_m := Lib.hid hm1
            clear hm1
            go_upto_region 19 with fail
            try simp only [Act.put]
            go_cut [114] from 102 to 114 (fun vd wx => vd = .bool bD ∧ x2 = wx)
            case first =>
              have hbC := HbD.out
              have o23 : x2.cell? ⟨g_r, 23, none⟩ = some (.int .i64 code) := by rw [row_cell H_r.out, ← Hcode.out]; rfl
              have zr := lt_of_heap H_r.out
              cases dn with
              | false =>
                go_wp2_with fail
                go_meet
                exact ⟨by rw [hbC]; rfl, rfl⟩
              | true =>
                have hD := HD.out rfl
                have o0 : x2.cell? ⟨g_r, 0, none⟩ = some (.int .u8 (if mk then 2 else 3)) := by rw [row_cell H_r.out, ← hD.2.2.2.2.1]; rfl
                clear hD
                by_cases hc0 : code = 0
                · subst hc0
                  cases mk with
                  | false =>
                    simp only [Bool.false_eq_true, if_false] at o0
                    go_wp2_with fail
                    go_meet
                    exact ⟨by rw [hbC]; rfl, rfl⟩
                  | true =>
                    simp only [if_true] at o0
                    go_wp2_with fail
                    go_meet
                    exact ⟨by rw [hbC]; rfl, rfl⟩
                · have qc : (code == 0) = false := by simpa using hc0
                  have hbC2 : bD = false := by rw [hbC, qc]; rfl
                  go_wp2_with fail
                  go_meet
                  exact ⟨by rw [hbC2], rfl⟩
            case rest =>
              obtain ⟨rfl, hwx⟩ := hcut
              subst hwx
              go_upto_if 114 with fail
              try simp only [Act.put]
              go_cut [] from 115 to 145 (fun wx => ∃ (Md2 : List Bool) (E2 : List Int), wx.heap[g_m]? = some (.cells (bvA Md2) 52 (0, 0)) ∧ wx.heap[g_e]? = some (.cells (ivA E2) 51 (0, 0)) ∧ Keep [g_m, g_e] x2 wx ∧ EpR S2 E2 Md2 (k + 1))
              case first =>
                cases bD with
                | false =>
                  have hEp : EpR S2 E Md1 (k + 1) := by
                    cases hb : bC with
                    | true => exact HM1.out hb
                    | false =>
                      rw [HM0.out hb]
                      cases hdn : dn with
                      | false => exact HS.out.1 hdn
                      | true =>
                        refine HS.out.2.1 hdn ?_
                        rw [← (HD.out hdn).2.2.2.2.2.1, Hcode.out]
                        intro hc
                        have h1 := HbC.out
                        have h2 := HbD.out
                        rw [hb, hdn, hc] at h1
                        rw [hdn, hc] at h2
                        cases mk <;> simp at h1 h2
                  have HEp2 := Lib.hid hEp
                  clear hEp
                  go_wp2_with fail
                  go_meet
                  exact ⟨Md1, E, H_m.out, H_e.out, Keep.refl _ _, HEp2.out⟩
                | true =>
                  have h1 := HbD.out
                  obtain ⟨hdn, hc0, hmk⟩ : dn = true ∧ code = 0 ∧ mk = false := by
                    have h2 : (dn && ((code == 0) && !mk)) = true := h1.symm
                    simp only [Bool.and_eq_true, beq_iff_eq, Bool.not_eq_true'] at h2
                    exact ⟨h2.1, h2.2.1, h2.2.2⟩
                  have hD := HD.out hdn
                  have hM : Md1 = Md := HM0.out (by rw [HbC.out, hmk]; simp)
                  rw [hM] at H_m
                  obtain ⟨kk, e1, e2, e3, e4, ep, e5, e6, e7⟩ := HS.out.2.2.2 hmk hdn (by rw [← hc0, ← Hcode.out, hD.2.2.2.2.2.1, if_neg (by rw [hmk]; simp)])
                  have o4 : x2.cell? ⟨g_r, 4, none⟩ = some (.int .i64 (kk : Int)) := by rw [row_cell H_r.out, ← e1, ← hD.2.2.2.1]; rfl
                  have zr := lt_of_heap H_r.out
                  obtain ⟨x0, _, _, _, _⟩ := box4 H_p.out
                  have zp := lt_of_heap H_p.out
                  have zm := lt_of_heap H_m.out
                  have ze := lt_of_heap H_e.out
                  have hkp : (kk : Int) < ps := by rw [← HlS.out]; omega
                  have hk8 : kk < 8 := by have := HPl.out.s1; omega
                  have hkI : (kk : Int) < 8 := by omega
                  have hk0 : 1 ≤ (kk : Int) := by omega
                  have hk00 : 0 ≤ (kk : Int) := by omega
                  have cm : x2.cell? ⟨g_m, kk, none⟩ = some (.bool true) := by rw [row_cell H_m.out]; simp [e4]
                  have cmf := row_frozen H_m.out kk
                  have ce : x2.cell? ⟨g_e, kk, none⟩ = some (.int .i64 ep) := by rw [row_cell H_e.out]; simp [e5]
                  have cef := row_frozen H_e.out kk
                  have hew : IntKind.i64.wrap (ep + 1) = ep + 1 := IntWalk.i64_in _ (by omega)
                  have mem := M_e_m.out
                  have mme := M_m_e.out
                  have mrm := M_r_m.out
                  have mre := M_r_e.out
                  have E7 := Lib.hid e7
                  clear h1 hdn hc0 hmk hD hM e1 e4 e5 e6 e7
                  go_wp2_with fail
                  go_meet
                  refine ⟨Md.set kk false, E.set kk (ep + 1), ?_, ?_, ((Keep.refl [g_m, g_e] x2).setCell (p := ⟨g_m, kk, none⟩) (.inl (by simp)) _).setCell (p := ⟨g_e, kk, none⟩) (.inl (by simp)) _, E7.out⟩
                  · rw [← bvA_set]
                    exact ((Keep.refl [g_e] (x2.setCell ⟨g_m, kk, none⟩ (.bool false))).setCell (p := ⟨g_e, kk, none⟩) (.inl (by simp)) _).row (row_set H_m.out _) (by simpa using mme)
                  · rw [← ivA_set]
                    exact row_set (((Keep.refl [g_m] x2).setCell (p := ⟨g_m, kk, none⟩) (.inl (by simp)) _).row H_e.out (by simpa using mem)) _
              case rest =>
                obtain ⟨Md2, E2, hm2, he2, hK, hE2⟩ := hcut
                obtain ⟨x3, hwx⟩ : ∃ x, x = wc := ⟨_, rfl⟩
                subst hwx
                have HEp2 := Lib.hid hE2
                clear hE2
                clear H_r
                replace H_p := Lib.hid (hK.row H_p.out (by simp; exact ⟨M_p_m.out, M_p_e.out⟩))
                replace HF := Lib.hid (HF.out.kept hK (fun i hi hm => by
                  simp only [List.mem_cons, List.not_mem_nil, or_false] at hi
                  rcases hi with hi | hi
                  · subst hi
                    rcases List.mem_cons.1 hm with h9 | h9
                    · exact N_m.out.2 h9
                    · exact N_m.out.1 h9
                  · subst hi
                    rcases List.mem_cons.1 hm with h9 | h9
                    · exact N_e.out.2 h9
                    · exact N_e.out.1 h9))
                replace B := Lib.hid (Keep.under B.out hK (by have := B.out.size; omega) (by simp; exact ⟨L_m.out, L_e.out⟩))
                clear hK
                replace H_m := Lib.hid hm2
                replace H_e := Lib.hid he2
                clear hm2 he2 HM0 HM1 HS HD HEp
                go_wp2_with fail
                go_loopw [16] (fun t wz => ∃ j : Nat, (j : Int) ≤ ps ∧ t = .int .i64 j ∧ Below x3.heap.size x3 wz) (fun t _ => (ps - intOf t).toNat)
                case atStart => exact ⟨0, by have := HPl.out.s0; omega, rfl, Below.refl _ _⟩
                case round =>
                  obtain ⟨j, hj, rfl, hbz⟩ := hrel
                  have HBz := Lib.hid hbz
                  have HF0 := Lib.hid (HF.out.below hbz)
                  have H_p0 := Lib.hid (row_below H_p.out hbz)
                  have H_e0 := Lib.hid (row_below H_e.out hbz)
                  have H_m0 := Lib.hid (row_below H_m.out hbz)
                  obtain ⟨x0, x1', x2', x3', _⟩ := box4 H_p0.out
                  have zp := lt_of_heap H_p0.out
                  clear hbz
                  by_cases hjm : (j : Int) < ps
                  · skip
                    obtain ⟨⟨⟨c1, c2, c3, c4⟩, ⟨y1, y2⟩⟩, hx⟩ : ∃ x, S2.l[j]? = some x := ⟨_, List.getElem?_eq_getElem (by have := HlS2.out; omega)⟩
                    have Hr := Lib.hid (HF0.out.ok _ (List.mem_of_getElem? hx)).r
                    have Hw := Lib.hid (HF0.out.s.blk j _ hx).1
                    have Hat := Lib.hid (HEp2.out.at_ j _ hx)
                    have Hj : Hid (0 ≤ (j : Int) ∧ (j : Int) ≤ ps - 1) := Lib.hid (by omega)
                    have j8 : j < 8 := by have := HPl.out.s1; omega
                    have jI : (j : Int) < 8 := by omega
                    have jI0 : 0 ≤ (j : Int) := by omega
                    clear hx
                    go_wp2_with fail
                    refine (foundCtl_any p b ps pt pi ph ws2 (8 * j) j ⟨c1, c2, c3, c4⟩ _ HPl.out HF0.out.a Hr.out Hw.out (by omega) Hj.out).mono ?_
                    rintro r y1' ⟨rfl, hb⟩
                    replace H_e0 := Lib.hid (row_below H_e0.out hb)
                    replace H_m0 := Lib.hid (row_below H_m0.out hb)
                    have HB1 := Lib.hid (below_only HBz.out hb)
                    clear hb x0 x1' x2' x3' zp
                    go_upto_region 28 with fail
                    refine one_row y1' _ _ ?_
                    intro y2' hC hb
                    obtain ⟨gc, hgc⟩ : ∃ x, x = y1'.heap.size := ⟨_, rfl⟩
                    rw [← hgc] at hC ⊢
                    have he0 := row_below H_e0.out hb
                    have hm0 := row_below H_m0.out hb
                    have HB2 := Lib.hid (below_only HB1.out hb)
                    obtain ⟨d0, d1, d2, d3, _⟩ := box4 hC
                    have zc := lt_of_heap hC
                    have ze := lt_of_heap he0
                    have zm := lt_of_heap hm0
                    have ce : y2'.cell? ⟨g_e, j, none⟩ = some (.int .i64 c4) := by rw [row_cell he0]; simp [Hat.out.1]
                    have cm : y2'.cell? ⟨g_m, j, none⟩ = some (.bool (!(c1 == 0))) := by rw [row_cell hm0]; simp [Hat.out.2]
                    clear hb hgc hC he0 hm0 d1 d2
                    try simp only [Act.put]
                    go_cut [149, 177] from 159 to 177 (fun v0 vd wx => vd = .bool false ∧ Below y2'.heap.size y2' wx)
                    case first =>
                      by_cases hs0 : c1 = 0
                      · subst hs0
                        have cm2 : y2'.cell? ⟨g_m, j, none⟩ = some (.bool false) := cm
                        clear cm
                        have cm := cm2
                        clear cm2
                        refine wp_region_held_drew (S := fun W' => W'.cell? ⟨gc, 0, none⟩ = some (.int .i64 0) ∧ W'.cell? ⟨gc, 3, none⟩ = some (.int .i64 c4) ∧ W'.cell? ⟨g_e, j, none⟩ = some (.int .i64 c4) ∧ W'.cell? ⟨g_m, j, none⟩ = some (.bool false)) (by kernel_rfl) (by first | exact ⟨d0, d3, ce, cm⟩ | (dsimp only; exact ⟨d0, d3, ce, cm⟩)) ?_
                        intro hS
                        have hb0 : Below y2'.heap.size y2' y2'.drew := Below.drew (Below.refl _ _)
                        clear d0 d3 ce cm
                        generalize y2'.drew = v0 at hS hb0 ⊢
                        refine wpAnyH_take_at (i := 0) (v := ?v0x59) (some 159) rfl rfl (by kernel_rfl) (by kernel_rfl) (by kernel_rfl) (fun _ _ _ h => h) (Or.inl ⟨by kernel_rfl, ?h0x59⟩) (by assumption) ?r0x59
                        case h0x59 => (intro w hSw; obtain ⟨s0, s1, s2, s3⟩ := hSw; go_simp; first | done | (with_reducible rfl))
                        try simp only [Act.put]
                        try simp only [List.setIfInBounds_toArray]
                        try simp only [List.set_cons_succ]
                        try simp only [List.set_cons_zero]
                        refine wpAnyH_take_at (i := 1) (v := ?v1x60) (some 160) rfl rfl (by kernel_rfl) (by kernel_rfl) (by kernel_rfl) (fun _ _ _ h => h) (Or.inl ⟨by kernel_rfl, ?h1x60⟩) (by assumption) ?r1x60
                        case h1x60 => (intro w hSw; obtain ⟨s0, s1, s2, s3⟩ := hSw; go_simp; first | done | (with_reducible rfl))
                        try simp only [Act.put]
                        try simp only [List.setIfInBounds_toArray]
                        try simp only [List.set_cons_succ]
                        try simp only [List.set_cons_zero]
                        refine wpAnyH_take_at (i := 2) (v := ?v2x61) (some 161) rfl rfl (by kernel_rfl) (by kernel_rfl) (by kernel_rfl) (fun _ _ _ h => h) (Or.inl ⟨by kernel_rfl, ?h2x61⟩) (by assumption) ?r2x61
                        case h2x61 => (intro w hSw; obtain ⟨s0, s1, s2, s3⟩ := hSw; go_simp; first | done | (with_reducible rfl))
                        try simp only [Act.put]
                        try simp only [List.setIfInBounds_toArray]
                        try simp only [List.set_cons_succ]
                        try simp only [List.set_cons_zero]
                        refine wpAnyH_take_at (i := 3) (v := ?v3x62) (some 162) rfl rfl (by kernel_rfl) (by kernel_rfl) (by kernel_rfl) (fun _ _ _ h => h) (Or.inl ⟨by kernel_rfl, ?h3x62⟩) (by assumption) ?r3x62
                        case h3x62 => (intro w hSw; obtain ⟨s0, s1, s2, s3⟩ := hSw; go_simp; first | done | (with_reducible rfl))
                        try simp only [Act.put]
                        try simp only [List.setIfInBounds_toArray]
                        try simp only [List.set_cons_succ]
                        try simp only [List.set_cons_zero]
                        refine wpAnyH_take_at (i := 4) (v := ?v4x63) (some 163) rfl rfl (by kernel_rfl) (by kernel_rfl) (by kernel_rfl) (fun _ _ _ h => h) (Or.inl ⟨by kernel_rfl, ?h4x63⟩) (by assumption) ?r4x63
                        case h4x63 => (intro w hSw; obtain ⟨s0, s1, s2, s3⟩ := hSw; go_simp; first | done | (with_reducible rfl))
                        try simp only [Act.put]
                        try simp only [List.setIfInBounds_toArray]
                        try simp only [List.set_cons_succ]
                        try simp only [List.set_cons_zero]
                        refine wpAnyH_take_at (i := 5) (v := ?v5x64) (some 164) rfl rfl (by kernel_rfl) (by kernel_rfl) (by kernel_rfl) (fun _ _ _ h => h) (Or.inl ⟨by kernel_rfl, ?h5x64⟩) (by assumption) ?r5x64
                        case h5x64 => (intro w hSw; obtain ⟨s0, s1, s2, s3⟩ := hSw; go_simp; first | done | (with_reducible rfl))
                        try simp only [Act.put]
                        try simp only [List.setIfInBounds_toArray]
                        try simp only [List.set_cons_succ]
                        try simp only [List.set_cons_zero]
                        refine wpAnyH_take_at (i := 6) (v := ?v6x65) (some 165) rfl rfl (by kernel_rfl) (by kernel_rfl) (by kernel_rfl) (fun _ _ _ h => h) (Or.inl ⟨by kernel_rfl, ?h6x65⟩) (by assumption) ?r6x65
                        case h6x65 => (intro w hSw; obtain ⟨s0, s1, s2, s3⟩ := hSw; go_simp; first | done | (with_reducible rfl))
                        try simp only [Act.put]
                        try simp only [List.setIfInBounds_toArray]
                        try simp only [List.set_cons_succ]
                        try simp only [List.set_cons_zero]
                        refine wpAnyH_take_at (i := 7) (v := ?v7x66) (some 166) rfl rfl (by kernel_rfl) (by kernel_rfl) (by kernel_rfl) (fun _ _ _ h => h) (Or.inl ⟨by kernel_rfl, ?h7x66⟩) (by assumption) ?r7x66
                        case h7x66 => (intro w hSw; obtain ⟨s0, s1, s2, s3⟩ := hSw; go_simp; first | done | (with_reducible rfl))
                        try simp only [Act.put]
                        try simp only [List.setIfInBounds_toArray]
                        try simp only [List.set_cons_succ]
                        try simp only [List.set_cons_zero]
                        refine wpAnyH_take_at (i := 8) (v := ?v8x67) (some 167) rfl rfl (by kernel_rfl) (by kernel_rfl) (by kernel_rfl) (fun _ _ _ h => h) (Or.inl ⟨by kernel_rfl, ?h8x67⟩) (by assumption) ?r8x67
                        case h8x67 => (intro w hSw; obtain ⟨s0, s1, s2, s3⟩ := hSw; go_simp; first | done | (with_reducible rfl))
                        try simp only [Act.put]
                        try simp only [List.setIfInBounds_toArray]
                        try simp only [List.set_cons_succ]
                        try simp only [List.set_cons_zero]
                        refine wpAnyH_take_at (i := 9) (v := ?v9x68) (some 168) rfl rfl (by kernel_rfl) (by kernel_rfl) (by kernel_rfl) (fun _ _ _ h => h) (Or.inl ⟨by kernel_rfl, ?h9x68⟩) (by assumption) ?r9x68
                        case h9x68 => (intro w hSw; obtain ⟨s0, s1, s2, s3⟩ := hSw; go_simp; first | done | (with_reducible rfl))
                        try simp only [Act.put]
                        try simp only [List.setIfInBounds_toArray]
                        try simp only [List.set_cons_succ]
                        try simp only [List.set_cons_zero]
                        refine wpAnyH_take_at (i := 10) (v := ?v10x69) (some 169) rfl rfl (by kernel_rfl) (by kernel_rfl) (by kernel_rfl) (fun _ _ _ h => h) (Or.inl ⟨by kernel_rfl, ?h10x69⟩) (by assumption) ?r10x69
                        case h10x69 => (intro w hSw; obtain ⟨s0, s1, s2, s3⟩ := hSw; go_simp; first | done | (with_reducible rfl))
                        try simp only [Act.put]
                        try simp only [List.setIfInBounds_toArray]
                        try simp only [List.set_cons_succ]
                        try simp only [List.set_cons_zero]
                        refine wpAnyH_take_at (i := 11) (v := ?v11x70) (some 170) rfl rfl (by kernel_rfl) (by kernel_rfl) (by kernel_rfl) (fun _ _ _ h => h) (Or.inl ⟨by kernel_rfl, ?h11x70⟩) (by assumption) ?r11x70
                        case h11x70 => (intro w hSw; obtain ⟨s0, s1, s2, s3⟩ := hSw; go_simp; first | done | (with_reducible rfl))
                        try simp only [Act.put]
                        try simp only [List.setIfInBounds_toArray]
                        try simp only [List.set_cons_succ]
                        try simp only [List.set_cons_zero]
                        refine wpAnyH_take_at (i := 12) (v := ?v12x71) (some 171) rfl rfl (by kernel_rfl) (by kernel_rfl) (by kernel_rfl) (fun _ _ _ h => h) (Or.inl ⟨by kernel_rfl, ?h12x71⟩) (by assumption) ?r12x71
                        case h12x71 => (intro w hSw; obtain ⟨s0, s1, s2, s3⟩ := hSw; go_simp; first | done | (with_reducible rfl))
                        try simp only [Act.put]
                        try simp only [List.setIfInBounds_toArray]
                        try simp only [List.set_cons_succ]
                        try simp only [List.set_cons_zero]
                        refine wpAnyH_take_at (i := 13) (v := .bool false) (some 172) rfl rfl (by kernel_rfl) (by kernel_rfl) (by kernel_rfl) (fun _ _ _ h => h) (Or.inl ⟨by kernel_rfl, ?h13qfalse⟩) (by assumption) ?r13qfalse
                        case h13qfalse => (intro w hSw; obtain ⟨s0, s1, s2, s3⟩ := hSw; go_simp; first | done | (with_reducible rfl) | (simp [hs0]; done) | (simp [qs0]; done))
                        try simp only [Act.put]
                        try simp only [List.setIfInBounds_toArray]
                        try simp only [List.set_cons_succ]
                        try simp only [List.set_cons_zero]
                        refine wpAnyH_take_at (i := 14) (v := ?v14x72) (some 173) rfl rfl (by kernel_rfl) (by kernel_rfl) (by kernel_rfl) (fun _ _ _ h => h) (Or.inl ⟨by kernel_rfl, ?h14x72⟩) (by assumption) ?r14x72
                        case h14x72 => (intro w hSw; obtain ⟨s0, s1, s2, s3⟩ := hSw; go_simp; first | done | (with_reducible rfl))
                        try simp only [Act.put]
                        try simp only [List.setIfInBounds_toArray]
                        try simp only [List.set_cons_succ]
                        try simp only [List.set_cons_zero]
                        refine wpAnyH_take_at (i := 15) (v := ?v15x73) (some 174) rfl rfl (by kernel_rfl) (by kernel_rfl) (by kernel_rfl) (fun _ _ _ h => h) (Or.inl ⟨by kernel_rfl, ?h15x73⟩) (by assumption) ?r15x73
                        case h15x73 => (intro w hSw; obtain ⟨s0, s1, s2, s3⟩ := hSw; go_simp; first | done | (with_reducible rfl))
                        try simp only [Act.put]
                        try simp only [List.setIfInBounds_toArray]
                        try simp only [List.set_cons_succ]
                        try simp only [List.set_cons_zero]
                        refine wpAnyH_take_at (i := 16) (v := ?v16x74) (some 175) rfl rfl (by kernel_rfl) (by kernel_rfl) (by kernel_rfl) (fun _ _ _ h => h) (Or.inl ⟨by kernel_rfl, ?h16x74⟩) (by assumption) ?r16x74
                        case h16x74 => (intro w hSw; obtain ⟨s0, s1, s2, s3⟩ := hSw; go_simp; first | done | (with_reducible rfl))
                        try simp only [Act.put]
                        try simp only [List.setIfInBounds_toArray]
                        try simp only [List.set_cons_succ]
                        try simp only [List.set_cons_zero]
                        refine wpAnyH_take_at (i := 17) (v := ?v17x75) (some 176) rfl rfl (by kernel_rfl) (by kernel_rfl) (by kernel_rfl) (fun _ _ _ h => h) (Or.inl ⟨by kernel_rfl, ?h17x75⟩) (by assumption) ?r17x75
                        case h17x75 => (intro w hSw; obtain ⟨s0, s1, s2, s3⟩ := hSw; go_simp; first | done | (with_reducible rfl))
                        try simp only [Act.put]
                        try simp only [List.setIfInBounds_toArray]
                        try simp only [List.set_cons_succ]
                        try simp only [List.set_cons_zero]
                        refine wpAnyH_take_at (i := 18) (v := ?v18x76) (some 177) rfl rfl (by kernel_rfl) (by kernel_rfl) (by kernel_rfl) (fun _ _ _ h => h) (Or.inl ⟨by kernel_rfl, ?h18x76⟩) (by assumption) ?r18x76
                        case h18x76 => (intro w hSw; obtain ⟨s0, s1, s2, s3⟩ := hSw; go_simp; first | done | (with_reducible rfl))
                        try simp only [Act.put]
                        try simp only [List.setIfInBounds_toArray]
                        try simp only [List.set_cons_succ]
                        try simp only [List.set_cons_zero]
                        refine wpAnyH_done (by kernel_rfl) ?_ _
                        go_wp2_with fail
                        go_meet
                        exact ⟨by first | rfl | simp, hb0⟩
                      · have qs0 : (c1 == 0) = false := by simpa using hs0
                        rw [qs0] at cm
                        have cm2 : y2'.cell? ⟨g_m, j, none⟩ = some (.bool true) := cm
                        clear cm
                        have cm := cm2
                        clear cm2
                        refine wp_region_held_drew (S := fun W' => W'.cell? ⟨gc, 0, none⟩ = some (.int .i64 c1) ∧ W'.cell? ⟨gc, 3, none⟩ = some (.int .i64 c4) ∧ W'.cell? ⟨g_e, j, none⟩ = some (.int .i64 c4) ∧ W'.cell? ⟨g_m, j, none⟩ = some (.bool true)) (by kernel_rfl) (by first | exact ⟨d0, d3, ce, cm⟩ | (dsimp only; exact ⟨d0, d3, ce, cm⟩)) ?_
                        intro hS
                        have hb0 : Below y2'.heap.size y2' y2'.drew := Below.drew (Below.refl _ _)
                        clear d0 d3 ce cm
                        generalize y2'.drew = v0 at hS hb0 ⊢
                        refine wpAnyH_take_at (i := 0) (v := ?v0x77) (some 159) rfl rfl (by kernel_rfl) (by kernel_rfl) (by kernel_rfl) (fun _ _ _ h => h) (Or.inl ⟨by kernel_rfl, ?h0x77⟩) (by assumption) ?r0x77
                        case h0x77 => (intro w hSw; obtain ⟨s0, s1, s2, s3⟩ := hSw; go_simp; first | done | (with_reducible rfl))
                        try simp only [Act.put]
                        try simp only [List.setIfInBounds_toArray]
                        try simp only [List.set_cons_succ]
                        try simp only [List.set_cons_zero]
                        refine wpAnyH_take_at (i := 1) (v := ?v1x78) (some 160) rfl rfl (by kernel_rfl) (by kernel_rfl) (by kernel_rfl) (fun _ _ _ h => h) (Or.inl ⟨by kernel_rfl, ?h1x78⟩) (by assumption) ?r1x78
                        case h1x78 => (intro w hSw; obtain ⟨s0, s1, s2, s3⟩ := hSw; go_simp; first | done | (with_reducible rfl))
                        try simp only [Act.put]
                        try simp only [List.setIfInBounds_toArray]
                        try simp only [List.set_cons_succ]
                        try simp only [List.set_cons_zero]
                        refine wpAnyH_take_at (i := 2) (v := ?v2x79) (some 161) rfl rfl (by kernel_rfl) (by kernel_rfl) (by kernel_rfl) (fun _ _ _ h => h) (Or.inl ⟨by kernel_rfl, ?h2x79⟩) (by assumption) ?r2x79
                        case h2x79 => (intro w hSw; obtain ⟨s0, s1, s2, s3⟩ := hSw; go_simp; first | done | (with_reducible rfl))
                        try simp only [Act.put]
                        try simp only [List.setIfInBounds_toArray]
                        try simp only [List.set_cons_succ]
                        try simp only [List.set_cons_zero]
                        refine wpAnyH_take_at (i := 3) (v := ?v3x80) (some 162) rfl rfl (by kernel_rfl) (by kernel_rfl) (by kernel_rfl) (fun _ _ _ h => h) (Or.inl ⟨by kernel_rfl, ?h3x80⟩) (by assumption) ?r3x80
                        case h3x80 => (intro w hSw; obtain ⟨s0, s1, s2, s3⟩ := hSw; go_simp; first | done | (with_reducible rfl))
                        try simp only [Act.put]
                        try simp only [List.setIfInBounds_toArray]
                        try simp only [List.set_cons_succ]
                        try simp only [List.set_cons_zero]
                        refine wpAnyH_take_at (i := 4) (v := ?v4x81) (some 163) rfl rfl (by kernel_rfl) (by kernel_rfl) (by kernel_rfl) (fun _ _ _ h => h) (Or.inl ⟨by kernel_rfl, ?h4x81⟩) (by assumption) ?r4x81
                        case h4x81 => (intro w hSw; obtain ⟨s0, s1, s2, s3⟩ := hSw; go_simp; first | done | (with_reducible rfl))
                        try simp only [Act.put]
                        try simp only [List.setIfInBounds_toArray]
                        try simp only [List.set_cons_succ]
                        try simp only [List.set_cons_zero]
                        refine wpAnyH_take_at (i := 5) (v := ?v5x82) (some 164) rfl rfl (by kernel_rfl) (by kernel_rfl) (by kernel_rfl) (fun _ _ _ h => h) (Or.inl ⟨by kernel_rfl, ?h5x82⟩) (by assumption) ?r5x82
                        case h5x82 => (intro w hSw; obtain ⟨s0, s1, s2, s3⟩ := hSw; go_simp; first | done | (with_reducible rfl))
                        try simp only [Act.put]
                        try simp only [List.setIfInBounds_toArray]
                        try simp only [List.set_cons_succ]
                        try simp only [List.set_cons_zero]
                        refine wpAnyH_take_at (i := 6) (v := ?v6x83) (some 165) rfl rfl (by kernel_rfl) (by kernel_rfl) (by kernel_rfl) (fun _ _ _ h => h) (Or.inl ⟨by kernel_rfl, ?h6x83⟩) (by assumption) ?r6x83
                        case h6x83 => (intro w hSw; obtain ⟨s0, s1, s2, s3⟩ := hSw; go_simp; first | done | (with_reducible rfl))
                        try simp only [Act.put]
                        try simp only [List.setIfInBounds_toArray]
                        try simp only [List.set_cons_succ]
                        try simp only [List.set_cons_zero]
                        refine wpAnyH_take_at (i := 7) (v := ?v7x84) (some 166) rfl rfl (by kernel_rfl) (by kernel_rfl) (by kernel_rfl) (fun _ _ _ h => h) (Or.inl ⟨by kernel_rfl, ?h7x84⟩) (by assumption) ?r7x84
                        case h7x84 => (intro w hSw; obtain ⟨s0, s1, s2, s3⟩ := hSw; go_simp; first | done | (with_reducible rfl))
                        try simp only [Act.put]
                        try simp only [List.setIfInBounds_toArray]
                        try simp only [List.set_cons_succ]
                        try simp only [List.set_cons_zero]
                        refine wpAnyH_take_at (i := 8) (v := ?v8x85) (some 167) rfl rfl (by kernel_rfl) (by kernel_rfl) (by kernel_rfl) (fun _ _ _ h => h) (Or.inl ⟨by kernel_rfl, ?h8x85⟩) (by assumption) ?r8x85
                        case h8x85 => (intro w hSw; obtain ⟨s0, s1, s2, s3⟩ := hSw; go_simp; first | done | (with_reducible rfl))
                        try simp only [Act.put]
                        try simp only [List.setIfInBounds_toArray]
                        try simp only [List.set_cons_succ]
                        try simp only [List.set_cons_zero]
                        refine wpAnyH_take_at (i := 9) (v := ?v9x86) (some 168) rfl rfl (by kernel_rfl) (by kernel_rfl) (by kernel_rfl) (fun _ _ _ h => h) (Or.inl ⟨by kernel_rfl, ?h9x86⟩) (by assumption) ?r9x86
                        case h9x86 => (intro w hSw; obtain ⟨s0, s1, s2, s3⟩ := hSw; go_simp; first | done | (with_reducible rfl))
                        try simp only [Act.put]
                        try simp only [List.setIfInBounds_toArray]
                        try simp only [List.set_cons_succ]
                        try simp only [List.set_cons_zero]
                        refine wpAnyH_take_at (i := 10) (v := ?v10x87) (some 169) rfl rfl (by kernel_rfl) (by kernel_rfl) (by kernel_rfl) (fun _ _ _ h => h) (Or.inl ⟨by kernel_rfl, ?h10x87⟩) (by assumption) ?r10x87
                        case h10x87 => (intro w hSw; obtain ⟨s0, s1, s2, s3⟩ := hSw; go_simp; first | done | (with_reducible rfl))
                        try simp only [Act.put]
                        try simp only [List.setIfInBounds_toArray]
                        try simp only [List.set_cons_succ]
                        try simp only [List.set_cons_zero]
                        refine wpAnyH_take_at (i := 11) (v := ?v11x88) (some 170) rfl rfl (by kernel_rfl) (by kernel_rfl) (by kernel_rfl) (fun _ _ _ h => h) (Or.inl ⟨by kernel_rfl, ?h11x88⟩) (by assumption) ?r11x88
                        case h11x88 => (intro w hSw; obtain ⟨s0, s1, s2, s3⟩ := hSw; go_simp; first | done | (with_reducible rfl))
                        try simp only [Act.put]
                        try simp only [List.setIfInBounds_toArray]
                        try simp only [List.set_cons_succ]
                        try simp only [List.set_cons_zero]
                        refine wpAnyH_take_at (i := 12) (v := ?v12x89) (some 171) rfl rfl (by kernel_rfl) (by kernel_rfl) (by kernel_rfl) (fun _ _ _ h => h) (Or.inl ⟨by kernel_rfl, ?h12x89⟩) (by assumption) ?r12x89
                        case h12x89 => (intro w hSw; obtain ⟨s0, s1, s2, s3⟩ := hSw; go_simp; first | done | (with_reducible rfl))
                        try simp only [Act.put]
                        try simp only [List.setIfInBounds_toArray]
                        try simp only [List.set_cons_succ]
                        try simp only [List.set_cons_zero]
                        refine wpAnyH_take_at (i := 13) (v := .bool true) (some 172) rfl rfl (by kernel_rfl) (by kernel_rfl) (by kernel_rfl) (fun _ _ _ h => h) (Or.inl ⟨by kernel_rfl, ?h13qtrue⟩) (by assumption) ?r13qtrue
                        case h13qtrue => (intro w hSw; obtain ⟨s0, s1, s2, s3⟩ := hSw; go_simp; first | done | (with_reducible rfl) | (simp [hs0]; done) | (simp [qs0]; done))
                        try simp only [Act.put]
                        try simp only [List.setIfInBounds_toArray]
                        try simp only [List.set_cons_succ]
                        try simp only [List.set_cons_zero]
                        refine wpAnyH_take_at (i := 14) (v := ?v14x90) (some 173) rfl rfl (by kernel_rfl) (by kernel_rfl) (by kernel_rfl) (fun _ _ _ h => h) (Or.inl ⟨by kernel_rfl, ?h14x90⟩) (by assumption) ?r14x90
                        case h14x90 => (intro w hSw; obtain ⟨s0, s1, s2, s3⟩ := hSw; go_simp; first | done | (with_reducible rfl))
                        try simp only [Act.put]
                        try simp only [List.setIfInBounds_toArray]
                        try simp only [List.set_cons_succ]
                        try simp only [List.set_cons_zero]
                        refine wpAnyH_take_at (i := 15) (v := ?v15x91) (some 174) rfl rfl (by kernel_rfl) (by kernel_rfl) (by kernel_rfl) (fun _ _ _ h => h) (Or.inl ⟨by kernel_rfl, ?h15x91⟩) (by assumption) ?r15x91
                        case h15x91 => (intro w hSw; obtain ⟨s0, s1, s2, s3⟩ := hSw; go_simp; first | done | (with_reducible rfl))
                        try simp only [Act.put]
                        try simp only [List.setIfInBounds_toArray]
                        try simp only [List.set_cons_succ]
                        try simp only [List.set_cons_zero]
                        refine wpAnyH_take_at (i := 16) (v := ?v16x92) (some 175) rfl rfl (by kernel_rfl) (by kernel_rfl) (by kernel_rfl) (fun _ _ _ h => h) (Or.inl ⟨by kernel_rfl, ?h16x92⟩) (by assumption) ?r16x92
                        case h16x92 => (intro w hSw; obtain ⟨s0, s1, s2, s3⟩ := hSw; go_simp; first | done | (with_reducible rfl))
                        try simp only [Act.put]
                        try simp only [List.setIfInBounds_toArray]
                        try simp only [List.set_cons_succ]
                        try simp only [List.set_cons_zero]
                        refine wpAnyH_take_at (i := 17) (v := ?v17x93) (some 176) rfl rfl (by kernel_rfl) (by kernel_rfl) (by kernel_rfl) (fun _ _ _ h => h) (Or.inl ⟨by kernel_rfl, ?h17x93⟩) (by assumption) ?r17x93
                        case h17x93 => (intro w hSw; obtain ⟨s0, s1, s2, s3⟩ := hSw; go_simp; first | done | (with_reducible rfl))
                        try simp only [Act.put]
                        try simp only [List.setIfInBounds_toArray]
                        try simp only [List.set_cons_succ]
                        try simp only [List.set_cons_zero]
                        refine wpAnyH_take_at (i := 18) (v := ?v18x94) (some 177) rfl rfl (by kernel_rfl) (by kernel_rfl) (by kernel_rfl) (fun _ _ _ h => h) (Or.inl ⟨by kernel_rfl, ?h18x94⟩) (by assumption) ?r18x94
                        case h18x94 => (intro w hSw; obtain ⟨s0, s1, s2, s3⟩ := hSw; go_simp; first | done | (with_reducible rfl))
                        try simp only [Act.put]
                        try simp only [List.setIfInBounds_toArray]
                        try simp only [List.set_cons_succ]
                        try simp only [List.set_cons_zero]
                        refine wpAnyH_done (by kernel_rfl) ?_ _
                        go_wp2_with fail
                        go_meet
                        exact ⟨by first | rfl | simp, hb0⟩
                    case rest =>
                      obtain ⟨rfl, hb⟩ := hcut
                      obtain ⟨y3', hwx⟩ : ∃ x, x = wc := ⟨_, rfl⟩
                      subst hwx
                      have HB4 := Lib.hid (below_only HB2.out hb)
                      clear hb d0 d3 ce cm zc ze zm
                      go_wp2_with fail
                      go_roundw
                      case rel => exact ⟨j + 1, by omega, by go_num, HB4.out⟩
                      case measure => simp [intOf]; omega
                  · skip
                    have hb := HBz.out
                    clear HF H_p H_e H_m
                    have HF := HF0
                    have H_p := H_p0
                    have H_e := H_e0
                    have H_m := H_m0
                    replace B := Lib.hid (below_only B.out hb)
                    clear hb HBz HF0 H_p0 H_e0 H_m0
                    go_wp2_with fail
                    go_roundw
                    case rel => exact ⟨k + 1, S2, ws2, q2, E2, Md2, by omega, by omega, by go_num, HlS2.out, Hmv.out, HF.out, H_p.out, B.out, HEp2.out, H_e.out, H_m.out, N_e.out, N_m.out⟩
                    case measure => simp [intOf]; omega
    · by_cases hl : k < L.length
      · have h100 : ¬ k < 40 := fun h => hlt ⟨hl, h⟩
        have B2 := B.out
        clear B hlt
        go_wp2_with fail
        go_ret
        exact ⟨rfl, B2⟩
      · have B2 := B.out
        clear B hlt
        go_wp2_with fail
        go_ret
        exact ⟨rfl, B2⟩

end Go.Proofs.Ythedndejlfkknaa
