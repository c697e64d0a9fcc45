/- Layer 14: the walk of FoundTouches. -/
import Derived.Test.YthedndejlfkknaaFLawPlain
import Derived.Test.YthedndejlfkknaaWords
namespace Go.Proofs.Ythedndejlfkknaa
open Go.RowKit
set_option linter.unusedVariables false
set_option linter.unusedSimpArgs false

set_option maxRecDepth 100000 in
set_option maxHeartbeats 8000000 in
theorem foundTouches_walk (s0 t0 i0 h0 : Int) (A : Option Addr) (cp : Nat) (L : List FOp) (w : World) (z0 : (Lit.int .i64 s0).wf = true) (z1 : (Lit.int .i64 t0).wf = true) (z2 : (Lit.int .i64 i0).wf = true) (z3 : (Lit.int .i64 h0).wf = true) (hLk : L.length ≤ cp) (hkm : cp ≤ maxLen) (hL : Cells w A (L.flatMap fopCells)) (hq : ∀ o ∈ L, FOpOk o) :
    Calls Try.prog 8 #[.agg #[.int .i64 s0, .int .i64 t0, .int .i64 i0, .int .i64 h0], .slice A L.length cp] w fun r w' => r = .returned (.bool true) ∧ Below w.heap.size w w' := by
  have hlm : L.length ≤ 9223372036854775807 := by unfold maxLen at hkm; omega
  have HL0 := Lib.hid hL
  have Hq := Lib.hid hq
  have hP0 := fitP_ok ⟨s0, t0, i0, h0⟩
  have hP1 : (fitP ⟨s0, t0, i0, h0⟩).h ≤ 1016 := by unfold fitP; simp only; omega
  have HFit : Hid (∀ w, Calls Try.prog 10 #[.agg #[.int .i64 s0, .int .i64 t0, .int .i64 i0, .int .i64 h0]] w fun r w' => r = .returned (fitP ⟨s0, t0, i0, h0⟩).val ∧ Below w.heap.size w w') := Lib.hid fun w => fit_plan ⟨s0, t0, i0, h0⟩ w
  obtain ⟨⟨ps, pt, pi, ph⟩, HP⟩ : ∃ x, Hid (fitP ⟨s0, t0, i0, h0⟩ = x) := ⟨_, Lib.hid rfl⟩
  rw [HP.out] at hP0 hP1 HFit
  have HPl : Hid (PlanOk ps pt pi ph) := Lib.hid (by obtain ⟨a1, a2, a3, a4, a5, a6, a7, a8, a9, a10⟩ := hP0; exact ⟨a1, a2, a3, a4, a5, a6, a7, a8, a9, a10⟩)
  have HPh : Hid (ph ≤ 1016) := Lib.hid hP1
  clear hL hq hkm hP0 hP1 z0 z1 z2 z3
  go_enter Try.func8, Try.ntmps8
  go_upto_region 1 with fail
  refine one_row w _ _ ?_
  intro w1 hr hb
  have B := Lib.hid (hb)
  clear hb
  have H_q := Lib.hid (show w1.heap[w.heap.size]? = some (.cells #[.int .i64 s0, .int .i64 t0, .int .i64 i0, .int .i64 h0] 23 (0, 0)) from hr)
  clear hr
  go_wp2_with fail
  refine (shown_any _).mono ?_
  rintro r w2 ⟨rfl, hb⟩
  have hsz := (hb).size
  replace H_q := Lib.hid (row_below H_q.out hb)
  replace B := Lib.hid (below_only B.out hb)
  clear hb hsz
  obtain ⟨q_0, q_1, q_2, q_3, q_f0, q_f1, q_f2, q_f3⟩ := box4 H_q.out
  have z_q := lt_of_heap H_q.out
  go_wp2_with fail
  refine (HFit.out _).mono ?_
  rintro r w3 ⟨rfl, hb⟩
  clear q_0 q_1 q_2 q_3 q_f0 q_f1 q_f2 q_f3 z_q
  have hsz := (hb).size
  replace H_q := Lib.hid (row_below H_q.out hb)
  replace B := Lib.hid (below_only B.out hb)
  clear hb hsz
  clear H_q
  go_upto_region 3 with fail
  refine one_row w3 _ _ ?_
  intro w4 hr hb
  have hlB := B.out.size
  have hsz := (hb).size
  replace B := Lib.hid (below_only B.out hb)
  clear hb hsz
  have H_p := Lib.hid (show w4.heap[w3.heap.size]? = some (.cells #[.int .i64 ps, .int .i64 pt, .int .i64 pi, .int .i64 ph] 23 (0, 0)) from hr)
  clear hr
  obtain ⟨g_p, hg_p⟩ : ∃ x, x = w3.heap.size := ⟨_, rfl⟩
  rw [← hg_p] at H_p ⊢
  have L_p : Hid (w.heap.size ≤ g_p) := Lib.hid (by omega)
  clear hg_p hlB
  obtain ⟨p_0, p_1, p_2, p_3, p_f0, p_f1, p_f2, p_f3⟩ := box4 H_p.out
  have z_p := lt_of_heap H_p.out
  go_wp2_with fail
  refine (foundNewG_any ps pt pi ph _ HPl.out).mono ?_
  rintro r w5 ⟨p, b, gg, q, rfl, hA, hG, hl, hn, hb⟩
  have E_p : Hid (g_p < w4.heap.size) := Lib.hid (lt_of_heap H_p.out)
  have HBB : Hid (w.heap.size ≤ w4.heap.size) := Lib.hid B.out.size
  have HF := Lib.hid (fs_new (t := pt) HPl.out hA hG hl hn)
  obtain ⟨BB, hBB⟩ : ∃ x, x = w4.heap.size := ⟨_, rfl⟩
  rw [← hBB] at E_p HBB HF
  obtain ⟨f, hf⟩ : ∃ x, x = 64 * ps + pi := ⟨_, rfl⟩
  obtain ⟨e, he⟩ : ∃ x, x = f + ph := ⟨_, rfl⟩
  rw [← hf, ← he] at HF
  have Hfe := Lib.hid (And.intro hf he)
  have HlS : Hid (((newS ⟨ps, pt, pi, ph⟩).l.length : Int) = ps) := Lib.hid (by have := HPl.out.s0; simp [newS]; omega)
  obtain ⟨m, hm⟩ : ∃ x, x = (newWs ps pi ph).length := ⟨_, rfl⟩
  have Hm : Hid ((newWs ps pi ph).length = m) := Lib.hid hm.symm
  have Hm0 : Hid (0 < m) := Lib.hid (by rw [hm, newWs_len]; have := HPl.out.s0; have := HPl.out.i0; have := HPl.out.h0; omega)
  have hm1 : m ≤ 8192 := by rw [hm]; exact hA.small
  clear hA hG hl hn hf he hBB hm
  clear p_0 p_1 p_2 p_3 p_f0 p_f1 p_f2 p_f3 z_p
  have hsz := (hb).size
  replace H_p := Lib.hid (row_below H_p.out hb)
  replace B := Lib.hid (below_only B.out hb)
  clear hb hsz
  go_wp2_with fail
  go_loopw [10] (fun t wr => ∃ (k : Nat) (S : Sco) (ws : List Int) (q : Option Nat), k ≤ L.length ∧ k ≤ 40 ∧ t = .int .i64 k ∧ (S.l.length : Int) = ps ∧ ws.length = m ∧ Fs BB wr p b gg q f e S ws ∧ wr.heap[g_p]? = some (.cells #[.int .i64 ps, .int .i64 pt, .int .i64 pi, .int .i64 ph] 23 (0, 0)) ∧ Below w.heap.size w wr) (fun t _ => (40 - intOf t).toNat)
  case atStart => exact ⟨0, _, _, _, Nat.zero_le _, by omega, rfl, HlS.out, Hm.out, HF.out, H_p.out, B.out⟩
  case round =>
    clear HF H_p B HlS Hm
    obtain ⟨k, S, ws, q, hk, hk2, rfl, hlS, hm, hF, hp, hB⟩ := hrel
    have HlS := Lib.hid hlS
    have Hmu := Lib.hid hm
    have HF := Lib.hid hF
    have H_p := Lib.hid hp
    have B := Lib.hid hB
    clear hlS hm hF hp hB
    by_cases hlt : k < L.length ∧ k < 40
    · skip
      obtain ⟨hlt, hlt2⟩ := hlt
      obtain ⟨bA, off, rfl, hbA, hcA⟩ := fops_at HL0.out (by omega)
      obtain ⟨⟨mk, n⟩, hop⟩ : ∃ o, L[k]? = some o := ⟨_, List.getElem?_eq_getElem hlt⟩
      have Hn : Hid (-9223372036854775808 ≤ n ∧ n ≤ 9223372036854775807) := Lib.hid (Hq.out _ (List.mem_of_getElem? hop))
      obtain ⟨k0, k1⟩ := hcA k _ hop
      simp only at k0 k1
      have K0 := Lib.hid k0
      have K1 := Lib.hid k1
      have HbA := Lib.hid hbA
      have hbA2 : bA < wr.heap.size := Nat.lt_of_lt_of_le hbA B.out.size
      clear hcA hop k0 k1
      clear hbA
      go_wp2_with fail
      refine (words_any p b _ _ HF.out.a).mono ?_
      rintro r x1 ⟨v, rfl, A_u, c_u, rfl, hcA, hcs, hnw, hb⟩
      obtain ⟨b_u, o_u, rfl, hW⟩ := hcs (by rw [wd_len, Hmu.out]; exact Hm0.out)
      have G_u : Hid (b_u ∉ FsT b gg q) := Lib.hid (HF.out.fresh (hnw _ rfl))
      rw [Hmu.out]
      clear hcA hcs hnw
      replace HF := Lib.hid (HF.out.below hb)
      have hsz := (hb).size
      replace H_p := Lib.hid (row_below H_p.out hb)
      replace B := Lib.hid (below_only B.out hb)
      clear hb hsz
      have W_u : Hid (∀ (jj : Nat) x, ws[jj]? = some x → x1.cell? ⟨b_u, o_u + jj, none⟩ = some (.int .u64 x)) := Lib.hid fun n x hx => hW n _ (by simp [hx])
      clear hW
      go_wp2_with fail
      refine (free_any BB gg f e S.F q _ HF.out.gr).mono ?_
      rintro r x2 ⟨v, rfl, A_f, c_f, rfl, -, -, -, hb⟩
      replace W_u := Lib.hid (fun n x hx => (hb.cell (lt_of_cell (W_u.out n x hx))).trans (W_u.out n x hx))
      replace HF := Lib.hid (HF.out.below hb)
      have hsz := (hb).size
      replace H_p := Lib.hid (row_below H_p.out hb)
      replace B := Lib.hid (below_only B.out hb)
      clear hb hsz
      have cA0 : x2.cell? ⟨bA, off + k * 2, none⟩ = some (.bool mk) := (B.out.cell (p := ⟨bA, off + k * 2, none⟩) HbA.out).trans K0.out
      have cA1 : x2.cell? ⟨bA, off + k * 2 + 1, none⟩ = some (.int .i64 n) := (B.out.cell (p := ⟨bA, off + k * 2 + 1, none⟩) HbA.out).trans K1.out
      have zA : bA < x2.heap.size := Nat.lt_of_lt_of_le HbA.out B.out.size
      go_upto_region 11 with fail
      try simp only [Act.put]
      go_cut [13, 14] from 56 to 66 (fun vd ve wx => ∃ kc cA q' gr, vd = .pointer (some ⟨gr, 0, none⟩) ∧ ve = .bool (done14 mk n S) ∧ wx.heap[gr]? = some (.cells (run14 f e ps mk n S ⟨cA, 0, kc⟩).arr 42 (0, 0)) ∧ x2.heap.size ≤ gr ∧ gr ∉ FsT b gg q' ∧ gr ≠ p ∧ Fs BB wx p b gg q' f e (does14 f e mk n S) (words14 mk n S ws) ∧ NewQ x2 q q' ∧ Keep (FsT b gg q) x2 wx)
      case first =>
        refine wp_region_held_drew (S := fun W' => W'.heap[g_p]? = some (.cells #[.int .i64 ps, .int .i64 pt, .int .i64 pi, .int .i64 ph] 23 (0, 0)) ∧ W'.cell? ⟨bA, off + k * 2, none⟩ = some (.bool mk) ∧ W'.cell? ⟨bA, off + k * 2 + 1, none⟩ = some (.int .i64 n) ∧ bA < W'.heap.size) (by kernel_rfl) (show x2.drew.heap[_]? = _ ∧ x2.drew.cell? _ = _ ∧ x2.drew.cell? _ = _ ∧ _ from ⟨H_p.out, cA0, cA1, zA⟩) ?_
        intro hS
        have hF0 : Fs BB x2.drew p b gg q f e S ws := HF.out.below (Below.drew (Below.refl _ _))
        have hK0 : Keep (FsT b gg q) x2 x2.drew := (Keep.refl _ _).drew
        have hNA : bA ∉ FsT b gg q := HF.out.elder (Nat.lt_of_lt_of_le HbA.out HBB.out)
        clear cA0 cA1 zA hbA2
        have hsz0 : x2.heap.size ≤ x2.drew.heap.size := Nat.le_refl _
        generalize x2.drew = y0 at hsz0 hS hF0 hK0 ⊢
        refine wpAnyH_take_at (i := 0) (v := .agg #[.int .i64 ps, .int .i64 pt, .int .i64 pi, .int .i64 ph]) (some 57) rfl rfl (by kernel_rfl) (by kernel_rfl) (by kernel_rfl) (fun _ _ _ h => h) (yieldsIf_load_row (by kernel_rfl) 23 (.tmp 6) rfl g_p rfl #[.int .i64 ps, .int .i64 pt, .int .i64 pi, .int .i64 ph] (fun W' hW' => hW'.1) undPln4 rfl infoPln4) (by assumption) ?_
        try simp only [Act.put]
        try simp only [List.setIfInBounds_toArray]
        try simp only [List.set_cons_succ]
        try simp only [List.set_cons_zero]
        refine wpAnyH_take_at (i := 1) (v := ?v1x1) (some 58) rfl rfl (by kernel_rfl) (by kernel_rfl) (by kernel_rfl) (fun _ _ _ h => h) (Or.inl ⟨by kernel_rfl, ?h1x1⟩) (by assumption) ?r1x1
        case h1x1 => (intro w' hSw; obtain ⟨s1, s2, s3, s4⟩ := hSw; go_simp; first | done | (with_reducible rfl))
        try simp only [Act.put]
        try simp only [List.setIfInBounds_toArray]
        try simp only [List.set_cons_succ]
        try simp only [List.set_cons_zero]
        refine wpAnyH_take_at (i := 2) (v := ?v2x2) (some 59) rfl rfl (by kernel_rfl) (by kernel_rfl) (by kernel_rfl) (fun _ _ _ h => h) (Or.inl ⟨by kernel_rfl, ?h2x2⟩) (by assumption) ?r2x2
        case h2x2 => (intro w' hSw; obtain ⟨s1, s2, s3, s4⟩ := hSw; go_simp; first | done | (with_reducible rfl))
        try simp only [Act.put]
        try simp only [List.setIfInBounds_toArray]
        try simp only [List.set_cons_succ]
        try simp only [List.set_cons_zero]
        refine wpAnyH_take_at (i := 3) (v := ?v3x3) (some 60) rfl rfl (by kernel_rfl) (by kernel_rfl) (by kernel_rfl) (fun _ _ _ h => h) (Or.inl ⟨by kernel_rfl, ?h3x3⟩) (by assumption) ?r3x3
        case h3x3 => (intro w' hSw; obtain ⟨s1, s2, s3, s4⟩ := hSw; go_simp; first | done | (with_reducible rfl))
        try simp only [Act.put]
        try simp only [List.setIfInBounds_toArray]
        try simp only [List.set_cons_succ]
        try simp only [List.set_cons_zero]
        refine wpAnyH_take_at (i := 4) (v := ?v4x4) (some 61) rfl rfl (by kernel_rfl) (by kernel_rfl) (by kernel_rfl) (fun _ _ _ h => h) (Or.inl ⟨by kernel_rfl, ?h4x4⟩) (by assumption) ?r4x4
        case h4x4 => (intro w' hSw; obtain ⟨s1, s2, s3, s4⟩ := hSw; go_simp; first | done | (with_reducible rfl))
        try simp only [Act.put]
        try simp only [List.setIfInBounds_toArray]
        try simp only [List.set_cons_succ]
        try simp only [List.set_cons_zero]
        refine wpAnyH_take_at (i := 5) (v := ?v5x5) (some 62) rfl rfl (by kernel_rfl) (by kernel_rfl) (by kernel_rfl) (fun _ _ _ h => h) (Or.inl ⟨by kernel_rfl, ?h5x5⟩) (by assumption) ?r5x5
        case h5x5 => (intro w' hSw; obtain ⟨s1, s2, s3, s4⟩ := hSw; go_simp; first | done | (with_reducible rfl))
        try simp only [Act.put]
        try simp only [List.setIfInBounds_toArray]
        try simp only [List.set_cons_succ]
        try simp only [List.set_cons_zero]
        refine wpAnyH_take_at (i := 6) (v := ?v6x6) (some 63) rfl rfl (by kernel_rfl) (by kernel_rfl) (by kernel_rfl) (fun _ _ _ h => h) (Or.inl ⟨by kernel_rfl, ?h6x6⟩) (by assumption) ?r6x6
        case h6x6 => (intro w' hSw; obtain ⟨s1, s2, s3, s4⟩ := hSw; go_simp; first | done | (with_reducible rfl))
        try simp only [Act.put]
        try simp only [List.setIfInBounds_toArray]
        try simp only [List.set_cons_succ]
        try simp only [List.set_cons_zero]
        refine wpAnyH_ready (rs := [7, 11]) (by kernel_rfl) (by simp) ?_
        refine AllReadyH.cons rfl (fun K hK => ?_) (AllReadyH.cons rfl (fun K hK => ?_) AllReadyH.nil)
        · skip
          go_simp
          refine (steps_any BB p b gg q f e S ws ps pt pi ph mk n _ HPl.out hF0 HlS.out Hn.out).mono ?_
          rintro e' y8 ⟨kc, cA, q', rfl, hF1, hq1, hK1⟩
          go_simp
          have hszS := hK0.size
          replace hK0 := hK0.trans hK1
          refine hK.out _ _ (by obtain ⟨s1, s2, s3, s4⟩ := hS; exact ⟨hK1.row s1 (hF0.elder E_p.out), hK1.cell s2 hNA, hK1.cell s3 hNA, Nat.lt_of_lt_of_le s4 hK1.size⟩) (fun hS => ?_)
          clear hK K
          try simp only [Act.put]
          try simp only [List.setIfInBounds_toArray]
          try simp only [List.set_cons_succ]
          try simp only [List.set_cons_zero]
          refine wpAnyH_take_at (i := 8) (v := ?v8x7) (some 56) rfl rfl (by kernel_rfl) (by kernel_rfl) (by kernel_rfl) (fun _ _ _ h => h) (Or.inl ⟨by kernel_rfl, ?h8x7⟩) (by assumption) ?r8x7
          case h8x7 => (intro w hSw; (try dsimp only at hSw); go_simp; first | done | (with_reducible rfl))
          try simp only [Act.put]
          try simp only [List.setIfInBounds_toArray]
          try simp only [List.set_cons_succ]
          try simp only [List.set_cons_zero]
          refine wpAnyH_take_at (i := 9) (v := ?v9x8) (some 65) rfl rfl (by kernel_rfl) (by kernel_rfl) (by kernel_rfl) (fun _ _ _ h => h) (Or.inl ⟨by kernel_rfl, ?h9x8⟩) (by assumption) ?r9x8
          case h9x8 => (intro w hSw; (try dsimp only at hSw); go_simp; first | done | (with_reducible rfl))
          try simp only [Act.put]
          try simp only [List.setIfInBounds_toArray]
          try simp only [List.set_cons_succ]
          try simp only [List.set_cons_zero]
          refine wpAnyH_take_at (i := 10) (v := ?v10x9) (some 66) rfl rfl (by kernel_rfl) (by kernel_rfl) (by kernel_rfl) (fun _ _ _ h => h) (Or.inl ⟨by kernel_rfl, ?h10x9⟩) (by assumption) ?r10x9
          case h10x9 => (intro w hSw; (try dsimp only at hSw); go_simp; first | done | (with_reducible rfl))
          try simp only [Act.put]
          try simp only [List.setIfInBounds_toArray]
          try simp only [List.set_cons_succ]
          try simp only [List.set_cons_zero]
          refine wpAnyH_ready (rs := [11]) (by kernel_rfl) (by simp) ?_
          refine AllReadyH.cons rfl (fun K hK => ?_) AllReadyH.nil
          refine step_alloc_run (some 13) rfl rfl rfl ?_
          refine k_alloc (fun yZ hZ hb => ?_)
          have hz0 : x2.heap.size ≤ y8.heap.size := hK0.size
          obtain ⟨gZ, HgZ⟩ : ∃ x, x = y8.heap.size := ⟨_, rfl⟩
          have hzn : gZ ∉ FsT b gg q' := by rw [HgZ]; exact hF1.fresh (Nat.le_refl _)
          have hzp : gZ ≠ p := by have := hF1.lt.1; omega
          have hzg : gZ ≠ g_p := by have := lt_of_heap hS.1; omega
          have hzA : gZ ≠ bA := by have := hS.2.2.2; omega
          rw [← HgZ] at hZ hz0 ⊢
          clear HgZ
          have hzl := lt_of_heap hZ
          replace hF1 := hF1.below hb
          replace hK0 := hK0.call hb
          refine hK.out _ _ (by obtain ⟨s1, s2, s3, s4⟩ := hS; exact ⟨row_below s1 hb, (hb.cell (lt_of_cell s2)).trans s2, (hb.cell (lt_of_cell s3)).trans s3, Nat.lt_of_lt_of_le s4 hb.size⟩) (fun hS => ?_)
          clear hK K
          try simp only [Act.put]
          try simp only [List.setIfInBounds_toArray]
          try simp only [List.set_cons_succ]
          try simp only [List.set_cons_zero]
          refine wpAnyH_ready (rs := [12]) (by kernel_rfl) (by simp) ?_
          refine AllReadyH.cons rfl (fun K hK => ?_) AllReadyH.nil
          refine step_store_row none rfl rfl 42 (.tmp 13) (.tmp 65) rfl gZ (run14 f e ps mk n S ⟨cA, 0, kc⟩).arr rfl rfl 42 ZRun hZ infoRun rfl (Rn.one _) ?_
          refine hK.out _ _ (by obtain ⟨s1, s2, s3, s4⟩ := hS; exact ⟨(setRow_other _ _ _ _ hzg.symm).trans s1, (cell_setRow hzA.symm).trans s2, (cell_setRow hzA.symm).trans s3, by simpa [World.setRow] using s4⟩) (fun hS => ?_)
          clear hK K
          try simp only [Act.put]
          try simp only [List.setIfInBounds_toArray]
          try simp only [List.set_cons_succ]
          try simp only [List.set_cons_zero]
          refine wpAnyH_take_at (i := 13) (v := ?v13x10) (some 14) rfl rfl (by kernel_rfl) (by kernel_rfl) (by kernel_rfl) (fun _ _ _ h => h) (Or.inl ⟨by kernel_rfl, ?h13x10⟩) (by assumption) ?r13x10
          case h13x10 => (intro w hSw; (try dsimp only at hSw); go_simp; first | done | (with_reducible rfl))
          try simp only [Act.put]
          try simp only [List.setIfInBounds_toArray]
          try simp only [List.set_cons_succ]
          try simp only [List.set_cons_zero]
          refine wpAnyH_done (by kernel_rfl) ?_ _
          go_wp2_with fail
          go_meet
          have hks := (Keep.refl [gZ] yZ).setRow (g := gZ) (.inl (by simp)) (run14 f e ps mk n S ⟨cA, 0, kc⟩).arr
          exact ⟨kc, cA, q', gZ, rfl, rfl, setRow_heap _ _ _ _ _ _ hZ, hz0, hzn, hzp, hF1.kept hks (fun j hj hm => by
            simp only [List.mem_singleton] at hj
            subst hj
            rcases List.mem_cons.1 hm with h9 | h9
            · exact hzp h9
            · exact hzn h9), fun j hj => (hq1 j hj).imp id (fun h9 => Nat.le_trans hszS h9), hK0.setRow (.inr hz0) _⟩
        · skip
          refine step_alloc_run (some 13) rfl rfl rfl ?_
          refine k_alloc (fun yZ hZ hb => ?_)
          have hz0 : x2.heap.size ≤ y0.heap.size := hK0.size
          obtain ⟨gZ, HgZ⟩ : ∃ x, x = y0.heap.size := ⟨_, rfl⟩
          have hzn : gZ ∉ FsT b gg q := by rw [HgZ]; exact hF0.fresh (Nat.le_refl _)
          have hzp : gZ ≠ p := by have := hF0.lt.1; omega
          have hzg : gZ ≠ g_p := by have := lt_of_heap hS.1; omega
          have hzA : gZ ≠ bA := by have := hS.2.2.2; omega
          rw [← HgZ] at hZ hz0 ⊢
          clear HgZ
          have hzl := lt_of_heap hZ
          replace hF0 := hF0.below hb
          replace hK0 := hK0.call hb
          refine hK.out _ _ (by obtain ⟨s1, s2, s3, s4⟩ := hS; exact ⟨row_below s1 hb, (hb.cell (lt_of_cell s2)).trans s2, (hb.cell (lt_of_cell s3)).trans s3, Nat.lt_of_lt_of_le s4 hb.size⟩) (fun hS => ?_)
          clear hK K
          try simp only [Act.put]
          try simp only [List.setIfInBounds_toArray]
          try simp only [List.set_cons_succ]
          try simp only [List.set_cons_zero]
          refine wpAnyH_ready (rs := [7]) (by kernel_rfl) (by simp) ?_
          refine AllReadyH.cons rfl (fun K hK => ?_) AllReadyH.nil
          go_simp
          refine (steps_any BB p b gg q f e S ws ps pt pi ph mk n _ HPl.out hF0 HlS.out Hn.out).mono ?_
          rintro e' y8 ⟨kc, cA, q', rfl, hF1, hq1, hK1⟩
          go_simp
          replace hZ := hK1.row hZ hzn
          have hzn' := notin_new hzn hzl hq1
          have hszS := hK0.size
          replace hK0 := hK0.trans hK1
          refine hK.out _ _ (by obtain ⟨s1, s2, s3, s4⟩ := hS; exact ⟨hK1.row s1 (hF0.elder E_p.out), hK1.cell s2 hNA, hK1.cell s3 hNA, Nat.lt_of_lt_of_le s4 hK1.size⟩) (fun hS => ?_)
          clear hK K
          try simp only [Act.put]
          try simp only [List.setIfInBounds_toArray]
          try simp only [List.set_cons_succ]
          try simp only [List.set_cons_zero]
          refine wpAnyH_take_at (i := 8) (v := ?v8x11) (some 56) rfl rfl (by kernel_rfl) (by kernel_rfl) (by kernel_rfl) (fun _ _ _ h => h) (Or.inl ⟨by kernel_rfl, ?h8x11⟩) (by assumption) ?r8x11
          case h8x11 => (intro w hSw; (try dsimp only at hSw); go_simp; first | done | (with_reducible rfl))
          try simp only [Act.put]
          try simp only [List.setIfInBounds_toArray]
          try simp only [List.set_cons_succ]
          try simp only [List.set_cons_zero]
          refine wpAnyH_take_at (i := 9) (v := ?v9x12) (some 65) rfl rfl (by kernel_rfl) (by kernel_rfl) (by kernel_rfl) (fun _ _ _ h => h) (Or.inl ⟨by kernel_rfl, ?h9x12⟩) (by assumption) ?r9x12
          case h9x12 => (intro w hSw; (try dsimp only at hSw); go_simp; first | done | (with_reducible rfl))
          try simp only [Act.put]
          try simp only [List.setIfInBounds_toArray]
          try simp only [List.set_cons_succ]
          try simp only [List.set_cons_zero]
          refine wpAnyH_take_at (i := 10) (v := ?v10x13) (some 66) rfl rfl (by kernel_rfl) (by kernel_rfl) (by kernel_rfl) (fun _ _ _ h => h) (Or.inl ⟨by kernel_rfl, ?h10x13⟩) (by assumption) ?r10x13
          case h10x13 => (intro w hSw; (try dsimp only at hSw); go_simp; first | done | (with_reducible rfl))
          try simp only [Act.put]
          try simp only [List.setIfInBounds_toArray]
          try simp only [List.set_cons_succ]
          try simp only [List.set_cons_zero]
          refine wpAnyH_ready (rs := [12]) (by kernel_rfl) (by simp) ?_
          refine AllReadyH.cons rfl (fun K hK => ?_) AllReadyH.nil
          refine step_store_row none rfl rfl 42 (.tmp 13) (.tmp 65) rfl gZ (run14 f e ps mk n S ⟨cA, 0, kc⟩).arr rfl rfl 42 ZRun hZ infoRun rfl (Rn.one _) ?_
          refine hK.out _ _ (by obtain ⟨s1, s2, s3, s4⟩ := hS; exact ⟨(setRow_other _ _ _ _ hzg.symm).trans s1, (cell_setRow hzA.symm).trans s2, (cell_setRow hzA.symm).trans s3, by simpa [World.setRow] using s4⟩) (fun hS => ?_)
          clear hK K
          try simp only [Act.put]
          try simp only [List.setIfInBounds_toArray]
          try simp only [List.set_cons_succ]
          try simp only [List.set_cons_zero]
          refine wpAnyH_take_at (i := 13) (v := ?v13x14) (some 14) rfl rfl (by kernel_rfl) (by kernel_rfl) (by kernel_rfl) (fun _ _ _ h => h) (Or.inl ⟨by kernel_rfl, ?h13x14⟩) (by assumption) ?r13x14
          case h13x14 => (intro w hSw; (try dsimp only at hSw); go_simp; first | done | (with_reducible rfl))
          try simp only [Act.put]
          try simp only [List.setIfInBounds_toArray]
          try simp only [List.set_cons_succ]
          try simp only [List.set_cons_zero]
          refine wpAnyH_done (by kernel_rfl) ?_ _
          go_wp2_with fail
          go_meet
          have hks := (Keep.refl [gZ] y8).setRow (g := gZ) (.inl (by simp)) (run14 f e ps mk n S ⟨cA, 0, kc⟩).arr
          exact ⟨kc, cA, q', gZ, rfl, rfl, setRow_heap _ _ _ _ _ _ hZ, hz0, hzn', hzp, hF1.kept hks (fun j hj hm => by
            simp only [List.mem_singleton] at hj
            subst hj
            rcases List.mem_cons.1 hm with h9 | h9
            · exact hzp h9
            · exact hzn' h9), fun j hj => (hq1 j hj).imp id (fun h9 => Nat.le_trans hszS h9), hK0.setRow (.inr hz0) _⟩
      case rest =>
        obtain ⟨kc, cA, q2, g_r, rfl, rfl, hr, hlr, hnr, hnp, hF, hq, hK⟩ := hcut
        obtain ⟨x3, hwx⟩ : ∃ x, x = wc := ⟨_, rfl⟩
        subst hwx
        clear cA0 cA1 zA hbA2
        replace W_u := Lib.hid (fun n x hx => hK.cell (W_u.out n x hx) G_u.out)
        replace H_p := Lib.hid (hK.row H_p.out (HF.out.elder E_p.out))
        replace B := Lib.hid (Keep.under B.out hK (by have := B.out.size; omega) (fun j hj => Nat.le_trans HBB.out (HF.out.ges j hj).1))
        replace HF := Lib.hid hF
        clear hF hq hK
        have H_r := Lib.hid (show x3.heap[g_r]? = some (.cells (run14 f e ps mk n S ⟨cA, 0, kc⟩).arr 42 (0, 0)) from hr)
        have N_r : Hid (g_r ∉ FsT b gg q2 ∧ g_r ≠ p) := Lib.hid ⟨hnr, hnp⟩
        clear hr hlr hnr hnp
        have Hmv : Hid ((words14 mk n S ws).length = m) := Lib.hid (by rw [words14_len, Hmu.out])
        go_wp2_with fail
        refine (words_any p b _ _ HF.out.a).mono ?_
        rintro r x4 ⟨v, rfl, A_v, c_v, rfl, hcA, hcs, hnw, hb⟩
        obtain ⟨b_v, o_v, rfl, hW⟩ := hcs (by rw [wd_len, Hmv.out]; exact Hm0.out)
        have G_v : Hid (b_v ∉ FsT b gg q2) := Lib.hid (HF.out.fresh (hnw _ rfl))
        rw [Hmv.out]
        clear hcA hcs hnw
        replace W_u := Lib.hid (fun n x hx => (hb.cell (lt_of_cell (W_u.out n x hx))).trans (W_u.out n x hx))
        replace HF := Lib.hid (HF.out.below hb)
        have hsz := (hb).size
        replace H_p := Lib.hid (row_below H_p.out hb)
        replace H_r := Lib.hid (row_below H_r.out hb)
        replace B := Lib.hid (below_only B.out hb)
        clear hb hsz
        have W_v : Hid (∀ (jj : Nat) x, (words14 mk n S ws)[jj]? = some x → x4.cell? ⟨b_v, o_v + jj, none⟩ = some (.int .u64 x)) := Lib.hid fun n x hx => hW n _ (by simp [hx])
        clear hW
        cases hdn : done14 mk n S with
        | false =>
          have HD := Lib.hid (not_done14 (f := f) (e := e) (ws := ws) (ch := ⟨cA, 0, kc⟩) hdn HlS.out)
          clear hdn
          rw [HD.out.1, HD.out.2.1] at HF
          have o7 : x4.cell? ⟨g_r, 7, none⟩ = some (.int .i64 0) := by rw [row_cell H_r.out, ← HD.out.2.2]; rfl
          have zr := lt_of_heap H_r.out
          go_wp2_with fail
          go_roundw
          case rel => exact ⟨k + 1, S, ws, q2, by omega, by omega, by go_num, HlS.out, Hmu.out, HF.out, H_p.out, B.out⟩
          case measure => simp [intOf]; omega
        | true =>
          have HD := Lib.hid (done14_run (f := f) (e := e) (ch := ⟨cA, 0, kc⟩) hdn HlS.out)
          have HT : Hid (∀ (j : Nat) x y, ws[j]? = some x → (words14 mk n S ws)[j]? = some y → _) := Lib.hid fun j x y hx hy => touch14 (f := f) (e := e) (s := ps) hdn hx hy
          have HFr := Lib.hid (free14 (f := f) (e := e) (mk := mk) (n := n) (S := S))
          have HlS2 : Hid (((does14 f e mk n S).l.length : Int) = ps) := Lib.hid (by rw [does14_len]; exact HlS.out)
          obtain ⟨R, HR⟩ : ∃ x, Hid (run14 f e ps mk n S ⟨cA, 0, kc⟩ = x) := ⟨_, Lib.hid rfl⟩
          obtain ⟨S2, HS2⟩ : ∃ x, Hid (does14 f e mk n S = x) := ⟨_, Lib.hid rfl⟩
          obtain ⟨ws2, Hws2⟩ : ∃ x, Hid (words14 mk n S ws = x) := ⟨_, Lib.hid rfl⟩
          obtain ⟨code, Hcode⟩ : ∃ x, Hid ((if mk then (createS (begA mk n) S).1.2 else (destroyS f e (begA mk n) S).1) = x) := ⟨_, Lib.hid rfl⟩
          obtain ⟨sc, Hsc⟩ : ∃ x, Hid ((if mk then (createS (begA mk n) S).1.1 else begA mk n) = x) := ⟨_, Lib.hid rfl⟩
          rw [HR.out, Hcode.out] at HD
          rw [Hcode.out, HS2.out] at HFr
          rw [Hcode.out, Hsc.out, Hws2.out] at HT
          rw [HR.out] at H_r
          rw [HS2.out] at HF HlS2
          rw [Hws2.out] at HF Hmv W_v
          clear hdn
          have o7 : x4.cell? ⟨g_r, 7, none⟩ = some (.int .i64 1) := by rw [row_cell H_r.out, ← HD.out.1]; rfl
          have o0 : x4.cell? ⟨g_r, 0, none⟩ = some (.int .u8 (if mk then 2 else 3)) := by rw [row_cell H_r.out, ← HD.out.2.2.2.2.1]; rfl
          have o4 : x4.cell? ⟨g_r, 4, none⟩ = some (.int .i64 (begA mk n)) := by rw [row_cell H_r.out, ← HD.out.2.2.2.1]; rfl
          have o23 : x4.cell? ⟨g_r, 23, none⟩ = some (.int .i64 code) := by rw [row_cell H_r.out, ← HD.out.2.2.2.2.2.1]; rfl
          have o24 : x4.cell? ⟨g_r, 24, none⟩ = some (.int .i64 (if mk then (createS (begA mk n) S).1.1 else 0)) := by rw [row_cell H_r.out, ← HD.out.2.2.2.2.2.2]; rfl
          have zr := lt_of_heap H_r.out
          go_upto_region 15 with fail
          go_upto_if 82 with fail
          try simp only [Act.put]
          go_cut [16, 78, 81] from 82 to 85 (fun vd v1 v2 wx => vd = .int .i64 sc ∧ x4 = wx)
          case first =>
            have hsc := Hsc.out
            cases mk with
            | false =>
              simp only [Bool.false_eq_true, if_false] at o0 o24 hsc
              rw [hsc] at o4
              go_wp2_with fail
              go_meet
              exact ⟨by first | rfl | rw [hsc], rfl⟩
            | true =>
              simp only [if_true] at o0 o24 hsc
              rw [hsc] at o24
              go_wp2_with fail
              go_meet
              exact ⟨by first | rfl | rw [hsc], rfl⟩
          case rest =>
            obtain ⟨rfl, hwx⟩ := hcut
            subst hwx
            go_upto_region 17 with fail
            try simp only [Act.put]
            go_cut [107] from 86 to 107 (fun vd wx => vd = .bool false ∧ Below x4.heap.size x4 wx)
            case first =>
              by_cases hc0 : code = 0
              · subst hc0
                go_wp2_with fail
                go_meet
                exact ⟨by first | rfl | simp, Below.refl _ _⟩
              · have qc : (code == 0) = false := by simpa using hc0
                have HFq := Lib.hid (HFr.out hc0)
                have qd : decide (code = 0) = false := decide_eq_false hc0
                go_wp2_with fail
                refine (free_any BB gg f e S2.F q2 _ HF.out.gr).mono ?_
                rintro r' y9 ⟨v, rfl, A9, c9, rfl, -, -, -, hb⟩
                rw [HFq.out]
                go_wp2_with fail
                go_meet
                exact ⟨by first | rfl | simp, hb⟩
            case rest =>
              obtain ⟨rfl, hb⟩ := hcut
              obtain ⟨x5, hwx⟩ : ∃ x, x = wc := ⟨_, rfl⟩
              subst hwx
              clear o7 o0 o4 o23 o24 zr
              replace W_u := Lib.hid (fun n x hx => (hb.cell (lt_of_cell (W_u.out n x hx))).trans (W_u.out n x hx))
              replace W_v := Lib.hid (fun n x hx => (hb.cell (lt_of_cell (W_v.out n x hx))).trans (W_v.out n x hx))
              replace HF := Lib.hid (HF.out.below hb)
              have hsz := (hb).size
              replace H_p := Lib.hid (row_below H_p.out hb)
              replace H_r := Lib.hid (row_below H_r.out hb)
              replace B := Lib.hid (below_only B.out hb)
              clear hb hsz
              go_wp2_with fail
              go_loopw [17] (fun t wz => ∃ j : Nat, j ≤ m ∧ t = .int .i64 j ∧ Below x5.heap.size x5 wz) (fun t _ => (m - intOf t).toNat)
              case atStart => exact ⟨0, Nat.zero_le _, rfl, Below.refl _ _⟩
              case round =>
                obtain ⟨j, hj, rfl, hbz⟩ := hrel
                have HBz := Lib.hid hbz
                clear hbz
                by_cases hjm : j < m
                · skip
                  obtain ⟨u, hu⟩ : ∃ x, ws[j]? = some x := ⟨_, List.getElem?_eq_getElem (by rw [Hmu.out]; exact hjm)⟩
                  obtain ⟨v, hv⟩ : ∃ x, ws2[j]? = some x := ⟨_, List.getElem?_eq_getElem (by rw [Hmv.out]; exact hjm)⟩
                  have hNn := HT.out j u v hu hv
                  have cu : wr.cell? ⟨b_u, o_u + j, none⟩ = some (.int .u64 u) := (HBz.out.cell (lt_of_cell (W_u.out j u hu))).trans (W_u.out j u hu)
                  have cv : wr.cell? ⟨b_v, o_v + j, none⟩ = some (.int .u64 v) := (HBz.out.cell (lt_of_cell (W_v.out j v hv))).trans (W_v.out j v hv)
                  have cc : wr.cell? ⟨g_r, 23, none⟩ = some (.int .i64 code) := (HBz.out.cell (p := ⟨g_r, 23, none⟩) (lt_of_heap H_r.out)).trans (by rw [row_cell H_r.out, ← HD.out.2.2.2.2.2.1]; rfl)
                  have zu := lt_of_cell cu
                  have zv := lt_of_cell cv
                  clear hu hv
                  go_upto_region 22 with fail
                  try simp only [Act.put]
                  go_cut [111, 134] from 114 to 134 (fun v0 vd wx => vd = .bool false ∧ Below wr.heap.size wr wx)
                  case first =>
                    have HNn := Lib.hid hNn
                    clear hNn
                    rcases HNn.out with hq | ⟨hq, hc0, hns⟩
                    · have hq2 : u = v := hq
                      subst hq2
                      clear HNn hq
                      refine wp_region_held_drew (S := fun W' => W'.cell? ⟨b_u, o_u + j, none⟩ = some (.int .u64 u) ∧ W'.cell? ⟨b_v, o_v + j, none⟩ = some (.int .u64 u) ∧ W'.cell? ⟨g_r, 23, none⟩ = some (.int .i64 code)) (by kernel_rfl) (by first | exact ⟨cu, cv, cc⟩ | (dsimp only; exact ⟨cu, cv, cc⟩)) ?_
                      intro hS
                      have hb0 : Below wr.heap.size wr wr.drew := Below.drew (Below.refl _ _)
                      clear cu cv cc
                      generalize wr.drew = v0 at hS hb0 ⊢
                      refine wpAnyH_take_at (i := 0) (v := ?v0x15) (some 114) rfl rfl (by kernel_rfl) (by kernel_rfl) (by kernel_rfl) (fun _ _ _ h => h) (Or.inl ⟨by kernel_rfl, ?h0x15⟩) (by assumption) ?r0x15
                      case h0x15 => (intro w hSw; obtain ⟨s0, s1, s2⟩ := hSw; go_simp; first | done | (with_reducible rfl))
                      try simp only [Act.put]
                      try simp only [List.setIfInBounds_toArray]
                      try simp only [List.set_cons_succ]
                      try simp only [List.set_cons_zero]
                      refine wpAnyH_take_at (i := 1) (v := ?v1x16) (some 115) rfl rfl (by kernel_rfl) (by kernel_rfl) (by kernel_rfl) (fun _ _ _ h => h) (Or.inl ⟨by kernel_rfl, ?h1x16⟩) (by assumption) ?r1x16
                      case h1x16 => (intro w hSw; obtain ⟨s0, s1, s2⟩ := hSw; go_simp; first | done | (with_reducible rfl))
                      try simp only [Act.put]
                      try simp only [List.setIfInBounds_toArray]
                      try simp only [List.set_cons_succ]
                      try simp only [List.set_cons_zero]
                      refine wpAnyH_take_at (i := 2) (v := ?v2x17) (some 116) rfl rfl (by kernel_rfl) (by kernel_rfl) (by kernel_rfl) (fun _ _ _ h => h) (Or.inl ⟨by kernel_rfl, ?h2x17⟩) (by assumption) ?r2x17
                      case h2x17 => (intro w hSw; obtain ⟨s0, s1, s2⟩ := hSw; go_simp; first | done | (with_reducible rfl))
                      try simp only [Act.put]
                      try simp only [List.setIfInBounds_toArray]
                      try simp only [List.set_cons_succ]
                      try simp only [List.set_cons_zero]
                      refine wpAnyH_take_at (i := 3) (v := ?v3x18) (some 117) rfl rfl (by kernel_rfl) (by kernel_rfl) (by kernel_rfl) (fun _ _ _ h => h) (Or.inl ⟨by kernel_rfl, ?h3x18⟩) (by assumption) ?r3x18
                      case h3x18 => (intro w hSw; obtain ⟨s0, s1, s2⟩ := hSw; go_simp; first | done | (with_reducible rfl))
                      try simp only [Act.put]
                      try simp only [List.setIfInBounds_toArray]
                      try simp only [List.set_cons_succ]
                      try simp only [List.set_cons_zero]
                      refine wpAnyH_take_at (i := 4) (v := ?v4x19) (some 118) rfl rfl (by kernel_rfl) (by kernel_rfl) (by kernel_rfl) (fun _ _ _ h => h) (Or.inl ⟨by kernel_rfl, ?h4x19⟩) (by assumption) ?r4x19
                      case h4x19 => (intro w hSw; obtain ⟨s0, s1, s2⟩ := hSw; go_simp; first | done | (with_reducible rfl))
                      try simp only [Act.put]
                      try simp only [List.setIfInBounds_toArray]
                      try simp only [List.set_cons_succ]
                      try simp only [List.set_cons_zero]
                      refine wpAnyH_take_at (i := 5) (v := ?v5x20) (some 119) rfl rfl (by kernel_rfl) (by kernel_rfl) (by kernel_rfl) (fun _ _ _ h => h) (Or.inl ⟨by kernel_rfl, ?h5x20⟩) (by assumption) ?r5x20
                      case h5x20 => (intro w hSw; obtain ⟨s0, s1, s2⟩ := hSw; go_simp; first | done | (with_reducible rfl))
                      try simp only [Act.put]
                      try simp only [List.setIfInBounds_toArray]
                      try simp only [List.set_cons_succ]
                      try simp only [List.set_cons_zero]
                      refine wpAnyH_take_at (i := 6) (v := ?v6x21) (some 120) rfl rfl (by kernel_rfl) (by kernel_rfl) (by kernel_rfl) (fun _ _ _ h => h) (Or.inl ⟨by kernel_rfl, ?h6x21⟩) (by assumption) ?r6x21
                      case h6x21 => (intro w hSw; obtain ⟨s0, s1, s2⟩ := hSw; go_simp; first | done | (with_reducible rfl))
                      try simp only [Act.put]
                      try simp only [List.setIfInBounds_toArray]
                      try simp only [List.set_cons_succ]
                      try simp only [List.set_cons_zero]
                      refine wpAnyH_take_at (i := 7) (v := ?v7x22) (some 121) rfl rfl (by kernel_rfl) (by kernel_rfl) (by kernel_rfl) (fun _ _ _ h => h) (Or.inl ⟨by kernel_rfl, ?h7x22⟩) (by assumption) ?r7x22
                      case h7x22 => (intro w hSw; obtain ⟨s0, s1, s2⟩ := hSw; go_simp; first | done | (with_reducible rfl))
                      try simp only [Act.put]
                      try simp only [List.setIfInBounds_toArray]
                      try simp only [List.set_cons_succ]
                      try simp only [List.set_cons_zero]
                      refine wpAnyH_take_at (i := 8) (v := ?v8x23) (some 122) rfl rfl (by kernel_rfl) (by kernel_rfl) (by kernel_rfl) (fun _ _ _ h => h) (Or.inl ⟨by kernel_rfl, ?h8x23⟩) (by assumption) ?r8x23
                      case h8x23 => (intro w hSw; obtain ⟨s0, s1, s2⟩ := hSw; go_simp; first | done | (with_reducible rfl))
                      try simp only [Act.put]
                      try simp only [List.setIfInBounds_toArray]
                      try simp only [List.set_cons_succ]
                      try simp only [List.set_cons_zero]
                      refine wpAnyH_take_at (i := 9) (v := ?v9x24) (some 123) rfl rfl (by kernel_rfl) (by kernel_rfl) (by kernel_rfl) (fun _ _ _ h => h) (Or.inl ⟨by kernel_rfl, ?h9x24⟩) (by assumption) ?r9x24
                      case h9x24 => (intro w hSw; obtain ⟨s0, s1, s2⟩ := hSw; go_simp; first | done | (with_reducible rfl))
                      try simp only [Act.put]
                      try simp only [List.setIfInBounds_toArray]
                      try simp only [List.set_cons_succ]
                      try simp only [List.set_cons_zero]
                      refine wpAnyH_take_at (i := 10) (v := undef) (some 124) rfl rfl (by kernel_rfl) (by kernel_rfl) (by kernel_rfl) (fun _ _ _ h => h) (Or.inr ⟨by kernel_rfl, rfl⟩) (by assumption) ?_
                      try simp only [Act.put]
                      try simp only [List.setIfInBounds_toArray]
                      try simp only [List.set_cons_succ]
                      try simp only [List.set_cons_zero]
                      refine wpAnyH_take_at (i := 11) (v := undef) (some 125) rfl rfl (by kernel_rfl) (by kernel_rfl) (by kernel_rfl) (fun _ _ _ h => h) (Or.inr ⟨by kernel_rfl, rfl⟩) (by assumption) ?_
                      try simp only [Act.put]
                      try simp only [List.setIfInBounds_toArray]
                      try simp only [List.set_cons_succ]
                      try simp only [List.set_cons_zero]
                      refine wpAnyH_take_at (i := 12) (v := undef) (some 126) rfl rfl (by kernel_rfl) (by kernel_rfl) (by kernel_rfl) (fun _ _ _ h => h) (Or.inr ⟨by kernel_rfl, rfl⟩) (by assumption) ?_
                      try simp only [Act.put]
                      try simp only [List.setIfInBounds_toArray]
                      try simp only [List.set_cons_succ]
                      try simp only [List.set_cons_zero]
                      refine wpAnyH_take_at (i := 13) (v := undef) (some 127) rfl rfl (by kernel_rfl) (by kernel_rfl) (by kernel_rfl) (fun _ _ _ h => h) (Or.inr ⟨by kernel_rfl, rfl⟩) (by assumption) ?_
                      try simp only [Act.put]
                      try simp only [List.setIfInBounds_toArray]
                      try simp only [List.set_cons_succ]
                      try simp only [List.set_cons_zero]
                      refine wpAnyH_take_at (i := 14) (v := undef) (some 128) rfl rfl (by kernel_rfl) (by kernel_rfl) (by kernel_rfl) (fun _ _ _ h => h) (Or.inr ⟨by kernel_rfl, rfl⟩) (by assumption) ?_
                      try simp only [Act.put]
                      try simp only [List.setIfInBounds_toArray]
                      try simp only [List.set_cons_succ]
                      try simp only [List.set_cons_zero]
                      refine wpAnyH_take_at (i := 15) (v := undef) (some 129) rfl rfl (by kernel_rfl) (by kernel_rfl) (by kernel_rfl) (fun _ _ _ h => h) (Or.inr ⟨by kernel_rfl, rfl⟩) (by assumption) ?_
                      try simp only [Act.put]
                      try simp only [List.setIfInBounds_toArray]
                      try simp only [List.set_cons_succ]
                      try simp only [List.set_cons_zero]
                      refine wpAnyH_take_at (i := 16) (v := undef) (some 130) rfl rfl (by kernel_rfl) (by kernel_rfl) (by kernel_rfl) (fun _ _ _ h => h) (Or.inr ⟨by kernel_rfl, rfl⟩) (by assumption) ?_
                      try simp only [Act.put]
                      try simp only [List.setIfInBounds_toArray]
                      try simp only [List.set_cons_succ]
                      try simp only [List.set_cons_zero]
                      refine wpAnyH_take_at (i := 17) (v := undef) (some 131) rfl rfl (by kernel_rfl) (by kernel_rfl) (by kernel_rfl) (fun _ _ _ h => h) (Or.inr ⟨by kernel_rfl, rfl⟩) (by assumption) ?_
                      try simp only [Act.put]
                      try simp only [List.setIfInBounds_toArray]
                      try simp only [List.set_cons_succ]
                      try simp only [List.set_cons_zero]
                      refine wpAnyH_take_at (i := 18) (v := undef) (some 132) rfl rfl (by kernel_rfl) (by kernel_rfl) (by kernel_rfl) (fun _ _ _ h => h) (Or.inr ⟨by kernel_rfl, rfl⟩) (by assumption) ?_
                      try simp only [Act.put]
                      try simp only [List.setIfInBounds_toArray]
                      try simp only [List.set_cons_succ]
                      try simp only [List.set_cons_zero]
                      refine wpAnyH_take_at (i := 19) (v := undef) (some 133) rfl rfl (by kernel_rfl) (by kernel_rfl) (by kernel_rfl) (fun _ _ _ h => h) (Or.inr ⟨by kernel_rfl, rfl⟩) (by assumption) ?_
                      try simp only [Act.put]
                      try simp only [List.setIfInBounds_toArray]
                      try simp only [List.set_cons_succ]
                      try simp only [List.set_cons_zero]
                      refine wpAnyH_take_at (i := 20) (v := ?v20x25) (some 134) rfl rfl (by kernel_rfl) (by kernel_rfl) (by kernel_rfl) (fun _ _ _ h => h) (Or.inl ⟨by kernel_rfl, ?h20x25⟩) (by assumption) ?r20x25
                      case h20x25 => (intro w hSw; obtain ⟨s0, s1, s2⟩ := hSw; go_simp; first | done | (with_reducible rfl))
                      try simp only [Act.put]
                      try simp only [List.setIfInBounds_toArray]
                      try simp only [List.set_cons_succ]
                      try simp only [List.set_cons_zero]
                      refine wpAnyH_done (by kernel_rfl) ?_ _
                      go_wp2_with fail
                      go_meet
                      exact ⟨by first | rfl | simp, hb0⟩
                    · subst hc0
                      have hqb : (u == v) = false := by simpa using hq
                      have hj8 : (j : Int) / 8 = sc := by rw [← hns]; omega
                      have hj8t : (j : Int).tdiv 8 = sc := by rw [Int.tdiv_eq_ediv_of_nonneg (by omega)]; exact hj8
                      have hwsc : IntKind.i64.wrap sc = sc := IntWalk.i64_in _ (by omega)
                      clear hns HNn
                      refine wp_region_held_drew (S := fun W' => W'.cell? ⟨b_u, o_u + j, none⟩ = some (.int .u64 u) ∧ W'.cell? ⟨b_v, o_v + j, none⟩ = some (.int .u64 v) ∧ W'.cell? ⟨g_r, 23, none⟩ = some (.int .i64 0)) (by kernel_rfl) (by first | exact ⟨cu, cv, cc⟩ | (dsimp only; exact ⟨cu, cv, cc⟩)) ?_
                      intro hS
                      have hb0 : Below wr.heap.size wr wr.drew := Below.drew (Below.refl _ _)
                      clear cu cv cc
                      generalize wr.drew = v0 at hS hb0 ⊢
                      refine wpAnyH_take_at (i := 0) (v := ?v0x26) (some 114) rfl rfl (by kernel_rfl) (by kernel_rfl) (by kernel_rfl) (fun _ _ _ h => h) (Or.inl ⟨by kernel_rfl, ?h0x26⟩) (by assumption) ?r0x26
                      case h0x26 => (intro w hSw; obtain ⟨s0, s1, s2⟩ := hSw; go_simp; first | done | (with_reducible rfl))
                      try simp only [Act.put]
                      try simp only [List.setIfInBounds_toArray]
                      try simp only [List.set_cons_succ]
                      try simp only [List.set_cons_zero]
                      refine wpAnyH_take_at (i := 1) (v := ?v1x27) (some 115) rfl rfl (by kernel_rfl) (by kernel_rfl) (by kernel_rfl) (fun _ _ _ h => h) (Or.inl ⟨by kernel_rfl, ?h1x27⟩) (by assumption) ?r1x27
                      case h1x27 => (intro w hSw; obtain ⟨s0, s1, s2⟩ := hSw; go_simp; first | done | (with_reducible rfl))
                      try simp only [Act.put]
                      try simp only [List.setIfInBounds_toArray]
                      try simp only [List.set_cons_succ]
                      try simp only [List.set_cons_zero]
                      refine wpAnyH_take_at (i := 2) (v := ?v2x28) (some 116) rfl rfl (by kernel_rfl) (by kernel_rfl) (by kernel_rfl) (fun _ _ _ h => h) (Or.inl ⟨by kernel_rfl, ?h2x28⟩) (by assumption) ?r2x28
                      case h2x28 => (intro w hSw; obtain ⟨s0, s1, s2⟩ := hSw; go_simp; first | done | (with_reducible rfl))
                      try simp only [Act.put]
                      try simp only [List.setIfInBounds_toArray]
                      try simp only [List.set_cons_succ]
                      try simp only [List.set_cons_zero]
                      refine wpAnyH_take_at (i := 3) (v := ?v3x29) (some 117) rfl rfl (by kernel_rfl) (by kernel_rfl) (by kernel_rfl) (fun _ _ _ h => h) (Or.inl ⟨by kernel_rfl, ?h3x29⟩) (by assumption) ?r3x29
                      case h3x29 => (intro w hSw; obtain ⟨s0, s1, s2⟩ := hSw; go_simp; first | done | (with_reducible rfl))
                      try simp only [Act.put]
                      try simp only [List.setIfInBounds_toArray]
                      try simp only [List.set_cons_succ]
                      try simp only [List.set_cons_zero]
                      refine wpAnyH_take_at (i := 4) (v := ?v4x30) (some 118) rfl rfl (by kernel_rfl) (by kernel_rfl) (by kernel_rfl) (fun _ _ _ h => h) (Or.inl ⟨by kernel_rfl, ?h4x30⟩) (by assumption) ?r4x30
                      case h4x30 => (intro w hSw; obtain ⟨s0, s1, s2⟩ := hSw; go_simp; first | done | (with_reducible rfl))
                      try simp only [Act.put]
                      try simp only [List.setIfInBounds_toArray]
                      try simp only [List.set_cons_succ]
                      try simp only [List.set_cons_zero]
                      refine wpAnyH_take_at (i := 5) (v := ?v5x31) (some 119) rfl rfl (by kernel_rfl) (by kernel_rfl) (by kernel_rfl) (fun _ _ _ h => h) (Or.inl ⟨by kernel_rfl, ?h5x31⟩) (by assumption) ?r5x31
                      case h5x31 => (intro w hSw; obtain ⟨s0, s1, s2⟩ := hSw; go_simp; first | done | (with_reducible rfl))
                      try simp only [Act.put]
                      try simp only [List.setIfInBounds_toArray]
                      try simp only [List.set_cons_succ]
                      try simp only [List.set_cons_zero]
                      refine wpAnyH_take_at (i := 6) (v := ?v6x32) (some 120) rfl rfl (by kernel_rfl) (by kernel_rfl) (by kernel_rfl) (fun _ _ _ h => h) (Or.inl ⟨by kernel_rfl, ?h6x32⟩) (by assumption) ?r6x32
                      case h6x32 => (intro w hSw; obtain ⟨s0, s1, s2⟩ := hSw; go_simp; first | done | (with_reducible rfl))
                      try simp only [Act.put]
                      try simp only [List.setIfInBounds_toArray]
                      try simp only [List.set_cons_succ]
                      try simp only [List.set_cons_zero]
                      refine wpAnyH_take_at (i := 7) (v := ?v7x33) (some 121) rfl rfl (by kernel_rfl) (by kernel_rfl) (by kernel_rfl) (fun _ _ _ h => h) (Or.inl ⟨by kernel_rfl, ?h7x33⟩) (by assumption) ?r7x33
                      case h7x33 => (intro w hSw; obtain ⟨s0, s1, s2⟩ := hSw; go_simp; first | done | (with_reducible rfl))
                      try simp only [Act.put]
                      try simp only [List.setIfInBounds_toArray]
                      try simp only [List.set_cons_succ]
                      try simp only [List.set_cons_zero]
                      refine wpAnyH_take_at (i := 8) (v := .bool true) (some 122) rfl rfl (by kernel_rfl) (by kernel_rfl) (by kernel_rfl) (fun _ _ _ h => h) (Or.inl ⟨by kernel_rfl, ?h8q⟩) (by assumption) ?r8q
                      case h8q => (intro w hSw; obtain ⟨s0, s1, s2⟩ := hSw; go_simp; first | done | (with_reducible rfl) | (simp [hq]; done) | (simp [hqb]; done))
                      try simp only [Act.put]
                      try simp only [List.setIfInBounds_toArray]
                      try simp only [List.set_cons_succ]
                      try simp only [List.set_cons_zero]
                      refine wpAnyH_take_at (i := 9) (v := ?v9x34) (some 123) rfl rfl (by kernel_rfl) (by kernel_rfl) (by kernel_rfl) (fun _ _ _ h => h) (Or.inl ⟨by kernel_rfl, ?h9x34⟩) (by assumption) ?r9x34
                      case h9x34 => (intro w hSw; obtain ⟨s0, s1, s2⟩ := hSw; go_simp; first | done | (with_reducible rfl))
                      try simp only [Act.put]
                      try simp only [List.setIfInBounds_toArray]
                      try simp only [List.set_cons_succ]
                      try simp only [List.set_cons_zero]
                      refine wpAnyH_take_at (i := 10) (v := ?v10x35) (some 124) rfl rfl (by kernel_rfl) (by kernel_rfl) (by kernel_rfl) (fun _ _ _ h => h) (Or.inl ⟨by kernel_rfl, ?h10x35⟩) (by assumption) ?r10x35
                      case h10x35 => (intro w hSw; obtain ⟨s0, s1, s2⟩ := hSw; go_simp; first | done | (with_reducible rfl))
                      try simp only [Act.put]
                      try simp only [List.setIfInBounds_toArray]
                      try simp only [List.set_cons_succ]
                      try simp only [List.set_cons_zero]
                      refine wpAnyH_take_at (i := 11) (v := ?v11x36) (some 125) rfl rfl (by kernel_rfl) (by kernel_rfl) (by kernel_rfl) (fun _ _ _ h => h) (Or.inl ⟨by kernel_rfl, ?h11x36⟩) (by assumption) ?r11x36
                      case h11x36 => (intro w hSw; obtain ⟨s0, s1, s2⟩ := hSw; go_simp; first | done | (with_reducible rfl))
                      try simp only [Act.put]
                      try simp only [List.setIfInBounds_toArray]
                      try simp only [List.set_cons_succ]
                      try simp only [List.set_cons_zero]
                      refine wpAnyH_take_at (i := 12) (v := ?v12x37) (some 126) rfl rfl (by kernel_rfl) (by kernel_rfl) (by kernel_rfl) (fun _ _ _ h => h) (Or.inl ⟨by kernel_rfl, ?h12x37⟩) (by assumption) ?r12x37
                      case h12x37 => (intro w hSw; obtain ⟨s0, s1, s2⟩ := hSw; go_simp; first | done | (with_reducible rfl))
                      try simp only [Act.put]
                      try simp only [List.setIfInBounds_toArray]
                      try simp only [List.set_cons_succ]
                      try simp only [List.set_cons_zero]
                      refine wpAnyH_take_at (i := 13) (v := ?v13x38) (some 127) rfl rfl (by kernel_rfl) (by kernel_rfl) (by kernel_rfl) (fun _ _ _ h => h) (Or.inl ⟨by kernel_rfl, ?h13x38⟩) (by assumption) ?r13x38
                      case h13x38 => (intro w hSw; obtain ⟨s0, s1, s2⟩ := hSw; go_simp; first | done | (with_reducible rfl))
                      try simp only [Act.put]
                      try simp only [List.setIfInBounds_toArray]
                      try simp only [List.set_cons_succ]
                      try simp only [List.set_cons_zero]
                      refine wpAnyH_take_at (i := 14) (v := ?v14x39) (some 128) rfl rfl (by kernel_rfl) (by kernel_rfl) (by kernel_rfl) (fun _ _ _ h => h) (Or.inl ⟨by kernel_rfl, ?h14x39⟩) (by assumption) ?r14x39
                      case h14x39 => (intro w hSw; obtain ⟨s0, s1, s2⟩ := hSw; go_simp; first | done | (with_reducible rfl))
                      try simp only [Act.put]
                      try simp only [List.setIfInBounds_toArray]
                      try simp only [List.set_cons_succ]
                      try simp only [List.set_cons_zero]
                      refine wpAnyH_take_at (i := 15) (v := ?v15x40) (some 129) rfl rfl (by kernel_rfl) (by kernel_rfl) (by kernel_rfl) (fun _ _ _ h => h) (Or.inl ⟨by kernel_rfl, ?h15x40⟩) (by assumption) ?r15x40
                      case h15x40 => (intro w hSw; obtain ⟨s0, s1, s2⟩ := hSw; go_simp; first | done | (with_reducible rfl))
                      try simp only [Act.put]
                      try simp only [List.setIfInBounds_toArray]
                      try simp only [List.set_cons_succ]
                      try simp only [List.set_cons_zero]
                      refine wpAnyH_take_at (i := 16) (v := .int .i64 sc) (some 130) rfl rfl (by kernel_rfl) (by kernel_rfl) (by kernel_rfl) (fun _ _ _ h => h) (Or.inl ⟨by kernel_rfl, ?h16q⟩) (by assumption) ?r16q
                      case h16q => (intro w hSw; obtain ⟨s0, s1, s2⟩ := hSw; go_simp; first | done | exact hwsc | (with_reducible rfl))
                      try simp only [Act.put]
                      try simp only [List.setIfInBounds_toArray]
                      try simp only [List.set_cons_succ]
                      try simp only [List.set_cons_zero]
                      refine wpAnyH_take_at (i := 17) (v := ?v17x41) (some 131) rfl rfl (by kernel_rfl) (by kernel_rfl) (by kernel_rfl) (fun _ _ _ h => h) (Or.inl ⟨by kernel_rfl, ?h17x41⟩) (by assumption) ?r17x41
                      case h17x41 => (intro w hSw; obtain ⟨s0, s1, s2⟩ := hSw; go_simp; first | done | (with_reducible rfl))
                      try simp only [Act.put]
                      try simp only [List.setIfInBounds_toArray]
                      try simp only [List.set_cons_succ]
                      try simp only [List.set_cons_zero]
                      refine wpAnyH_take_at (i := 18) (v := ?v18x42) (some 132) rfl rfl (by kernel_rfl) (by kernel_rfl) (by kernel_rfl) (fun _ _ _ h => h) (Or.inl ⟨by kernel_rfl, ?h18x42⟩) (by assumption) ?r18x42
                      case h18x42 => (intro w hSw; obtain ⟨s0, s1, s2⟩ := hSw; go_simp; first | done | (with_reducible rfl))
                      try simp only [Act.put]
                      try simp only [List.setIfInBounds_toArray]
                      try simp only [List.set_cons_succ]
                      try simp only [List.set_cons_zero]
                      refine wpAnyH_take_at (i := 19) (v := ?v19x43) (some 133) rfl rfl (by kernel_rfl) (by kernel_rfl) (by kernel_rfl) (fun _ _ _ h => h) (Or.inl ⟨by kernel_rfl, ?h19x43⟩) (by assumption) ?r19x43
                      case h19x43 => (intro w hSw; obtain ⟨s0, s1, s2⟩ := hSw; go_simp; first | done | (with_reducible rfl))
                      try simp only [Act.put]
                      try simp only [List.setIfInBounds_toArray]
                      try simp only [List.set_cons_succ]
                      try simp only [List.set_cons_zero]
                      refine wpAnyH_take_at (i := 20) (v := ?v20x44) (some 134) rfl rfl (by kernel_rfl) (by kernel_rfl) (by kernel_rfl) (fun _ _ _ h => h) (Or.inl ⟨by kernel_rfl, ?h20x44⟩) (by assumption) ?r20x44
                      case h20x44 => (intro w hSw; obtain ⟨s0, s1, s2⟩ := hSw; go_simp; first | done | (with_reducible rfl))
                      try simp only [Act.put]
                      try simp only [List.setIfInBounds_toArray]
                      try simp only [List.set_cons_succ]
                      try simp only [List.set_cons_zero]
                      refine wpAnyH_done (by kernel_rfl) ?_ _
                      go_wp2_with fail
                      go_meet
                      exact ⟨by first | rfl | simp, hb0⟩
                  case rest =>
                    obtain ⟨rfl, hb⟩ := hcut
                    obtain ⟨z4, hwx⟩ : ∃ x, x = wc := ⟨_, rfl⟩
                    subst hwx
                    have HB4 := Lib.hid (below_only HBz.out hb)
                    clear hb cu cv cc zu zv hNn
                    go_wp2_with fail
                    go_roundw
                    case rel => exact ⟨j + 1, by omega, by go_num, HB4.out⟩
                    case measure => simp [intOf]; omega
                · skip
                  obtain rfl : j = m := by omega
                  clear HT W_u W_v H_r
                  have hb := HBz.out
                  clear HBz
                  replace HF := Lib.hid (HF.out.below hb)
                  have hsz := (hb).size
                  replace H_p := Lib.hid (row_below H_p.out hb)
                  replace B := Lib.hid (below_only B.out hb)
                  clear hb hsz
                  go_wp2_with fail
                  go_roundw
                  case rel => exact ⟨k + 1, S2, ws2, q2, by omega, by omega, by go_num, HlS2.out, Hmv.out, HF.out, H_p.out, B.out⟩
                  case measure => simp [intOf]; omega
    · by_cases hl : k < L.length
      · have h100 : ¬ k < 40 := fun h => hlt ⟨hl, h⟩
        have B2 := B.out
        clear B hlt
        go_wp2_with fail
        go_ret
        exact ⟨rfl, B2⟩
      · have B2 := B.out
        clear B hlt
        go_wp2_with fail
        go_ret
        exact ⟨rfl, B2⟩

end Go.Proofs.Ythedndejlfkknaa
