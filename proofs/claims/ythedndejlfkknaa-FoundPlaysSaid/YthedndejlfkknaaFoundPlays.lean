/- Layer 14: the walk of FoundPlays. -/
import Derived.Test.YthedndejlfkknaaFLawPlain
import Derived.Test.YthedndejlfkknaaRFs
import Derived.Test.YthedndejlfkknaaFRest
namespace Go.Proofs.Ythedndejlfkknaa
open Go.RowKit
set_option linter.unusedVariables false
set_option linter.unusedSimpArgs false

theorem meas_lt (ps : Int) (j : Nat) (h : (j : Int) < ps) (h8 : ps ≤ 8) : (ps - intOf (.int .i64 (wrap64 ((j : Int) + 1)))).toNat < (ps - intOf (.int .i64 (j : Int))).toNat := by
  have hw : wrap64 ((j : Int) + 1) = (j : Int) + 1 := by unfold wrap64; omega
  rw [hw]
  simp only [intOf]
  omega
set_option maxRecDepth 100000 in
set_option maxHeartbeats 8000000 in
theorem foundPlays_walk (s0 t0 i0 h0 : Int) (A : Option Addr) (cp : Nat) (L : List FOp) (w : World) (z0 : (Lit.int .i64 s0).wf = true) (z1 : (Lit.int .i64 t0).wf = true) (z2 : (Lit.int .i64 i0).wf = true) (z3 : (Lit.int .i64 h0).wf = true) (hLk : L.length ≤ cp) (hkm : cp ≤ maxLen) (hL : Cells w A (L.flatMap fopCells)) (hq : ∀ o ∈ L, FOpOk o) :
    Calls Try.prog 7 #[.agg #[.int .i64 s0, .int .i64 t0, .int .i64 i0, .int .i64 h0], .slice A L.length cp] w fun r w' => r = .returned (.bool true) ∧ Below w.heap.size w w' := by
  have hlm : L.length ≤ 9223372036854775807 := by unfold maxLen at hkm; omega
  have HL0 := Lib.hid hL
  have Hq := Lib.hid hq
  have hP0 := fitP_ok ⟨s0, t0, i0, h0⟩
  have hP1 : (fitP ⟨s0, t0, i0, h0⟩).h ≤ 1016 := by unfold fitP; simp only; omega
  have HFit : Hid (∀ w, Calls Try.prog 10 #[.agg #[.int .i64 s0, .int .i64 t0, .int .i64 i0, .int .i64 h0]] w fun r w' => r = .returned (fitP ⟨s0, t0, i0, h0⟩).val ∧ Below w.heap.size w w') := Lib.hid fun w => fit_plan ⟨s0, t0, i0, h0⟩ w
  obtain ⟨⟨ps, pt, pi, ph⟩, HP⟩ : ∃ x, Hid (fitP ⟨s0, t0, i0, h0⟩ = x) := ⟨_, Lib.hid rfl⟩
  rw [HP.out] at hP0 hP1 HFit
  have HPl : Hid (PlanOk ps pt pi ph) := Lib.hid (by obtain ⟨a1, a2, a3, a4, a5, a6, a7, a8, a9, a10⟩ := hP0; exact ⟨a1, a2, a3, a4, a5, a6, a7, a8, a9, a10⟩)
  have HPh : Hid (ph ≤ 1016) := Lib.hid hP1
  clear hL hq hkm hP0 hP1 z0 z1 z2 z3
  go_enter Try.func7, Try.ntmps7
  go_upto_region 1 with fail
  refine one_row w _ _ ?_
  intro w1 hr hb
  have B := Lib.hid (hb)
  clear hb
  have H_q := Lib.hid (show w1.heap[w.heap.size]? = some (.cells #[.int .i64 s0, .int .i64 t0, .int .i64 i0, .int .i64 h0] 23 (0, 0)) from hr)
  clear hr
  go_wp2_with fail
  refine (shown_any _).mono ?_
  rintro r w2 ⟨rfl, hb⟩
  have hsz := (hb).size
  replace H_q := Lib.hid (row_below H_q.out hb)
  replace B := Lib.hid (below_only B.out hb)
  clear hb hsz
  obtain ⟨q_0, q_1, q_2, q_3, q_f0, q_f1, q_f2, q_f3⟩ := box4 H_q.out
  have z_q := lt_of_heap H_q.out
  go_wp2_with fail
  refine (HFit.out _).mono ?_
  rintro r w3 ⟨rfl, hb⟩
  clear q_0 q_1 q_2 q_3 q_f0 q_f1 q_f2 q_f3 z_q
  have hsz := (hb).size
  replace H_q := Lib.hid (row_below H_q.out hb)
  replace B := Lib.hid (below_only B.out hb)
  clear hb hsz
  clear H_q
  go_upto_region 3 with fail
  refine one_row w3 _ _ ?_
  intro w4 hr hb
  have hlB := B.out.size
  have hsz := (hb).size
  replace B := Lib.hid (below_only B.out hb)
  clear hb hsz
  have H_p := Lib.hid (show w4.heap[w3.heap.size]? = some (.cells #[.int .i64 ps, .int .i64 pt, .int .i64 pi, .int .i64 ph] 23 (0, 0)) from hr)
  clear hr
  obtain ⟨g_p, hg_p⟩ : ∃ x, x = w3.heap.size := ⟨_, rfl⟩
  rw [← hg_p] at H_p ⊢
  have L_p : Hid (w.heap.size ≤ g_p) := Lib.hid (by omega)
  clear hg_p hlB
  obtain ⟨p_0, p_1, p_2, p_3, p_f0, p_f1, p_f2, p_f3⟩ := box4 H_p.out
  have z_p := lt_of_heap H_p.out
  go_wp2_with fail
  refine (foundNewG_any ps pt pi ph _ HPl.out).mono ?_
  rintro r w5 ⟨p, b, gg, q, rfl, hA, hG, hl, hn, hb⟩
  have E_p : Hid (g_p < w4.heap.size) := Lib.hid (lt_of_heap H_p.out)
  have HBB : Hid (w.heap.size ≤ w4.heap.size) := Lib.hid B.out.size
  have HF := Lib.hid (fs_new (t := pt) HPl.out hA hG hl hn)
  obtain ⟨BB, hBB⟩ : ∃ x, x = w4.heap.size := ⟨_, rfl⟩
  rw [← hBB] at E_p HBB HF
  obtain ⟨f, hf⟩ : ∃ x, x = 64 * ps + pi := ⟨_, rfl⟩
  obtain ⟨e, he⟩ : ∃ x, x = f + ph := ⟨_, rfl⟩
  rw [← hf, ← he] at HF
  have Hfe := Lib.hid (And.intro hf he)
  have HlS : Hid (((newS ⟨ps, pt, pi, ph⟩).l.length : Int) = ps) := Lib.hid (by have := HPl.out.s0; simp [newS]; omega)
  obtain ⟨m, hm⟩ : ∃ x, x = (newWs ps pi ph).length := ⟨_, rfl⟩
  have Hm : Hid ((newWs ps pi ph).length = m) := Lib.hid hm.symm
  have Hm0 : Hid (0 < m) := Lib.hid (by rw [hm, newWs_len]; have := HPl.out.s0; have := HPl.out.i0; have := HPl.out.h0; omega)
  have hm1 : m ≤ 8192 := by rw [hm]; exact hA.small
  clear hA hG hl hn hf he hBB hm
  clear p_0 p_1 p_2 p_3 p_f0 p_f1 p_f2 p_f3 z_p
  have hsz := (hb).size
  replace H_p := Lib.hid (row_below H_p.out hb)
  replace B := Lib.hid (below_only B.out hb)
  clear hb hsz
  obtain ⟨p_0, p_1, p_2, p_3, p_f0, p_f1, p_f2, p_f3⟩ := box4 H_p.out
  have z_p := lt_of_heap H_p.out
  go_wp2_with fail
  refine (rallNewG_any ps pt pi ph _ HPl.out).mono ?_
  rintro r w6 ⟨X, dq, db, gp, gq, rfl, hA, hX, hG, hn, hl, hb⟩
  rw [← Hfe.out.1] at hG
  have HBX : Hid (w.heap.size ≤ w5.heap.size) := Lib.hid B.out.size
  have hRf := rfs_new HPl.out hA hX (by rw [← Hfe.out.1]; exact hG) hn hl
  rw [← Hfe.out.1, ← Hfe.out.2] at hRf
  have hFl := HF.out.lt
  have HAp : Hid (∀ j ∈ [X, dq, db, gp, gq], j ∉ FsT b gg q ∧ j ≠ p) := Lib.hid fun j hj => by
    have h9 := hRf.lows
    have h10 : w5.heap.size ≤ j := by simp at hj; omega
    exact ⟨HF.out.fresh h10, by omega⟩
  have D_p : Hid (g_p ∉ [db, gq]) := Lib.hid (by have h9 := hRf.lows; have := lt_of_heap H_p.out; simp; omega)
  obtain ⟨BX, hBX⟩ : ∃ x, x = w5.heap.size := ⟨_, rfl⟩
  rw [← hBX] at hRf HBX
  clear hA hX hG hn hl hFl hBX
  clear p_0 p_1 p_2 p_3 p_f0 p_f1 p_f2 p_f3 z_p
  replace HF := Lib.hid (HF.out.below hb)
  have hsz := (hb).size
  replace H_p := Lib.hid (row_below H_p.out hb)
  replace B := Lib.hid (below_only B.out hb)
  clear hb hsz
  have HR := Lib.hid hRf
  clear hRf
  have Hz0 : Hid (∃ z, (newS ⟨ps, pt, pi, ph⟩).l[0]? = some z ∧ z.c.st = 2) := Lib.hid ⟨_, rfl, rfl⟩
  have Hf8 : Hid (f % 8 = 0) := Lib.hid (by have h1 := Hfe.out; have h2 := HPl.out; obtain ⟨a1, a2, a3, a4, a5, a6, a7, a8, a9, a10⟩ := h2; omega)
  go_wp2_with fail
  go_loopw [11] (fun t wr => ∃ (k : Nat) (S : Sco) (ws : List Int) (q : Option Nat), k ≤ L.length ∧ k ≤ 40 ∧ t = .int .i64 k ∧ (S.l.length : Int) = ps ∧ ws.length = m ∧ Fs BB wr p b gg q f e S ws ∧ wr.heap[g_p]? = some (.cells #[.int .i64 ps, .int .i64 pt, .int .i64 pi, .int .i64 ph] 23 (0, 0)) ∧ Below w.heap.size w wr ∧ RFs BX wr X dq db gp gq ps pt pi ph f e S ws ∧ (∀ j ∈ [X, dq, db, gp, gq], j ∉ FsT b gg q ∧ j ≠ p) ∧ (∃ z, S.l[0]? = some z ∧ z.c.st = 2)) (fun t _ => (40 - intOf t).toNat)
  case atStart => exact ⟨0, _, _, _, Nat.zero_le _, by omega, rfl, HlS.out, Hm.out, HF.out, H_p.out, B.out, HR.out, HAp.out, Hz0.out⟩
  case round =>
    clear HF H_p B HlS Hm HR HAp Hz0
    obtain ⟨k, S, ws, q, hk, hk2, rfl, hlS, hm, hF, hp, hB, hR, hap, hz0⟩ := hrel
    have HlS := Lib.hid hlS
    have Hmu := Lib.hid hm
    have HF := Lib.hid hF
    have H_p := Lib.hid hp
    have B := Lib.hid hB
    have HR := Lib.hid hR
    have HAp := Lib.hid hap
    have Hz0 := Lib.hid hz0
    clear hlS hm hF hp hB hR hap hz0
    by_cases hlt : k < L.length ∧ k < 40
    · skip
      obtain ⟨hlt, hlt2⟩ := hlt
      have hlt3 : (k : Int) < 40 := by omega
      obtain ⟨bA, off, rfl, hbA, hcA⟩ := fops_at HL0.out (by omega)
      obtain ⟨⟨mk, n⟩, hop⟩ : ∃ o, L[k]? = some o := ⟨_, List.getElem?_eq_getElem hlt⟩
      have Hn : Hid (-9223372036854775808 ≤ n ∧ n ≤ 9223372036854775807) := Lib.hid (Hq.out _ (List.mem_of_getElem? hop))
      obtain ⟨k0, k1⟩ := hcA k _ hop
      simp only at k0 k1
      have K0 := Lib.hid k0
      have K1 := Lib.hid k1
      have HbA := Lib.hid hbA
      have hbA2 : bA < wr.heap.size := Nat.lt_of_lt_of_le hbA B.out.size
      clear hcA hop k0 k1
      clear hbA
      have cA0 : wr.cell? ⟨bA, off + k * 2, none⟩ = some (.bool mk) := (B.out.cell (p := ⟨bA, off + k * 2, none⟩) HbA.out).trans K0.out
      have cA1 : wr.cell? ⟨bA, off + k * 2 + 1, none⟩ = some (.int .i64 n) := (B.out.cell (p := ⟨bA, off + k * 2 + 1, none⟩) HbA.out).trans K1.out
      have zA : bA < wr.heap.size := Nat.lt_of_lt_of_le HbA.out B.out.size
      go_upto_region 10 with fail
      try simp only [Act.put]
      go_cut [12] from 67 to 78 (fun vd wx => ∃ kc cA gr, vd = .pointer (some ⟨gr, 0, none⟩) ∧ wx.heap[gr]? = some (.cells (begR ps mk n ⟨cA, 0, kc⟩).arr 42 (0, 0)) ∧ wr.heap.size ≤ gr ∧ Below wr.heap.size wr wx)
      case first =>
        as_aux_lemma =>
          refine wp_region_held_drew (S := fun W' => W'.heap[g_p]? = some (.cells #[.int .i64 ps, .int .i64 pt, .int .i64 pi, .int .i64 ph] 23 (0, 0)) ∧ W'.cell? ⟨bA, off + k * 2, none⟩ = some (.bool mk) ∧ W'.cell? ⟨bA, off + k * 2 + 1, none⟩ = some (.int .i64 n) ∧ bA < W'.heap.size) (by kernel_rfl) (show wr.drew.heap[_]? = _ ∧ wr.drew.cell? _ = _ ∧ wr.drew.cell? _ = _ ∧ _ from ⟨H_p.out, cA0, cA1, zA⟩) ?_
          intro hS
          have hb0 : Below wr.heap.size wr wr.drew := Below.drew (Below.refl _ _)
          clear cA0 cA1 zA hbA2
          generalize wr.drew = y0 at hS hb0 ⊢
          refine wpAnyH_take_at (i := 0) (v := .agg #[.int .i64 ps, .int .i64 pt, .int .i64 pi, .int .i64 ph]) (some 67) rfl rfl (by kernel_rfl) (by kernel_rfl) (by kernel_rfl) (fun _ _ _ h => h) (yieldsIf_load_row (by kernel_rfl) 23 (.tmp 6) rfl g_p rfl #[.int .i64 ps, .int .i64 pt, .int .i64 pi, .int .i64 ph] (fun W' hW' => hW'.1) undPln4 rfl infoPln4) (by assumption) ?_
          try simp only [Act.put]
          try simp only [List.setIfInBounds_toArray]
          try simp only [List.set_cons_succ]
          try simp only [List.set_cons_zero]
          refine wpAnyH_take_at (i := 1) (v := ?v1x1) (some 68) rfl rfl (by kernel_rfl) (by kernel_rfl) (by kernel_rfl) (fun _ _ _ h => h) (Or.inl ⟨by kernel_rfl, ?h1x1⟩) (by assumption) ?r1x1
          case h1x1 => (intro w' hSw; obtain ⟨s1, s2, s3, s4⟩ := hSw; go_simp; first | done | (with_reducible rfl))
          try simp only [Act.put]
          try simp only [List.setIfInBounds_toArray]
          try simp only [List.set_cons_succ]
          try simp only [List.set_cons_zero]
          refine wpAnyH_take_at (i := 2) (v := ?v2x2) (some 69) rfl rfl (by kernel_rfl) (by kernel_rfl) (by kernel_rfl) (fun _ _ _ h => h) (Or.inl ⟨by kernel_rfl, ?h2x2⟩) (by assumption) ?r2x2
          case h2x2 => (intro w' hSw; obtain ⟨s1, s2, s3, s4⟩ := hSw; go_simp; first | done | (with_reducible rfl))
          try simp only [Act.put]
          try simp only [List.setIfInBounds_toArray]
          try simp only [List.set_cons_succ]
          try simp only [List.set_cons_zero]
          refine wpAnyH_take_at (i := 3) (v := ?v3x3) (some 70) rfl rfl (by kernel_rfl) (by kernel_rfl) (by kernel_rfl) (fun _ _ _ h => h) (Or.inl ⟨by kernel_rfl, ?h3x3⟩) (by assumption) ?r3x3
          case h3x3 => (intro w' hSw; obtain ⟨s1, s2, s3, s4⟩ := hSw; go_simp; first | done | (with_reducible rfl))
          try simp only [Act.put]
          try simp only [List.setIfInBounds_toArray]
          try simp only [List.set_cons_succ]
          try simp only [List.set_cons_zero]
          refine wpAnyH_take_at (i := 4) (v := ?v4x4) (some 71) rfl rfl (by kernel_rfl) (by kernel_rfl) (by kernel_rfl) (fun _ _ _ h => h) (Or.inl ⟨by kernel_rfl, ?h4x4⟩) (by assumption) ?r4x4
          case h4x4 => (intro w' hSw; obtain ⟨s1, s2, s3, s4⟩ := hSw; go_simp; first | done | (with_reducible rfl))
          try simp only [Act.put]
          try simp only [List.setIfInBounds_toArray]
          try simp only [List.set_cons_succ]
          try simp only [List.set_cons_zero]
          refine wpAnyH_take_at (i := 5) (v := ?v5x5) (some 72) rfl rfl (by kernel_rfl) (by kernel_rfl) (by kernel_rfl) (fun _ _ _ h => h) (Or.inl ⟨by kernel_rfl, ?h5x5⟩) (by assumption) ?r5x5
          case h5x5 => (intro w' hSw; obtain ⟨s1, s2, s3, s4⟩ := hSw; go_simp; first | done | (with_reducible rfl))
          try simp only [Act.put]
          try simp only [List.setIfInBounds_toArray]
          try simp only [List.set_cons_succ]
          try simp only [List.set_cons_zero]
          refine wpAnyH_take_at (i := 6) (v := ?v6x6) (some 73) rfl rfl (by kernel_rfl) (by kernel_rfl) (by kernel_rfl) (fun _ _ _ h => h) (Or.inl ⟨by kernel_rfl, ?h6x6⟩) (by assumption) ?r6x6
          case h6x6 => (intro w' hSw; obtain ⟨s1, s2, s3, s4⟩ := hSw; go_simp; first | done | (with_reducible rfl))
          try simp only [Act.put]
          try simp only [List.setIfInBounds_toArray]
          try simp only [List.set_cons_succ]
          try simp only [List.set_cons_zero]
          refine wpAnyH_take_at (i := 7) (v := ?v7x7) (some 74) rfl rfl (by kernel_rfl) (by kernel_rfl) (by kernel_rfl) (fun _ _ _ h => h) (Or.inl ⟨by kernel_rfl, ?h7x7⟩) (by assumption) ?r7x7
          case h7x7 => (intro w' hSw; obtain ⟨s1, s2, s3, s4⟩ := hSw; go_simp; first | done | (with_reducible rfl))
          try simp only [Act.put]
          try simp only [List.setIfInBounds_toArray]
          try simp only [List.set_cons_succ]
          try simp only [List.set_cons_zero]
          refine wpAnyH_take_at (i := 8) (v := ?v8x8) (some 75) rfl rfl (by kernel_rfl) (by kernel_rfl) (by kernel_rfl) (fun _ _ _ h => h) (Or.inl ⟨by kernel_rfl, ?h8x8⟩) (by assumption) ?r8x8
          case h8x8 => (intro w' hSw; obtain ⟨s1, s2, s3, s4⟩ := hSw; go_simp; first | done | (with_reducible rfl))
          try simp only [Act.put]
          try simp only [List.setIfInBounds_toArray]
          try simp only [List.set_cons_succ]
          try simp only [List.set_cons_zero]
          refine wpAnyH_take_at (i := 9) (v := ?v9x9) (some 76) rfl rfl (by kernel_rfl) (by kernel_rfl) (by kernel_rfl) (fun _ _ _ h => h) (Or.inl ⟨by kernel_rfl, ?h9x9⟩) (by assumption) ?r9x9
          case h9x9 => (intro w' hSw; obtain ⟨s1, s2, s3, s4⟩ := hSw; go_simp; first | done | (with_reducible rfl))
          try simp only [Act.put]
          try simp only [List.setIfInBounds_toArray]
          try simp only [List.set_cons_succ]
          try simp only [List.set_cons_zero]
          refine wpAnyH_take_at (i := 10) (v := ?v10x10) (some 77) rfl rfl (by kernel_rfl) (by kernel_rfl) (by kernel_rfl) (fun _ _ _ h => h) (Or.inl ⟨by kernel_rfl, ?h10x10⟩) (by assumption) ?r10x10
          case h10x10 => (intro w' hSw; obtain ⟨s1, s2, s3, s4⟩ := hSw; go_simp; first | done | (with_reducible rfl))
          try simp only [Act.put]
          try simp only [List.setIfInBounds_toArray]
          try simp only [List.set_cons_succ]
          try simp only [List.set_cons_zero]
          refine wpAnyH_ready (rs := [11, 12]) (by kernel_rfl) (by simp) ?_
          refine AllReadyH.cons rfl (fun K hK => ?_) (AllReadyH.cons rfl (fun K hK => ?_) AllReadyH.nil)
          · skip
            go_simp
            refine (begun_any ps pt pi ph mk n _ HPl.out Hn.out).mono ?_
            rintro e' y8 ⟨kc, cA, rfl, hb⟩
            go_simp
            replace hb0 := below_only hb0 hb
            refine hK.out _ _ (by obtain ⟨s1, s2, s3, s4⟩ := hS; exact ⟨row_below s1 hb, (hb.cell (lt_of_cell s2)).trans s2, (hb.cell (lt_of_cell s3)).trans s3, Nat.lt_of_lt_of_le s4 hb.size⟩) (fun hS => ?_)
            clear hK K
            try simp only [Act.put]
            try simp only [List.setIfInBounds_toArray]
            try simp only [List.set_cons_succ]
            try simp only [List.set_cons_zero]
            refine wpAnyH_ready (rs := [12]) (by kernel_rfl) (by simp) ?_
            refine AllReadyH.cons rfl (fun K hK => ?_) AllReadyH.nil
            refine step_alloc_run (some 12) rfl rfl rfl ?_
            refine k_alloc (fun yZ hZ hb => ?_)
            have hz0 : wr.heap.size ≤ y8.heap.size := hb0.size
            obtain ⟨gZ, HgZ⟩ : ∃ x, x = y8.heap.size := ⟨_, rfl⟩
            have hzg : gZ ≠ g_p := by have := lt_of_heap hS.1; omega
            have hzA : gZ ≠ bA := by have := hS.2.2.2; omega
            rw [← HgZ] at hZ hz0 ⊢
            clear HgZ
            replace hb0 := below_only hb0 hb
            refine hK.out _ _ (by obtain ⟨s1, s2, s3, s4⟩ := hS; exact ⟨row_below s1 hb, (hb.cell (lt_of_cell s2)).trans s2, (hb.cell (lt_of_cell s3)).trans s3, Nat.lt_of_lt_of_le s4 hb.size⟩) (fun hS => ?_)
            clear hK K
            try simp only [Act.put]
            try simp only [List.setIfInBounds_toArray]
            try simp only [List.set_cons_succ]
            try simp only [List.set_cons_zero]
            refine wpAnyH_ready (rs := [13]) (by kernel_rfl) (by simp) ?_
            refine AllReadyH.cons rfl (fun K hK => ?_) AllReadyH.nil
            refine step_store_row none rfl rfl 42 (.tmp 12) (.tmp 78) rfl gZ (begR ps mk n ⟨cA, 0, kc⟩).arr rfl rfl 42 ZRun hZ infoRun rfl (Rn.one _) ?_
            refine hK.out _ _ (by obtain ⟨s1, s2, s3, s4⟩ := hS; exact ⟨(setRow_other _ _ _ _ hzg.symm).trans s1, (cell_setRow hzA.symm).trans s2, (cell_setRow hzA.symm).trans s3, by simpa [World.setRow] using s4⟩) (fun hS => ?_)
            clear hK K
            try simp only [Act.put]
            try simp only [List.setIfInBounds_toArray]
            try simp only [List.set_cons_succ]
            try simp only [List.set_cons_zero]
            refine wpAnyH_done (by kernel_rfl) ?_ _
            go_wp2_with fail
            go_meet
            exact ⟨kc, cA, gZ, rfl, setRow_heap _ _ _ _ _ _ hZ, hz0, below_setRow hb0 hz0 _⟩
          · skip
            refine step_alloc_run (some 12) rfl rfl rfl ?_
            refine k_alloc (fun yZ hZ hb => ?_)
            have hz0 : wr.heap.size ≤ y0.heap.size := hb0.size
            obtain ⟨gZ, HgZ⟩ : ∃ x, x = y0.heap.size := ⟨_, rfl⟩
            have hzg : gZ ≠ g_p := by have := lt_of_heap hS.1; omega
            have hzA : gZ ≠ bA := by have := hS.2.2.2; omega
            rw [← HgZ] at hZ hz0 ⊢
            clear HgZ
            replace hb0 := below_only hb0 hb
            refine hK.out _ _ (by obtain ⟨s1, s2, s3, s4⟩ := hS; exact ⟨row_below s1 hb, (hb.cell (lt_of_cell s2)).trans s2, (hb.cell (lt_of_cell s3)).trans s3, Nat.lt_of_lt_of_le s4 hb.size⟩) (fun hS => ?_)
            clear hK K
            try simp only [Act.put]
            try simp only [List.setIfInBounds_toArray]
            try simp only [List.set_cons_succ]
            try simp only [List.set_cons_zero]
            refine wpAnyH_ready (rs := [11]) (by kernel_rfl) (by simp) ?_
            refine AllReadyH.cons rfl (fun K hK => ?_) AllReadyH.nil
            go_simp
            refine (begun_any ps pt pi ph mk n _ HPl.out Hn.out).mono ?_
            rintro e' y8 ⟨kc, cA, rfl, hb⟩
            go_simp
            replace hZ := row_below hZ hb
            replace hb0 := below_only hb0 hb
            refine hK.out _ _ (by obtain ⟨s1, s2, s3, s4⟩ := hS; exact ⟨row_below s1 hb, (hb.cell (lt_of_cell s2)).trans s2, (hb.cell (lt_of_cell s3)).trans s3, Nat.lt_of_lt_of_le s4 hb.size⟩) (fun hS => ?_)
            clear hK K
            try simp only [Act.put]
            try simp only [List.setIfInBounds_toArray]
            try simp only [List.set_cons_succ]
            try simp only [List.set_cons_zero]
            refine wpAnyH_ready (rs := [13]) (by kernel_rfl) (by simp) ?_
            refine AllReadyH.cons rfl (fun K hK => ?_) AllReadyH.nil
            refine step_store_row none rfl rfl 42 (.tmp 12) (.tmp 78) rfl gZ (begR ps mk n ⟨cA, 0, kc⟩).arr rfl rfl 42 ZRun hZ infoRun rfl (Rn.one _) ?_
            refine hK.out _ _ (by obtain ⟨s1, s2, s3, s4⟩ := hS; exact ⟨(setRow_other _ _ _ _ hzg.symm).trans s1, (cell_setRow hzA.symm).trans s2, (cell_setRow hzA.symm).trans s3, by simpa [World.setRow] using s4⟩) (fun hS => ?_)
            clear hK K
            try simp only [Act.put]
            try simp only [List.setIfInBounds_toArray]
            try simp only [List.set_cons_succ]
            try simp only [List.set_cons_zero]
            refine wpAnyH_done (by kernel_rfl) ?_ _
            go_wp2_with fail
            go_meet
            exact ⟨kc, cA, gZ, rfl, setRow_heap _ _ _ _ _ _ hZ, hz0, below_setRow hb0 hz0 _⟩
      case rest =>
        obtain ⟨kc, cA, g_r, rfl, hr, hlr, hb⟩ := hcut
        obtain ⟨x1, hwx⟩ : ∃ x, x = wc := ⟨_, rfl⟩
        subst hwx
        clear cA0 cA1 zA hbA2
        have N_r : Hid (g_r ∉ FsT b gg q ∧ g_r ≠ p) := Lib.hid ⟨HF.out.fresh hlr, by have := HF.out.lt.1; omega⟩
        have D_r : Hid (g_r ∉ [db, gq]) := Lib.hid (by have := HR.out.lt; simp; omega)
        have M_r_p : Hid (g_r ≠ g_p) := Lib.hid (by have := lt_of_heap H_p.out; omega)
        have M_p_r : Hid (g_p ≠ g_r) := Lib.hid (by have := lt_of_heap H_p.out; omega)
        have L_r : Hid (w.heap.size ≤ g_r) := Lib.hid (by have := B.out.size; omega)
        clear hlr
        replace HR := Lib.hid (HR.out.below hb)
        replace HF := Lib.hid (HF.out.below hb)
        have hsz := (hb).size
        replace H_p := Lib.hid (row_below H_p.out hb)
        replace B := Lib.hid (below_only B.out hb)
        clear hb hsz
        have H_r := Lib.hid (show x1.heap[g_r]? = some (.cells (begR ps mk n ⟨cA, 0, kc⟩).arr 42 (0, 0)) from hr)
        clear hr
        have HPc := Lib.hid (begR_pc (s := ps) (mk := mk) (n := n) (S := S) (ch := ⟨cA, 0, kc⟩) HlS.out)
        have zr := lt_of_heap H_r.out
        cases hdn : done14 mk n S with
        | false =>
          have Hno := Lib.hid (not_done14 (f := f) (e := e) (ws := ws) (ch := noS) hdn HlS.out)
          have hpc := HPc.out.1
          rw [hdn] at hpc
          have HN : Hid ((begR ps mk n ⟨cA, 0, kc⟩).done = false ∧ (begR ps mk n ⟨cA, 0, kc⟩).pc = 0) := Lib.hid ⟨HPc.out.2, hpc⟩
          have o7 : x1.cell? ⟨g_r, 7, none⟩ = some (.int .i64 0) := by rw [row_cell H_r.out, ← HN.out.2]; rfl
          clear hpc hdn
          obtain ⟨p_0, p_1, p_2, p_3, p_f0, p_f1, p_f2, p_f3⟩ := box4 H_p.out
          have z_p := lt_of_heap H_p.out
          go_wp2_with (first | (refine wpList_load_row rfl 42 (.tmp 12) rfl g_r rfl 42 (begR ps mk n ⟨cA, 0, kc⟩).arr (0, 0) _ H_r.out undRun rfl infoRun ?_))
          refine (fstepNo_any p gg ps pt pi ph _ _ (.inr HN.out)).mono ?_
          rintro y x2 ⟨rfl, hb⟩
          clear o7 zr p_0 p_1 p_2 p_3 p_f0 p_f1 p_f2 p_f3 z_p
          replace HR := Lib.hid (HR.out.below hb)
          replace HF := Lib.hid (HF.out.below hb)
          have hsz := (hb).size
          replace H_p := Lib.hid (row_below H_p.out hb)
          replace H_r := Lib.hid (row_below H_r.out hb)
          replace B := Lib.hid (below_only B.out hb)
          clear hb hsz
          go_upto_region 13 with (refine wpList_store_row rfl 42 (.tmp 13) (.tmp 88) rfl x2.heap.size ZRun rfl rfl 42 ZRun (row_new _ _ _) infoRun rfl (by kernel_rfl) ?_; (try simp only [Act.put]); (try simp only [List.setIfInBounds_toArray]); (try simp only [List.set_cons_succ]); (try simp only [List.set_cons_zero]))
          refine alloc_set' x2 _ _ _ ?_
          intro x3 hr hb
          clear hr
          replace HR := Lib.hid (HR.out.below hb)
          replace HF := Lib.hid (HF.out.below hb)
          have hsz := (hb).size
          replace H_p := Lib.hid (row_below H_p.out hb)
          replace H_r := Lib.hid (row_below H_r.out hb)
          replace B := Lib.hid (below_only B.out hb)
          clear hb hsz
          go_wp2_with fail
          go_roundw
          case rel => exact ⟨k + 1, S, ws, q, by omega, by omega, by go_num, HlS.out, Hmu.out, HF.out, H_p.out, B.out, HR.out, HAp.out, Hz0.out⟩
          case measure => simp [intOf]; omega
        | true =>
          have Hdn := Lib.hid hdn
          have hpc := HPc.out.1
          rw [hdn] at hpc
          have HPc1 := Lib.hid (show (begR ps mk n ⟨cA, 0, kc⟩).pc = 1 from hpc)
          have o7 : x1.cell? ⟨g_r, 7, none⟩ = some (.int .i64 1) := by rw [row_cell H_r.out, ← HPc1.out]; rfl
          clear hpc hdn
          obtain ⟨p_0, p_1, p_2, p_3, p_f0, p_f1, p_f2, p_f3⟩ := box4 H_p.out
          have z_p := lt_of_heap H_p.out
          go_wp2_with (first | (refine wpList_load_row rfl 42 (.tmp 12) rfl g_r rfl 42 (begR ps mk n ⟨cA, 0, kc⟩).arr (0, 0) _ H_r.out undRun rfl infoRun ?_))
          refine (fstep14_any BB p b gg q f e S ws ps pt pi ph mk n ⟨cA, 0, kc⟩ _ HPl.out HF.out HlS.out Hdn.out).mono ?_
          rintro y x2 ⟨q2, rfl, hF, hq, hK⟩
          have HS0 := Lib.hid HR.out
          clear o7 zr p_0 p_1 p_2 p_3 p_f0 p_f1 p_f2 p_f3 z_p
          have hap := HAp.out
          have hlr := HR.out.lt
          replace HR := Lib.hid (HR.out.kept hK (fun j hj hm => hap j hm |>.1 hj))
          replace HAp : Hid (∀ j ∈ [X, dq, db, gp, gq], j ∉ FsT b gg q2 ∧ j ≠ p) := Lib.hid fun j hj => ⟨notin_new (hap j hj).1 (by simp at hj; omega) hq, (hap j hj).2⟩
          clear hap hlr
          replace H_p := Lib.hid (hK.row H_p.out (HF.out.elder E_p.out))
          have hl_r := lt_of_heap H_r.out
          have hn_r := N_r.out
          replace H_r := Lib.hid (hK.row H_r.out hn_r.1)
          replace N_r : Hid (g_r ∉ FsT b gg q2 ∧ g_r ≠ p) := Lib.hid ⟨notin_new hn_r.1 hl_r hq, hn_r.2⟩
          clear hl_r hn_r
          replace B := Lib.hid (Keep.under B.out hK (by have := B.out.size; omega) (fun j hj => Nat.le_trans HBB.out (HF.out.ges j hj).1))
          replace HF := Lib.hid hF
          clear hF hq hK
          go_upto_region 16 with (refine wpList_store_row rfl 42 (.tmp 15) (.tmp 98) rfl x2.heap.size (run14 f e ps mk n S ⟨cA, 0, kc⟩).arr rfl rfl 42 ZRun (row_new _ _ _) infoRun rfl (Rn.one _) ?_; (try simp only [Act.put]); (try simp only [List.setIfInBounds_toArray]); (try simp only [List.set_cons_succ]); (try simp only [List.set_cons_zero]))
          have hlr0 := HR.out.lt
          refine alloc_set' x2 _ _ _ ?_
          intro x3 hr hb
          have hlB := B.out.size
          have hfr := HF.out.fresh (Nat.le_refl x2.heap.size)
          have hlp := HF.out.lt.1
          have hl_p := lt_of_heap H_p.out
          have hl_r := lt_of_heap H_r.out
          replace HR := Lib.hid (HR.out.below hb)
          replace HF := Lib.hid (HF.out.below hb)
          have hsz := (hb).size
          replace H_p := Lib.hid (row_below H_p.out hb)
          replace H_r := Lib.hid (row_below H_r.out hb)
          replace B := Lib.hid (below_only B.out hb)
          clear hb hsz
          have H_b := Lib.hid (show x3.heap[x2.heap.size]? = some (.cells (run14 f e ps mk n S ⟨cA, 0, kc⟩).arr 42 (0, 0)) from hr)
          clear hr
          obtain ⟨g_b, hg_b⟩ : ∃ x, x = x2.heap.size := ⟨_, rfl⟩
          rw [← hg_b] at H_b ⊢
          have N_b : Hid (g_b ∉ FsT b gg q2 ∧ g_b ≠ p) := Lib.hid ⟨by rw [hg_b]; exact hfr, by omega⟩
          clear hfr hlp
          have M_p_b : Hid (g_p ≠ g_b) := Lib.hid (by omega)
          have M_b_p : Hid (g_b ≠ g_p) := Lib.hid (by omega)
          clear hl_p
          have M_r_b : Hid (g_r ≠ g_b) := Lib.hid (by omega)
          have M_b_r : Hid (g_b ≠ g_r) := Lib.hid (by omega)
          clear hl_r
          have L_b : Hid (w.heap.size ≤ g_b) := Lib.hid (by omega)
          have D_b : Hid (g_b ∉ [db, gq]) := Lib.hid (by simp; omega)
          clear hg_b hlB
          clear hlr0
          clear HS0
          go_wp2_with (first | (refine wpList_load_row rfl 42 (.tmp 12) rfl g_r rfl 42 (begR ps mk n ⟨cA, 0, kc⟩).arr (0, 0) _ H_r.out undRun rfl infoRun ?_))
          refine (rmake_any BX X dq db gp gq ps pt pi ph f e S ws mk n ⟨cA, 0, kc⟩ _ HPl.out HR.out HlS.out Hz0.out Hdn.out).mono ?_
          rintro y x4 ⟨rfl, hR, hK⟩
          have hap := HAp.out
          replace HF := Lib.hid (HF.out.kept hK (fun j hj hm => by
            have h8 := hap j (by simp at hj ⊢; omega)
            rcases List.mem_cons.1 hm with h9 | h9
            · exact h8.2 h9
            · exact h8.1 h9))
          clear hap
          replace H_p := Lib.hid (hK.row H_p.out D_p.out)
          replace H_r := Lib.hid (hK.row H_r.out D_r.out)
          replace H_b := Lib.hid (hK.row H_b.out D_b.out)
          replace B := Lib.hid (Keep.under B.out hK (by have := B.out.size; omega) (fun j hj => by have := HR.out.lows; have := HBX.out; simp at hj; omega))
          replace HR := Lib.hid hR
          clear hR hK
          go_upto_region 17 with (refine wpList_store_row rfl 42 (.tmp 17) (.tmp 102) rfl x4.heap.size (run14 f e ps mk n S ⟨cA, 0, kc⟩).arr rfl rfl 42 ZRun (row_new _ _ _) infoRun rfl (Rn.one _) ?_; (try simp only [Act.put]); (try simp only [List.setIfInBounds_toArray]); (try simp only [List.set_cons_succ]); (try simp only [List.set_cons_zero]))
          have hlr0 := HR.out.lt
          refine alloc_set' x4 _ _ _ ?_
          intro x5 hr hb
          have hlB := B.out.size
          have hfr := HF.out.fresh (Nat.le_refl x4.heap.size)
          have hlp := HF.out.lt.1
          have hl_p := lt_of_heap H_p.out
          have hl_r := lt_of_heap H_r.out
          have hl_b := lt_of_heap H_b.out
          replace HR := Lib.hid (HR.out.below hb)
          replace HF := Lib.hid (HF.out.below hb)
          have hsz := (hb).size
          replace H_p := Lib.hid (row_below H_p.out hb)
          replace H_r := Lib.hid (row_below H_r.out hb)
          replace H_b := Lib.hid (row_below H_b.out hb)
          replace B := Lib.hid (below_only B.out hb)
          clear hb hsz
          have H_c := Lib.hid (show x5.heap[x4.heap.size]? = some (.cells (run14 f e ps mk n S ⟨cA, 0, kc⟩).arr 42 (0, 0)) from hr)
          clear hr
          obtain ⟨g_c, hg_c⟩ : ∃ x, x = x4.heap.size := ⟨_, rfl⟩
          rw [← hg_c] at H_c ⊢
          have N_c : Hid (g_c ∉ FsT b gg q2 ∧ g_c ≠ p) := Lib.hid ⟨by rw [hg_c]; exact hfr, by omega⟩
          clear hfr hlp
          have M_p_c : Hid (g_p ≠ g_c) := Lib.hid (by omega)
          have M_c_p : Hid (g_c ≠ g_p) := Lib.hid (by omega)
          clear hl_p
          have M_r_c : Hid (g_r ≠ g_c) := Lib.hid (by omega)
          have M_c_r : Hid (g_c ≠ g_r) := Lib.hid (by omega)
          clear hl_r
          have M_b_c : Hid (g_b ≠ g_c) := Lib.hid (by omega)
          have M_c_b : Hid (g_c ≠ g_b) := Lib.hid (by omega)
          clear hl_b
          have L_c : Hid (w.heap.size ≤ g_c) := Lib.hid (by omega)
          have D_c : Hid (g_c ∉ [db, gq]) := Lib.hid (by simp; omega)
          clear hg_c hlB
          clear hlr0
          have HSm := Lib.hid (run14_same (f := f) (e := e) (s := ps) (ch := ⟨cA, 0, kc⟩) Hdn.out)
          go_wp2_with (first | (refine wpList_load_row rfl 42 (.tmp 15) rfl g_b rfl 42 (run14 f e ps mk n S ⟨cA, 0, kc⟩).arr (0, 0) _ H_b.out undRun rfl infoRun ?_) | (refine wpList_load_row rfl 42 (.tmp 17) rfl g_c rfl 42 (run14 f e ps mk n S ⟨cA, 0, kc⟩).arr (0, 0) _ H_c.out undRun rfl infoRun ?_))
          refine (same_self (run14 f e ps mk n S ⟨cA, 0, kc⟩) cA kc [] _ HSm.out.1 (by simp) Cells.nil HSm.out.2.1 HSm.out.2.2.1 HSm.out.2.2.2.1).mono ?_
          rintro y x6 ⟨rfl, hb⟩
          replace HR := Lib.hid (HR.out.below hb)
          replace HF := Lib.hid (HF.out.below hb)
          have hsz := (hb).size
          replace H_p := Lib.hid (row_below H_p.out hb)
          replace H_r := Lib.hid (row_below H_r.out hb)
          replace H_b := Lib.hid (row_below H_b.out hb)
          replace H_c := Lib.hid (row_below H_c.out hb)
          replace B := Lib.hid (below_only B.out hb)
          clear hb hsz
          obtain ⟨p_0, p_1, p_2, p_3, p_f0, p_f1, p_f2, p_f3⟩ := box4 H_p.out
          have z_p := lt_of_heap H_p.out
          go_wp2_with (first | (refine wpList_load_row rfl 42 (.tmp 15) rfl g_b rfl 42 (run14 f e ps mk n S ⟨cA, 0, kc⟩).arr (0, 0) _ H_b.out undRun rfl infoRun ?_))
          refine (fstepNo_any p gg ps pt pi ph _ _ (.inl HSm.out.2.2.2.2)).mono ?_
          rintro y x7 ⟨rfl, hb⟩
          clear p_0 p_1 p_2 p_3 p_f0 p_f1 p_f2 p_f3 z_p
          replace HR := Lib.hid (HR.out.below hb)
          replace HF := Lib.hid (HF.out.below hb)
          have hsz := (hb).size
          replace H_p := Lib.hid (row_below H_p.out hb)
          replace H_r := Lib.hid (row_below H_r.out hb)
          replace H_b := Lib.hid (row_below H_b.out hb)
          replace H_c := Lib.hid (row_below H_c.out hb)
          replace B := Lib.hid (below_only B.out hb)
          clear hb hsz
          go_upto_region 19 with (refine wpList_store_row rfl 42 (.tmp 19) (.tmp 112) rfl x7.heap.size ZRun rfl rfl 42 ZRun (row_new _ _ _) infoRun rfl (by kernel_rfl) ?_; (try simp only [Act.put]); (try simp only [List.setIfInBounds_toArray]); (try simp only [List.set_cons_succ]); (try simp only [List.set_cons_zero]))
          refine alloc_set' x7 _ _ _ ?_
          intro x8 hr hb
          clear hr
          replace HR := Lib.hid (HR.out.below hb)
          replace HF := Lib.hid (HF.out.below hb)
          have hsz := (hb).size
          replace H_p := Lib.hid (row_below H_p.out hb)
          replace H_r := Lib.hid (row_below H_r.out hb)
          replace H_b := Lib.hid (row_below H_b.out hb)
          replace H_c := Lib.hid (row_below H_c.out hb)
          replace B := Lib.hid (below_only B.out hb)
          clear hb hsz
          have HlS2 : Hid (((does14 f e mk n S).l.length : Int) = ps) := Lib.hid (by rw [does14_len]; exact HlS.out)
          have Hmv : Hid ((words14 mk n S ws).length = m) := Lib.hid (by rw [words14_len, Hmu.out])
          have Hz2 := Lib.hid (zero_does (f := f) (e := e) (mk := mk) (n := n) Hz0.out)
          obtain ⟨S2, HS2⟩ : ∃ x, Hid (does14 f e mk n S = x) := ⟨_, Lib.hid rfl⟩
          obtain ⟨ws2, Hws2⟩ : ∃ x, Hid (words14 mk n S ws = x) := ⟨_, Lib.hid rfl⟩
          rw [HS2.out] at HF HlS2 HR Hz2
          rw [Hws2.out] at HF Hmv HR
          clear HS2 Hws2 HSm HPc HPc1 Hdn Hz0 H_r H_b H_c
          try simp only [Act.put]
          go_cut [21] from 114 to 121 (fun vd wx => vd = .bool true ∧ Below x8.heap.size x8 wx)
          case first =>
            as_aux_lemma =>
              refine wp_region_held_drew (S := fun W' => W'.heap[X]? = some (.cells #[.int .i64 ps, .int .i64 pt, .int .i64 pi, .int .i64 ph, .slice none 0 0, .pointer (some ⟨dq, 0, none⟩), .pointer (some ⟨gp, 0, none⟩)] 80 (0, 0))) (by kernel_rfl) (show x8.drew.heap[X]? = _ from HR.out.box) ?_
              intro hS
              have hb0 : Below x8.heap.size x8 x8.drew := Below.drew (Below.refl _ _)
              generalize x8.drew = y0 at hS hb0 ⊢
              refine wpAnyH_take_at (i := 0) (v := ?v0x11) (some 114) rfl rfl (by kernel_rfl) (by kernel_rfl) (by kernel_rfl) (fun _ _ _ h => h) (Or.inl ⟨by kernel_rfl, ?h0x11⟩) (by assumption) ?r0x11
              case h0x11 => (intro w' hSw; have h6 : w'.cell? ⟨X, 6, none⟩ = some (.pointer (some ⟨gp, 0, none⟩)) := (by rw [row_cell hSw]; rfl); have hz := lt_of_heap hSw; (try dsimp only at hSw); go_simp; first | done | (with_reducible rfl))
              try simp only [Act.put]
              try simp only [List.setIfInBounds_toArray]
              try simp only [List.set_cons_succ]
              try simp only [List.set_cons_zero]
              refine wpAnyH_take_at (i := 2) (v := ?v2x12) (some 116) rfl rfl (by kernel_rfl) (by kernel_rfl) (by kernel_rfl) (fun _ _ _ h => h) (Or.inl ⟨by kernel_rfl, ?h2x12⟩) (by assumption) ?r2x12
              case h2x12 => (intro w' hSw; have h6 : w'.cell? ⟨X, 6, none⟩ = some (.pointer (some ⟨gp, 0, none⟩)) := (by rw [row_cell hSw]; rfl); have hz := lt_of_heap hSw; (try dsimp only at hSw); go_simp; first | done | (with_reducible rfl))
              try simp only [Act.put]
              try simp only [List.setIfInBounds_toArray]
              try simp only [List.set_cons_succ]
              try simp only [List.set_cons_zero]
              refine wpAnyH_take_at (i := 3) (v := ?v3x13) (some 117) rfl rfl (by kernel_rfl) (by kernel_rfl) (by kernel_rfl) (fun _ _ _ h => h) (Or.inl ⟨by kernel_rfl, ?h3x13⟩) (by assumption) ?r3x13
              case h3x13 => (intro w' hSw; have h6 : w'.cell? ⟨X, 6, none⟩ = some (.pointer (some ⟨gp, 0, none⟩)) := (by rw [row_cell hSw]; rfl); have hz := lt_of_heap hSw; (try dsimp only at hSw); go_simp; first | done | (with_reducible rfl))
              try simp only [Act.put]
              try simp only [List.setIfInBounds_toArray]
              try simp only [List.set_cons_succ]
              try simp only [List.set_cons_zero]
              refine wpAnyH_take_at (i := 4) (v := ?v4x14) (some 118) rfl rfl (by kernel_rfl) (by kernel_rfl) (by kernel_rfl) (fun _ _ _ h => h) (Or.inl ⟨by kernel_rfl, ?h4x14⟩) (by assumption) ?r4x14
              case h4x14 => (intro w' hSw; have h6 : w'.cell? ⟨X, 6, none⟩ = some (.pointer (some ⟨gp, 0, none⟩)) := (by rw [row_cell hSw]; rfl); have hz := lt_of_heap hSw; (try dsimp only at hSw); go_simp; first | done | (with_reducible rfl))
              try simp only [Act.put]
              try simp only [List.setIfInBounds_toArray]
              try simp only [List.set_cons_succ]
              try simp only [List.set_cons_zero]
              refine wpAnyH_take_at (i := 5) (v := ?v5x15) (some 119) rfl rfl (by kernel_rfl) (by kernel_rfl) (by kernel_rfl) (fun _ _ _ h => h) (Or.inl ⟨by kernel_rfl, ?h5x15⟩) (by assumption) ?r5x15
              case h5x15 => (intro w' hSw; have h6 : w'.cell? ⟨X, 6, none⟩ = some (.pointer (some ⟨gp, 0, none⟩)) := (by rw [row_cell hSw]; rfl); have hz := lt_of_heap hSw; (try dsimp only at hSw); go_simp; first | done | (with_reducible rfl))
              try simp only [Act.put]
              try simp only [List.setIfInBounds_toArray]
              try simp only [List.set_cons_succ]
              try simp only [List.set_cons_zero]
              refine wpAnyH_ready (rs := [1]) (by kernel_rfl) (by simp) ?_
              refine AllReadyH.cons rfl (fun K hK => ?_) AllReadyH.nil
              go_simp
              refine (free_any BB gg f e S2.F q2 _ (HF.out.below hb0).gr).mono ?_
              rintro e' yF ⟨v, rfl, A_f, c_f, rfl, -, hcs, -, hb⟩
              go_simp
              replace hb0 := below_only hb0 hb
              refine hK.out _ _ (row_below hS hb) (fun hS => ?_)
              clear hK K
              try simp only [Act.put]
              try simp only [List.setIfInBounds_toArray]
              try simp only [List.set_cons_succ]
              try simp only [List.set_cons_zero]
              refine wpAnyH_ready (rs := [6]) (by kernel_rfl) (by simp) ?_
              refine AllReadyH.cons rfl (fun K hK => ?_) AllReadyH.nil
              go_simp
              obtain ⟨bb, hrg, htw⟩ := HR.out.rg
              refine (extents_any BX gp gq f bb _ (hrg.below hb0) Hf8.out).mono ?_
              rintro e' yE ⟨v, rfl, A_e, c_e, rfl, -, hce, -, hb⟩
              rw [runs_all htw.f8 htw.len htw.can htw.cov] at hce ⊢
              go_simp
              replace hcs := Cells.below hcs hb
              replace hb0 := below_only hb0 hb
              refine hK.out _ _ (row_below hS hb) (fun hS => ?_)
              clear hK K
              try simp only [Act.put]
              try simp only [List.setIfInBounds_toArray]
              try simp only [List.set_cons_succ]
              try simp only [List.set_cons_zero]
              refine wpAnyH_ready (rs := [7]) (by kernel_rfl) (by simp) ?_
              refine AllReadyH.cons rfl (fun K hK => ?_) AllReadyH.nil
              go_simp
              have hFl := HF.out.gr.size
              refine (gsame_any A_f A_e c_f c_e S2.F S2.F _ (by omega) (by omega) hcs hce).mono ?_
              rintro e' yM ⟨rfl, hb⟩
              rw [decide_eq_true (rfl : S2.F = S2.F)]
              go_simp
              replace hb0 := below_only hb0 hb
              refine hK.out _ _ (row_below hS hb) (fun hS => ?_)
              clear hK K
              try simp only [Act.put]
              try simp only [List.setIfInBounds_toArray]
              try simp only [List.set_cons_succ]
              try simp only [List.set_cons_zero]
              refine wpAnyH_take_at (i := 8) (v := ?v8x16) (some 21) rfl rfl (by kernel_rfl) (by kernel_rfl) (by kernel_rfl) (fun _ _ _ h => h) (Or.inl ⟨by kernel_rfl, ?h8x16⟩) (by assumption) ?r8x16
              case h8x16 => (intro w' hSw; go_simp; first | done | (with_reducible rfl))
              try simp only [Act.put]
              try simp only [List.setIfInBounds_toArray]
              try simp only [List.set_cons_succ]
              try simp only [List.set_cons_zero]
              refine wpAnyH_done (by kernel_rfl) ?_ _
              go_wp2_with fail
              go_meet
              exact ⟨rfl, hb0⟩
          case rest =>
            obtain ⟨rfl, hb⟩ := hcut
            obtain ⟨x9, hwx⟩ : ∃ x, x = wc := ⟨_, rfl⟩
            subst hwx
            replace HR := Lib.hid (HR.out.below hb)
            replace HF := Lib.hid (HF.out.below hb)
            have hsz := (hb).size
            replace H_p := Lib.hid (row_below H_p.out hb)
            replace B := Lib.hid (below_only B.out hb)
            clear hb hsz
            go_wp2_with fail
            go_loopw [22] (fun t wz => ∃ j : Nat, (j : Int) ≤ ps ∧ t = .int .i64 j ∧ Below x9.heap.size x9 wz) (fun t _ => (ps - intOf t).toNat)
            case atStart => exact ⟨0, by have := HPl.out.s0; omega, rfl, Below.refl _ _⟩
            case round =>
              as_aux_lemma =>
                obtain ⟨j, hj, rfl, hbz⟩ := hrel
                have HBz := Lib.hid hbz
                have HF0 := Lib.hid (HF.out.below hbz)
                have HR0 := Lib.hid (HR.out.below hbz)
                have H_p0 := Lib.hid (row_below H_p.out hbz)
                obtain ⟨x0', x1', x2', x3', _⟩ := box4 H_p0.out
                have zp := lt_of_heap H_p0.out
                clear hbz
                by_cases hjm : (j : Int) < ps
                · skip --aux
                  as_aux_lemma =>
                    obtain ⟨⟨⟨c1, c2, c3, c4⟩, ⟨y1, y2⟩⟩, hx⟩ : ∃ x, S2.l[j]? = some x := ⟨_, List.getElem?_eq_getElem (by have := HlS2.out; omega)⟩
                    have Hr := Lib.hid (HF0.out.ok _ (List.mem_of_getElem? hx)).r
                    have Hw := Lib.hid (HF0.out.s.blk j _ hx).1
                    have Hj : Hid (0 ≤ (j : Int) ∧ (j : Int) ≤ ps - 1 ∧ (j : Int) ≤ 7) := Lib.hid (by have := HPl.out.s1; omega)
                    clear hx
                    go_wp2_with fail
                    refine (foundCtl_any p b ps pt pi ph ws2 (8 * j) j ⟨c1, c2, c3, c4⟩ _ HPl.out HF0.out.a Hr.out Hw.out (by omega) ⟨Hj.out.1, Hj.out.2.1⟩).mono ?_
                    rintro r v1' ⟨rfl, hb⟩
                    have HB1 := Lib.hid (below_only HBz.out hb)
                    clear hb x0' x1' x2' x3' zp
                    go_upto_region 26 with fail
                    refine one_row v1' _ _ ?_
                    intro v2' hC hb
                    obtain ⟨gv, hgv⟩ : ∃ x, x = v1'.heap.size := ⟨_, rfl⟩
                    rw [← hgv] at hC ⊢
                    have HB2 := Lib.hid (below_only HB1.out hb)
                    obtain ⟨d0, d1, d2, d3, _⟩ := box4 hC
                    have zc := lt_of_heap hC
                    clear hb hgv hC
                    try simp only [Act.put]
                    go_cut [139, 157] from 149 to 157 (fun v0 vd wx => vd = .bool false ∧ Below v2'.heap.size v2' wx)
                    case first =>
                      as_aux_lemma =>
                        refine wp_region_held_drew (S := fun W' => W'.cell? ⟨gv, 0, none⟩ = some (.int .i64 c1) ∧ W'.cell? ⟨gv, 1, none⟩ = some (.int .i64 c2) ∧ W'.cell? ⟨gv, 2, none⟩ = some (.int .i64 c3) ∧ W'.cell? ⟨gv, 3, none⟩ = some (.int .i64 c4)) (by kernel_rfl) (by first | exact ⟨d0, d1, d2, d3⟩ | (dsimp only; exact ⟨d0, d1, d2, d3⟩)) ?_
                        intro hS
                        have hb0 : Below v2'.heap.size v2' v2'.drew := Below.drew (Below.refl _ _)
                        clear d0 d1 d2 d3
                        generalize v2'.drew = v0 at hS hb0 ⊢
                        refine wpAnyH_take_at (i := 0) (v := ?v0x17) (some 149) rfl rfl (by kernel_rfl) (by kernel_rfl) (by kernel_rfl) (fun _ _ _ h => h) (Or.inl ⟨by kernel_rfl, ?h0x17⟩) (by assumption) ?r0x17
                        case h0x17 => (intro w hSw; obtain ⟨s0, s1, s14, s15⟩ := hSw; go_simp; first | done | (with_reducible rfl))
                        try simp only [Act.put]
                        try simp only [List.setIfInBounds_toArray]
                        try simp only [List.set_cons_succ]
                        try simp only [List.set_cons_zero]
                        refine wpAnyH_take_at (i := 1) (v := ?v1x18) (some 150) rfl rfl (by kernel_rfl) (by kernel_rfl) (by kernel_rfl) (fun _ _ _ h => h) (Or.inl ⟨by kernel_rfl, ?h1x18⟩) (by assumption) ?r1x18
                        case h1x18 => (intro w hSw; obtain ⟨s0, s1, s14, s15⟩ := hSw; go_simp; first | done | (with_reducible rfl))
                        try simp only [Act.put]
                        try simp only [List.setIfInBounds_toArray]
                        try simp only [List.set_cons_succ]
                        try simp only [List.set_cons_zero]
                        refine wpAnyH_take_at (i := 2) (v := ?v2x19) (some 151) rfl rfl (by kernel_rfl) (by kernel_rfl) (by kernel_rfl) (fun _ _ _ h => h) (Or.inl ⟨by kernel_rfl, ?h2x19⟩) (by assumption) ?r2x19
                        case h2x19 => (intro w hSw; obtain ⟨s0, s1, s14, s15⟩ := hSw; go_simp; first | done | (with_reducible rfl))
                        try simp only [Act.put]
                        try simp only [List.setIfInBounds_toArray]
                        try simp only [List.set_cons_succ]
                        try simp only [List.set_cons_zero]
                        refine wpAnyH_ready (rs := [3]) (by kernel_rfl) (by simp) ?_
                        refine AllReadyH.cons rfl (fun K hK => ?_) AllReadyH.nil
                        go_simp
                        refine (rallCtl_any X dq db ps pt pi ph ws2 (8 * j) j ⟨c1, c2, c3, c4⟩ _ (HR.out.all.below (below_only HB2.out hb0)) Hr.out Hw.out (by omega) ⟨Hj.out.1, Hj.out.2.2⟩).mono ?_
                        rintro e' v4 ⟨rfl, hb⟩
                        go_simp
                        obtain ⟨a0, a1, a2, a3⟩ := hS
                        replace a0 := (hb.cell (p := ⟨gv, 0, none⟩) (lt_of_cell a0)).trans a0
                        replace a1 := (hb.cell (p := ⟨gv, 1, none⟩) (lt_of_cell a1)).trans a1
                        replace a2 := (hb.cell (p := ⟨gv, 2, none⟩) (lt_of_cell a2)).trans a2
                        replace a3 := (hb.cell (p := ⟨gv, 3, none⟩) (lt_of_cell a3)).trans a3
                        replace hb0 := below_only hb0 hb
                        refine hK.out _ _ (⟨a0, a1, a2, a3⟩) (fun hS => ?_)
                        clear hK K
                        try simp only [Act.put]
                        try simp only [List.setIfInBounds_toArray]
                        try simp only [List.set_cons_succ]
                        try simp only [List.set_cons_zero]
                        refine wpAnyH_take_at (i := 4) (v := ?v4x20) (some 153) rfl rfl (by kernel_rfl) (by kernel_rfl) (by kernel_rfl) (fun _ _ _ h => h) (Or.inl ⟨by kernel_rfl, ?h4x20⟩) (by assumption) ?r4x20
                        case h4x20 => (intro w hSw; go_simp; first | done | (with_reducible rfl))
                        try simp only [Act.put]
                        try simp only [List.setIfInBounds_toArray]
                        try simp only [List.set_cons_succ]
                        try simp only [List.set_cons_zero]
                        refine wpAnyH_take_at (i := 5) (v := ?v5x21) (some 154) rfl rfl (by kernel_rfl) (by kernel_rfl) (by kernel_rfl) (fun _ _ _ h => h) (Or.inl ⟨by kernel_rfl, ?h5x21⟩) (by assumption) ?r5x21
                        case h5x21 => (intro w hSw; go_simp; first | done | (with_reducible rfl))
                        try simp only [Act.put]
                        try simp only [List.setIfInBounds_toArray]
                        try simp only [List.set_cons_succ]
                        try simp only [List.set_cons_zero]
                        refine wpAnyH_take_at (i := 6) (v := ?v6x22) (some 155) rfl rfl (by kernel_rfl) (by kernel_rfl) (by kernel_rfl) (fun _ _ _ h => h) (Or.inl ⟨by kernel_rfl, ?h6x22⟩) (by assumption) ?r6x22
                        case h6x22 => (intro w hSw; go_simp; first | done | (with_reducible rfl))
                        try simp only [Act.put]
                        try simp only [List.setIfInBounds_toArray]
                        try simp only [List.set_cons_succ]
                        try simp only [List.set_cons_zero]
                        refine wpAnyH_take_at (i := 7) (v := ?v7x23) (some 156) rfl rfl (by kernel_rfl) (by kernel_rfl) (by kernel_rfl) (fun _ _ _ h => h) (Or.inl ⟨by kernel_rfl, ?h7x23⟩) (by assumption) ?r7x23
                        case h7x23 => (intro w hSw; go_simp; first | done | (with_reducible rfl))
                        try simp only [Act.put]
                        try simp only [List.setIfInBounds_toArray]
                        try simp only [List.set_cons_succ]
                        try simp only [List.set_cons_zero]
                        refine wpAnyH_take_at (i := 8) (v := ?v8x24) (some 157) rfl rfl (by kernel_rfl) (by kernel_rfl) (by kernel_rfl) (fun _ _ _ h => h) (Or.inl ⟨by kernel_rfl, ?h8x24⟩) (by assumption) ?r8x24
                        case h8x24 => (intro w hSw; go_simp; first | done | (with_reducible rfl))
                        try simp only [Act.put]
                        try simp only [List.setIfInBounds_toArray]
                        try simp only [List.set_cons_succ]
                        try simp only [List.set_cons_zero]
                        refine wpAnyH_done (by kernel_rfl) ?_ _
                        go_wp2_with fail
                        go_meet
                        exact ⟨by first | rfl | simp, hb0⟩
                    case rest =>
                      as_aux_lemma =>
                        obtain ⟨rfl, hb⟩ := hcut
                        obtain ⟨v3', hwx⟩ : ∃ x, x = wc := ⟨_, rfl⟩
                        subst hwx
                        have HB4 := Lib.hid (below_only HB2.out hb)
                        clear hb d0 d1 d2 d3 zc
                        go_wp2_with fail
                        go_roundw
                        case rel =>
                          have hps8 : ps ≤ 8 := HPl.out.s1
                          have hw1 : IntKind.i64.wrap ((j : Int) + 1) = ((j + 1 : Nat) : Int) := by rw [IntWalk.i64_in _ (by omega)]; rfl
                          have hw2 : wrap64 ((j : Int) + 1) = ((j + 1 : Nat) : Int) := by unfold wrap64; omega
                          exact ⟨j + 1, by omega, by go_num, HB4.out⟩
                        case measure => exact meas_lt ps j hjm HPl.out.s1
                · skip --aux
                  as_aux_lemma =>
                    replace B := Lib.hid (below_only B.out HBz.out)
                    go_wp2_with fail
                    go_roundw
                    case rel => exact ⟨k + 1, S2, ws2, q2, by omega, by omega, by go_num, HlS2.out, Hmv.out, HF0.out, H_p0.out, B.out, HR0.out, HAp.out, Hz2.out⟩
                    case measure => simp [intOf]; omega
    · have hex : ¬ k < L.length ∨ (k < L.length ∧ ¬ k < 40) := by omega
      rcases hex with hex | ⟨hex1, hex2⟩
      · skip --aux
        as_aux_lemma =>
          clear hlt
          have HFw : Hid (∀ j x, ws[j]? = some x → Calls Try.prog 22 #[.pointer (some ⟨p, 0, none⟩), .int .i64 ((j * 8 : Nat) : Int)] wr fun r w' => r = .returned (.tuple #[.int .u64 x, .int .i64 0]) ∧ w' = wr) := Lib.hid fun j x hx => arnWord_any p b ws j x wr HF.out.a hx
          have cX5 : wr.cell? ⟨X, 5, none⟩ = some (.pointer (some ⟨dq, 0, none⟩)) := HR.out.all.cell
          have zX := lt_of_heap HR.out.box
          have cQ : wr.cell? ⟨dq, 0, none⟩ = some (.slice (some ⟨db, 0, none⟩) m m) := by have h9 := (box1 HR.out.all.arn.box).1; rw [Hmu.out] at h9; exact h9
          have zQ := lt_of_heap HR.out.all.arn.box
          have zD := lt_of_heap HR.out.all.arn.row
          go_wp2_with fail
          go_loopw [25] (fun t wz => ∃ j : Nat, j ≤ m ∧ t = .int .i64 j ∧ wr = wz) (fun t _ => (m - intOf t).toNat)
          case atStart => exact ⟨0, Nat.zero_le _, rfl, by first | rfl | trivial⟩
          case round =>
            as_aux_lemma =>
              obtain ⟨j, hj, rfl, hwz⟩ := hrel
              subst hwz
              by_cases hjm : j < m
              · obtain ⟨u, hu⟩ : ∃ x, ws[j]? = some x := ⟨_, List.getElem?_eq_getElem (by rw [Hmu.out]; exact hjm)⟩
                have Hu := Lib.hid hu
                have cu : wr.cell? ⟨db, j, none⟩ = some (.int .u64 u) := HR.out.all.arn.cell j u hu
                have hj8 : IntKind.i64.wrap (8 * (j : Int)) = 8 * (j : Int) := IntWalk.i64_in _ (by omega)
                have HW8 : Hid (Calls Try.prog 22 #[.pointer (some ⟨p, 0, none⟩), .int .i64 (8 * (j : Int))] wr fun r w' => r = .returned (.tuple #[.int .u64 u, .int .i64 0]) ∧ w' = wr) := Lib.hid (by rw [show 8 * (j : Int) = ((j * 8 : Nat) : Int) by omega]; exact HFw.out j u Hu.out)
                clear hu
                go_wp2_with fail
                refine HW8.out.mono ?_
                rintro r w' ⟨rfl, e9⟩
                rw [e9]
                clear e9 w'
                go_wp2_with fail
                go_roundw
                case rel => exact ⟨j + 1, by omega, by go_num, by first | rfl | trivial⟩
                case measure => simp [intOf]; omega
              · obtain rfl : j = m := by omega
                obtain ⟨x0', x1', x2', x3', _⟩ := box4 H_p.out
                have zp := lt_of_heap H_p.out
                go_wp2_with fail
                refine (foundCtl_no p ps pt pi ph ps _ HPl.out (by omega)).mono ?_
                rintro r v1 ⟨rfl, hb⟩
                have HB1 := Lib.hid hb
                clear hb x0' x1' x2' x3' zp cX5 zX cQ zQ zD
                go_upto_region 35 with fail
                refine one_row v1 _ _ ?_
                intro v2 hC hb
                have HB2 := Lib.hid (below_only HB1.out hb)
                clear hC hb
                obtain ⟨x0', x1', x2', x3', _⟩ := box4 (row_below H_p.out HB2.out)
                have zp := lt_of_heap (row_below H_p.out HB2.out)
                go_wp2_with fail
                refine (foundCtl_no p ps pt pi ph (-1) _ HPl.out (by omega)).mono ?_
                rintro r v3 ⟨rfl, hb⟩
                have HB3 := Lib.hid (below_only HB2.out hb)
                clear hb x0' x1' x2' x3' zp
                go_upto_region 36 with fail
                refine one_row v3 _ _ ?_
                intro v4 hC hb
                have HB4 := Lib.hid (below_only HB3.out hb)
                clear hC hb
                have HLn : Hid (∀ w0, Arn w0 p b ws → Calls Try.prog 20 #[.pointer (some ⟨p, 0, none⟩)] w0 fun r w' => r = .returned (.int .i64 (8 * (j : Int))) ∧ w' = w0) := Lib.hid fun w0 hA => by
                  have h9 := arnLen_any p b ws w0 hA
                  rw [Hmu.out] at h9
                  rw [show 8 * (j : Int) = ((j * 8 : Nat) : Int) by omega]
                  exact h9
                have hj8 : IntKind.i64.wrap (8 * (j : Int)) = 8 * (j : Int) := IntWalk.i64_in _ (by omega)
                refine wp_region_held_drew (S := fun W' => W'.heap[X]? = some (.cells #[.int .i64 ps, .int .i64 pt, .int .i64 pi, .int .i64 ph, .slice none 0 0, .pointer (some ⟨dq, 0, none⟩), .pointer (some ⟨gp, 0, none⟩)] 80 (0, 0)) ∧ W'.cell? ⟨dq, 0, none⟩ = some (.slice (some ⟨db, 0, none⟩) j j) ∧ dq < W'.heap.size) (by kernel_rfl) (show v4.drew.heap[X]? = _ ∧ v4.drew.cell? _ = _ ∧ _ from ⟨row_below HR.out.box (Below.drew HB4.out), by have h9 := (box1 (RArn.below HR.out.all.arn (Below.drew HB4.out)).box).1; rw [Hmu.out] at h9; exact h9, lt_of_heap (RArn.below HR.out.all.arn (Below.drew HB4.out)).box⟩) ?_
                intro hS
                have hb0 : Below v4.heap.size v4 v4.drew := Below.drew (Below.refl _ _)
                have hA0 : Arn v4.drew p b ws := (HF.out.a.below HB4.out).below hb0
                generalize v4.drew = y0 at hS hb0 hA0 ⊢
                refine wpAnyH_take_at (i := 0) (v := ?v0x25) (some 203) rfl rfl (by kernel_rfl) (by kernel_rfl) (by kernel_rfl) (fun _ _ _ h => h) (Or.inl ⟨by kernel_rfl, ?h0x25⟩) (by assumption) ?r0x25
                case h0x25 => (intro w' hSw; obtain ⟨s1, s2, s3⟩ := hSw; have h6 : w'.cell? ⟨X, 5, none⟩ = some (.pointer (some ⟨dq, 0, none⟩)) := (by rw [row_cell s1]; rfl); have hz := lt_of_heap s1; go_simp; first | done | (with_reducible rfl))
                try simp only [Act.put]
                try simp only [List.setIfInBounds_toArray]
                try simp only [List.set_cons_succ]
                try simp only [List.set_cons_zero]
                refine wpAnyH_take_at (i := 2) (v := ?v2x26) (some 205) rfl rfl (by kernel_rfl) (by kernel_rfl) (by kernel_rfl) (fun _ _ _ h => h) (Or.inl ⟨by kernel_rfl, ?h2x26⟩) (by assumption) ?r2x26
                case h2x26 => (intro w' hSw; obtain ⟨s1, s2, s3⟩ := hSw; have h6 : w'.cell? ⟨X, 5, none⟩ = some (.pointer (some ⟨dq, 0, none⟩)) := (by rw [row_cell s1]; rfl); have hz := lt_of_heap s1; go_simp; first | done | (with_reducible rfl))
                try simp only [Act.put]
                try simp only [List.setIfInBounds_toArray]
                try simp only [List.set_cons_succ]
                try simp only [List.set_cons_zero]
                refine wpAnyH_take_at (i := 3) (v := ?v3x27) (some 206) rfl rfl (by kernel_rfl) (by kernel_rfl) (by kernel_rfl) (fun _ _ _ h => h) (Or.inl ⟨by kernel_rfl, ?h3x27⟩) (by assumption) ?r3x27
                case h3x27 => (intro w' hSw; obtain ⟨s1, s2, s3⟩ := hSw; have h6 : w'.cell? ⟨X, 5, none⟩ = some (.pointer (some ⟨dq, 0, none⟩)) := (by rw [row_cell s1]; rfl); have hz := lt_of_heap s1; go_simp; first | done | (with_reducible rfl))
                try simp only [Act.put]
                try simp only [List.setIfInBounds_toArray]
                try simp only [List.set_cons_succ]
                try simp only [List.set_cons_zero]
                refine wpAnyH_take_at (i := 4) (v := ?v4x28) (some 207) rfl rfl (by kernel_rfl) (by kernel_rfl) (by kernel_rfl) (fun _ _ _ h => h) (Or.inl ⟨by kernel_rfl, ?h4x28⟩) (by assumption) ?r4x28
                case h4x28 => (intro w' hSw; obtain ⟨s1, s2, s3⟩ := hSw; have h6 : w'.cell? ⟨X, 5, none⟩ = some (.pointer (some ⟨dq, 0, none⟩)) := (by rw [row_cell s1]; rfl); have hz := lt_of_heap s1; go_simp; first | done | (with_reducible rfl))
                try simp only [Act.put]
                try simp only [List.setIfInBounds_toArray]
                try simp only [List.set_cons_succ]
                try simp only [List.set_cons_zero]
                refine wpAnyH_take_at (i := 5) (v := ?v5x29) (some 208) rfl rfl (by kernel_rfl) (by kernel_rfl) (by kernel_rfl) (fun _ _ _ h => h) (Or.inl ⟨by kernel_rfl, ?h5x29⟩) (by assumption) ?r5x29
                case h5x29 => (intro w' hSw; obtain ⟨s1, s2, s3⟩ := hSw; have h6 : w'.cell? ⟨X, 5, none⟩ = some (.pointer (some ⟨dq, 0, none⟩)) := (by rw [row_cell s1]; rfl); have hz := lt_of_heap s1; go_simp; first | done | (with_reducible rfl))
                try simp only [Act.put]
                try simp only [List.setIfInBounds_toArray]
                try simp only [List.set_cons_succ]
                try simp only [List.set_cons_zero]
                refine wpAnyH_take_at (i := 6) (v := ?v6x30) (some 209) rfl rfl (by kernel_rfl) (by kernel_rfl) (by kernel_rfl) (fun _ _ _ h => h) (Or.inl ⟨by kernel_rfl, ?h6x30⟩) (by assumption) ?r6x30
                case h6x30 => (intro w' hSw; obtain ⟨s1, s2, s3⟩ := hSw; have h6 : w'.cell? ⟨X, 5, none⟩ = some (.pointer (some ⟨dq, 0, none⟩)) := (by rw [row_cell s1]; rfl); have hz := lt_of_heap s1; go_simp; first | done | (with_reducible rfl))
                try simp only [Act.put]
                try simp only [List.setIfInBounds_toArray]
                try simp only [List.set_cons_succ]
                try simp only [List.set_cons_zero]
                refine wpAnyH_take_at (i := 7) (v := ?v7x31) (some 210) rfl rfl (by kernel_rfl) (by kernel_rfl) (by kernel_rfl) (fun _ _ _ h => h) (Or.inl ⟨by kernel_rfl, ?h7x31⟩) (by assumption) ?r7x31
                case h7x31 => (intro w' hSw; obtain ⟨s1, s2, s3⟩ := hSw; have h6 : w'.cell? ⟨X, 5, none⟩ = some (.pointer (some ⟨dq, 0, none⟩)) := (by rw [row_cell s1]; rfl); have hz := lt_of_heap s1; go_simp; first | done | (with_reducible rfl))
                try simp only [Act.put]
                try simp only [List.setIfInBounds_toArray]
                try simp only [List.set_cons_succ]
                try simp only [List.set_cons_zero]
                refine wpAnyH_take_at (i := 8) (v := ?v8x32) (some 211) rfl rfl (by kernel_rfl) (by kernel_rfl) (by kernel_rfl) (fun _ _ _ h => h) (Or.inl ⟨by kernel_rfl, ?h8x32⟩) (by assumption) ?r8x32
                case h8x32 => (intro w' hSw; obtain ⟨s1, s2, s3⟩ := hSw; have h6 : w'.cell? ⟨X, 5, none⟩ = some (.pointer (some ⟨dq, 0, none⟩)) := (by rw [row_cell s1]; rfl); have hz := lt_of_heap s1; go_simp; first | done | (with_reducible rfl))
                try simp only [Act.put]
                try simp only [List.setIfInBounds_toArray]
                try simp only [List.set_cons_succ]
                try simp only [List.set_cons_zero]
                refine wpAnyH_take_at (i := 9) (v := ?v9x33) (some 212) rfl rfl (by kernel_rfl) (by kernel_rfl) (by kernel_rfl) (fun _ _ _ h => h) (Or.inl ⟨by kernel_rfl, ?h9x33⟩) (by assumption) ?r9x33
                case h9x33 => (intro w' hSw; obtain ⟨s1, s2, s3⟩ := hSw; have h6 : w'.cell? ⟨X, 5, none⟩ = some (.pointer (some ⟨dq, 0, none⟩)) := (by rw [row_cell s1]; rfl); have hz := lt_of_heap s1; go_simp; first | done | (with_reducible rfl))
                try simp only [Act.put]
                try simp only [List.setIfInBounds_toArray]
                try simp only [List.set_cons_succ]
                try simp only [List.set_cons_zero]
                refine wpAnyH_take_at (i := 10) (v := ?v10x34) (some 213) rfl rfl (by kernel_rfl) (by kernel_rfl) (by kernel_rfl) (fun _ _ _ h => h) (Or.inl ⟨by kernel_rfl, ?h10x34⟩) (by assumption) ?r10x34
                case h10x34 => (intro w' hSw; obtain ⟨s1, s2, s3⟩ := hSw; have h6 : w'.cell? ⟨X, 5, none⟩ = some (.pointer (some ⟨dq, 0, none⟩)) := (by rw [row_cell s1]; rfl); have hz := lt_of_heap s1; go_simp; first | done | (with_reducible rfl))
                try simp only [Act.put]
                try simp only [List.setIfInBounds_toArray]
                try simp only [List.set_cons_succ]
                try simp only [List.set_cons_zero]
                refine wpAnyH_ready (rs := [1]) (by kernel_rfl) (by simp) ?_
                refine AllReadyH.cons rfl (fun K hK => ?_) AllReadyH.nil
                go_simp
                refine (HLn.out _ hA0).mono ?_
                rintro e' v9 ⟨rfl, hv9⟩
                subst hv9
                go_simp
                refine hK.out _ _ (hS) (fun hS => ?_)
                clear hK K
                try simp only [Act.put]
                try simp only [List.setIfInBounds_toArray]
                try simp only [List.set_cons_succ]
                try simp only [List.set_cons_zero]
                refine wpAnyH_take_at (i := 11) (v := ?v11x35) (some 214) rfl rfl (by kernel_rfl) (by kernel_rfl) (by kernel_rfl) (fun _ _ _ h => h) (Or.inl ⟨by kernel_rfl, ?h11x35⟩) (by assumption) ?r11x35
                case h11x35 => (intro w' hSw; obtain ⟨s1, s2, s3⟩ := hSw; have h6 : w'.cell? ⟨X, 5, none⟩ = some (.pointer (some ⟨dq, 0, none⟩)) := (by rw [row_cell s1]; rfl); have hz := lt_of_heap s1; go_simp; first | done | (with_reducible rfl))
                try simp only [Act.put]
                try simp only [List.setIfInBounds_toArray]
                try simp only [List.set_cons_succ]
                try simp only [List.set_cons_zero]
                refine wpAnyH_take_at (i := 12) (v := ?v12x36) (some 215) rfl rfl (by kernel_rfl) (by kernel_rfl) (by kernel_rfl) (fun _ _ _ h => h) (Or.inl ⟨by kernel_rfl, ?h12x36⟩) (by assumption) ?r12x36
                case h12x36 => (intro w' hSw; obtain ⟨s1, s2, s3⟩ := hSw; have h6 : w'.cell? ⟨X, 5, none⟩ = some (.pointer (some ⟨dq, 0, none⟩)) := (by rw [row_cell s1]; rfl); have hz := lt_of_heap s1; go_simp; first | done | (with_reducible rfl))
                try simp only [Act.put]
                try simp only [List.setIfInBounds_toArray]
                try simp only [List.set_cons_succ]
                try simp only [List.set_cons_zero]
                refine wpAnyH_take_at (i := 13) (v := ?v13x37) (some 216) rfl rfl (by kernel_rfl) (by kernel_rfl) (by kernel_rfl) (fun _ _ _ h => h) (Or.inl ⟨by kernel_rfl, ?h13x37⟩) (by assumption) ?r13x37
                case h13x37 => (intro w' hSw; obtain ⟨s1, s2, s3⟩ := hSw; have h6 : w'.cell? ⟨X, 5, none⟩ = some (.pointer (some ⟨dq, 0, none⟩)) := (by rw [row_cell s1]; rfl); have hz := lt_of_heap s1; go_simp; first | done | (with_reducible rfl))
                try simp only [Act.put]
                try simp only [List.setIfInBounds_toArray]
                try simp only [List.set_cons_succ]
                try simp only [List.set_cons_zero]
                refine wpAnyH_take_at (i := 14) (v := ?v14x38) (some 217) rfl rfl (by kernel_rfl) (by kernel_rfl) (by kernel_rfl) (fun _ _ _ h => h) (Or.inl ⟨by kernel_rfl, ?h14x38⟩) (by assumption) ?r14x38
                case h14x38 => (intro w' hSw; obtain ⟨s1, s2, s3⟩ := hSw; have h6 : w'.cell? ⟨X, 5, none⟩ = some (.pointer (some ⟨dq, 0, none⟩)) := (by rw [row_cell s1]; rfl); have hz := lt_of_heap s1; go_simp; first | done | (with_reducible rfl))
                try simp only [Act.put]
                try simp only [List.setIfInBounds_toArray]
                try simp only [List.set_cons_succ]
                try simp only [List.set_cons_zero]
                refine wpAnyH_take_at (i := 15) (v := ?v15x39) (some 218) rfl rfl (by kernel_rfl) (by kernel_rfl) (by kernel_rfl) (fun _ _ _ h => h) (Or.inl ⟨by kernel_rfl, ?h15x39⟩) (by assumption) ?r15x39
                case h15x39 => (intro w' hSw; obtain ⟨s1, s2, s3⟩ := hSw; have h6 : w'.cell? ⟨X, 5, none⟩ = some (.pointer (some ⟨dq, 0, none⟩)) := (by rw [row_cell s1]; rfl); have hz := lt_of_heap s1; go_simp; first | done | (with_reducible rfl))
                try simp only [Act.put]
                try simp only [List.setIfInBounds_toArray]
                try simp only [List.set_cons_succ]
                try simp only [List.set_cons_zero]
                refine wpAnyH_take_at (i := 16) (v := ?v16x40) (some 219) rfl rfl (by kernel_rfl) (by kernel_rfl) (by kernel_rfl) (fun _ _ _ h => h) (Or.inl ⟨by kernel_rfl, ?h16x40⟩) (by assumption) ?r16x40
                case h16x40 => (intro w' hSw; obtain ⟨s1, s2, s3⟩ := hSw; have h6 : w'.cell? ⟨X, 5, none⟩ = some (.pointer (some ⟨dq, 0, none⟩)) := (by rw [row_cell s1]; rfl); have hz := lt_of_heap s1; go_simp; first | done | (with_reducible rfl))
                try simp only [Act.put]
                try simp only [List.setIfInBounds_toArray]
                try simp only [List.set_cons_succ]
                try simp only [List.set_cons_zero]
                refine wpAnyH_take_at (i := 17) (v := ?v17x41) (some 220) rfl rfl (by kernel_rfl) (by kernel_rfl) (by kernel_rfl) (fun _ _ _ h => h) (Or.inl ⟨by kernel_rfl, ?h17x41⟩) (by assumption) ?r17x41
                case h17x41 => (intro w' hSw; obtain ⟨s1, s2, s3⟩ := hSw; have h6 : w'.cell? ⟨X, 5, none⟩ = some (.pointer (some ⟨dq, 0, none⟩)) := (by rw [row_cell s1]; rfl); have hz := lt_of_heap s1; go_simp; first | done | (with_reducible rfl))
                try simp only [Act.put]
                try simp only [List.setIfInBounds_toArray]
                try simp only [List.set_cons_succ]
                try simp only [List.set_cons_zero]
                refine wpAnyH_take_at (i := 18) (v := ?v18x42) (some 221) rfl rfl (by kernel_rfl) (by kernel_rfl) (by kernel_rfl) (fun _ _ _ h => h) (Or.inl ⟨by kernel_rfl, ?h18x42⟩) (by assumption) ?r18x42
                case h18x42 => (intro w' hSw; obtain ⟨s1, s2, s3⟩ := hSw; have h6 : w'.cell? ⟨X, 5, none⟩ = some (.pointer (some ⟨dq, 0, none⟩)) := (by rw [row_cell s1]; rfl); have hz := lt_of_heap s1; go_simp; first | done | (with_reducible rfl))
                try simp only [Act.put]
                try simp only [List.setIfInBounds_toArray]
                try simp only [List.set_cons_succ]
                try simp only [List.set_cons_zero]
                refine wpAnyH_take_at (i := 19) (v := ?v19x43) (some 222) rfl rfl (by kernel_rfl) (by kernel_rfl) (by kernel_rfl) (fun _ _ _ h => h) (Or.inl ⟨by kernel_rfl, ?h19x43⟩) (by assumption) ?r19x43
                case h19x43 => (intro w' hSw; obtain ⟨s1, s2, s3⟩ := hSw; have h6 : w'.cell? ⟨X, 5, none⟩ = some (.pointer (some ⟨dq, 0, none⟩)) := (by rw [row_cell s1]; rfl); have hz := lt_of_heap s1; go_simp; first | done | (with_reducible rfl))
                try simp only [Act.put]
                try simp only [List.setIfInBounds_toArray]
                try simp only [List.set_cons_succ]
                try simp only [List.set_cons_zero]
                refine wpAnyH_take_at (i := 20) (v := ?v20x44) (some 4) rfl rfl (by kernel_rfl) (by kernel_rfl) (by kernel_rfl) (fun _ _ _ h => h) (Or.inl ⟨by kernel_rfl, ?h20x44⟩) (by assumption) ?r20x44
                case h20x44 => (intro w' hSw; obtain ⟨s1, s2, s3⟩ := hSw; have h6 : w'.cell? ⟨X, 5, none⟩ = some (.pointer (some ⟨dq, 0, none⟩)) := (by rw [row_cell s1]; rfl); have hz := lt_of_heap s1; go_simp; first | done | (with_reducible rfl))
                try simp only [Act.put]
                try simp only [List.setIfInBounds_toArray]
                try simp only [List.set_cons_succ]
                try simp only [List.set_cons_zero]
                refine wpAnyH_done (by kernel_rfl) ?_ _
                go_wp2_with fail
                go_ret
                refine ⟨by first | rfl | simp, below_only B.out (below_only HB4.out hb0)⟩
      · skip --aux
        as_aux_lemma =>
          clear hlt
          have HFw : Hid (∀ j x, ws[j]? = some x → Calls Try.prog 22 #[.pointer (some ⟨p, 0, none⟩), .int .i64 ((j * 8 : Nat) : Int)] wr fun r w' => r = .returned (.tuple #[.int .u64 x, .int .i64 0]) ∧ w' = wr) := Lib.hid fun j x hx => arnWord_any p b ws j x wr HF.out.a hx
          have cX5 : wr.cell? ⟨X, 5, none⟩ = some (.pointer (some ⟨dq, 0, none⟩)) := HR.out.all.cell
          have zX := lt_of_heap HR.out.box
          have cQ : wr.cell? ⟨dq, 0, none⟩ = some (.slice (some ⟨db, 0, none⟩) m m) := by have h9 := (box1 HR.out.all.arn.box).1; rw [Hmu.out] at h9; exact h9
          have zQ := lt_of_heap HR.out.all.arn.box
          have zD := lt_of_heap HR.out.all.arn.row
          go_wp2_with fail
          go_loopw [25] (fun t wz => ∃ j : Nat, j ≤ m ∧ t = .int .i64 j ∧ wr = wz) (fun t _ => (m - intOf t).toNat)
          case atStart => exact ⟨0, Nat.zero_le _, rfl, by first | rfl | trivial⟩
          case round =>
            as_aux_lemma =>
              obtain ⟨j, hj, rfl, hwz⟩ := hrel
              subst hwz
              by_cases hjm : j < m
              · obtain ⟨u, hu⟩ : ∃ x, ws[j]? = some x := ⟨_, List.getElem?_eq_getElem (by rw [Hmu.out]; exact hjm)⟩
                have Hu := Lib.hid hu
                have cu : wr.cell? ⟨db, j, none⟩ = some (.int .u64 u) := HR.out.all.arn.cell j u hu
                have hj8 : IntKind.i64.wrap (8 * (j : Int)) = 8 * (j : Int) := IntWalk.i64_in _ (by omega)
                have HW8 : Hid (Calls Try.prog 22 #[.pointer (some ⟨p, 0, none⟩), .int .i64 (8 * (j : Int))] wr fun r w' => r = .returned (.tuple #[.int .u64 u, .int .i64 0]) ∧ w' = wr) := Lib.hid (by rw [show 8 * (j : Int) = ((j * 8 : Nat) : Int) by omega]; exact HFw.out j u Hu.out)
                clear hu
                go_wp2_with fail
                refine HW8.out.mono ?_
                rintro r w' ⟨rfl, e9⟩
                rw [e9]
                clear e9 w'
                go_wp2_with fail
                go_roundw
                case rel => exact ⟨j + 1, by omega, by go_num, by first | rfl | trivial⟩
                case measure => simp [intOf]; omega
              · obtain rfl : j = m := by omega
                obtain ⟨x0', x1', x2', x3', _⟩ := box4 H_p.out
                have zp := lt_of_heap H_p.out
                go_wp2_with fail
                refine (foundCtl_no p ps pt pi ph ps _ HPl.out (by omega)).mono ?_
                rintro r v1 ⟨rfl, hb⟩
                have HB1 := Lib.hid hb
                clear hb x0' x1' x2' x3' zp cX5 zX cQ zQ zD
                go_upto_region 35 with fail
                refine one_row v1 _ _ ?_
                intro v2 hC hb
                have HB2 := Lib.hid (below_only HB1.out hb)
                clear hC hb
                obtain ⟨x0', x1', x2', x3', _⟩ := box4 (row_below H_p.out HB2.out)
                have zp := lt_of_heap (row_below H_p.out HB2.out)
                go_wp2_with fail
                refine (foundCtl_no p ps pt pi ph (-1) _ HPl.out (by omega)).mono ?_
                rintro r v3 ⟨rfl, hb⟩
                have HB3 := Lib.hid (below_only HB2.out hb)
                clear hb x0' x1' x2' x3' zp
                go_upto_region 36 with fail
                refine one_row v3 _ _ ?_
                intro v4 hC hb
                have HB4 := Lib.hid (below_only HB3.out hb)
                clear hC hb
                have HLn : Hid (∀ w0, Arn w0 p b ws → Calls Try.prog 20 #[.pointer (some ⟨p, 0, none⟩)] w0 fun r w' => r = .returned (.int .i64 (8 * (j : Int))) ∧ w' = w0) := Lib.hid fun w0 hA => by
                  have h9 := arnLen_any p b ws w0 hA
                  rw [Hmu.out] at h9
                  rw [show 8 * (j : Int) = ((j * 8 : Nat) : Int) by omega]
                  exact h9
                have hj8 : IntKind.i64.wrap (8 * (j : Int)) = 8 * (j : Int) := IntWalk.i64_in _ (by omega)
                refine wp_region_held_drew (S := fun W' => W'.heap[X]? = some (.cells #[.int .i64 ps, .int .i64 pt, .int .i64 pi, .int .i64 ph, .slice none 0 0, .pointer (some ⟨dq, 0, none⟩), .pointer (some ⟨gp, 0, none⟩)] 80 (0, 0)) ∧ W'.cell? ⟨dq, 0, none⟩ = some (.slice (some ⟨db, 0, none⟩) j j) ∧ dq < W'.heap.size) (by kernel_rfl) (show v4.drew.heap[X]? = _ ∧ v4.drew.cell? _ = _ ∧ _ from ⟨row_below HR.out.box (Below.drew HB4.out), by have h9 := (box1 (RArn.below HR.out.all.arn (Below.drew HB4.out)).box).1; rw [Hmu.out] at h9; exact h9, lt_of_heap (RArn.below HR.out.all.arn (Below.drew HB4.out)).box⟩) ?_
                intro hS
                have hb0 : Below v4.heap.size v4 v4.drew := Below.drew (Below.refl _ _)
                have hA0 : Arn v4.drew p b ws := (HF.out.a.below HB4.out).below hb0
                generalize v4.drew = y0 at hS hb0 hA0 ⊢
                refine wpAnyH_take_at (i := 0) (v := ?v0x25b) (some 203) rfl rfl (by kernel_rfl) (by kernel_rfl) (by kernel_rfl) (fun _ _ _ h => h) (Or.inl ⟨by kernel_rfl, ?h0x25b⟩) (by assumption) ?r0x25b
                case h0x25b => (intro w' hSw; obtain ⟨s1, s2, s3⟩ := hSw; have h6 : w'.cell? ⟨X, 5, none⟩ = some (.pointer (some ⟨dq, 0, none⟩)) := (by rw [row_cell s1]; rfl); have hz := lt_of_heap s1; go_simp; first | done | (with_reducible rfl))
                try simp only [Act.put]
                try simp only [List.setIfInBounds_toArray]
                try simp only [List.set_cons_succ]
                try simp only [List.set_cons_zero]
                refine wpAnyH_take_at (i := 2) (v := ?v2x26b) (some 205) rfl rfl (by kernel_rfl) (by kernel_rfl) (by kernel_rfl) (fun _ _ _ h => h) (Or.inl ⟨by kernel_rfl, ?h2x26b⟩) (by assumption) ?r2x26b
                case h2x26b => (intro w' hSw; obtain ⟨s1, s2, s3⟩ := hSw; have h6 : w'.cell? ⟨X, 5, none⟩ = some (.pointer (some ⟨dq, 0, none⟩)) := (by rw [row_cell s1]; rfl); have hz := lt_of_heap s1; go_simp; first | done | (with_reducible rfl))
                try simp only [Act.put]
                try simp only [List.setIfInBounds_toArray]
                try simp only [List.set_cons_succ]
                try simp only [List.set_cons_zero]
                refine wpAnyH_take_at (i := 3) (v := ?v3x27b) (some 206) rfl rfl (by kernel_rfl) (by kernel_rfl) (by kernel_rfl) (fun _ _ _ h => h) (Or.inl ⟨by kernel_rfl, ?h3x27b⟩) (by assumption) ?r3x27b
                case h3x27b => (intro w' hSw; obtain ⟨s1, s2, s3⟩ := hSw; have h6 : w'.cell? ⟨X, 5, none⟩ = some (.pointer (some ⟨dq, 0, none⟩)) := (by rw [row_cell s1]; rfl); have hz := lt_of_heap s1; go_simp; first | done | (with_reducible rfl))
                try simp only [Act.put]
                try simp only [List.setIfInBounds_toArray]
                try simp only [List.set_cons_succ]
                try simp only [List.set_cons_zero]
                refine wpAnyH_take_at (i := 4) (v := ?v4x28b) (some 207) rfl rfl (by kernel_rfl) (by kernel_rfl) (by kernel_rfl) (fun _ _ _ h => h) (Or.inl ⟨by kernel_rfl, ?h4x28b⟩) (by assumption) ?r4x28b
                case h4x28b => (intro w' hSw; obtain ⟨s1, s2, s3⟩ := hSw; have h6 : w'.cell? ⟨X, 5, none⟩ = some (.pointer (some ⟨dq, 0, none⟩)) := (by rw [row_cell s1]; rfl); have hz := lt_of_heap s1; go_simp; first | done | (with_reducible rfl))
                try simp only [Act.put]
                try simp only [List.setIfInBounds_toArray]
                try simp only [List.set_cons_succ]
                try simp only [List.set_cons_zero]
                refine wpAnyH_take_at (i := 5) (v := ?v5x29b) (some 208) rfl rfl (by kernel_rfl) (by kernel_rfl) (by kernel_rfl) (fun _ _ _ h => h) (Or.inl ⟨by kernel_rfl, ?h5x29b⟩) (by assumption) ?r5x29b
                case h5x29b => (intro w' hSw; obtain ⟨s1, s2, s3⟩ := hSw; have h6 : w'.cell? ⟨X, 5, none⟩ = some (.pointer (some ⟨dq, 0, none⟩)) := (by rw [row_cell s1]; rfl); have hz := lt_of_heap s1; go_simp; first | done | (with_reducible rfl))
                try simp only [Act.put]
                try simp only [List.setIfInBounds_toArray]
                try simp only [List.set_cons_succ]
                try simp only [List.set_cons_zero]
                refine wpAnyH_take_at (i := 6) (v := ?v6x30b) (some 209) rfl rfl (by kernel_rfl) (by kernel_rfl) (by kernel_rfl) (fun _ _ _ h => h) (Or.inl ⟨by kernel_rfl, ?h6x30b⟩) (by assumption) ?r6x30b
                case h6x30b => (intro w' hSw; obtain ⟨s1, s2, s3⟩ := hSw; have h6 : w'.cell? ⟨X, 5, none⟩ = some (.pointer (some ⟨dq, 0, none⟩)) := (by rw [row_cell s1]; rfl); have hz := lt_of_heap s1; go_simp; first | done | (with_reducible rfl))
                try simp only [Act.put]
                try simp only [List.setIfInBounds_toArray]
                try simp only [List.set_cons_succ]
                try simp only [List.set_cons_zero]
                refine wpAnyH_take_at (i := 7) (v := ?v7x31b) (some 210) rfl rfl (by kernel_rfl) (by kernel_rfl) (by kernel_rfl) (fun _ _ _ h => h) (Or.inl ⟨by kernel_rfl, ?h7x31b⟩) (by assumption) ?r7x31b
                case h7x31b => (intro w' hSw; obtain ⟨s1, s2, s3⟩ := hSw; have h6 : w'.cell? ⟨X, 5, none⟩ = some (.pointer (some ⟨dq, 0, none⟩)) := (by rw [row_cell s1]; rfl); have hz := lt_of_heap s1; go_simp; first | done | (with_reducible rfl))
                try simp only [Act.put]
                try simp only [List.setIfInBounds_toArray]
                try simp only [List.set_cons_succ]
                try simp only [List.set_cons_zero]
                refine wpAnyH_take_at (i := 8) (v := ?v8x32b) (some 211) rfl rfl (by kernel_rfl) (by kernel_rfl) (by kernel_rfl) (fun _ _ _ h => h) (Or.inl ⟨by kernel_rfl, ?h8x32b⟩) (by assumption) ?r8x32b
                case h8x32b => (intro w' hSw; obtain ⟨s1, s2, s3⟩ := hSw; have h6 : w'.cell? ⟨X, 5, none⟩ = some (.pointer (some ⟨dq, 0, none⟩)) := (by rw [row_cell s1]; rfl); have hz := lt_of_heap s1; go_simp; first | done | (with_reducible rfl))
                try simp only [Act.put]
                try simp only [List.setIfInBounds_toArray]
                try simp only [List.set_cons_succ]
                try simp only [List.set_cons_zero]
                refine wpAnyH_take_at (i := 9) (v := ?v9x33b) (some 212) rfl rfl (by kernel_rfl) (by kernel_rfl) (by kernel_rfl) (fun _ _ _ h => h) (Or.inl ⟨by kernel_rfl, ?h9x33b⟩) (by assumption) ?r9x33b
                case h9x33b => (intro w' hSw; obtain ⟨s1, s2, s3⟩ := hSw; have h6 : w'.cell? ⟨X, 5, none⟩ = some (.pointer (some ⟨dq, 0, none⟩)) := (by rw [row_cell s1]; rfl); have hz := lt_of_heap s1; go_simp; first | done | (with_reducible rfl))
                try simp only [Act.put]
                try simp only [List.setIfInBounds_toArray]
                try simp only [List.set_cons_succ]
                try simp only [List.set_cons_zero]
                refine wpAnyH_take_at (i := 10) (v := ?v10x34b) (some 213) rfl rfl (by kernel_rfl) (by kernel_rfl) (by kernel_rfl) (fun _ _ _ h => h) (Or.inl ⟨by kernel_rfl, ?h10x34b⟩) (by assumption) ?r10x34b
                case h10x34b => (intro w' hSw; obtain ⟨s1, s2, s3⟩ := hSw; have h6 : w'.cell? ⟨X, 5, none⟩ = some (.pointer (some ⟨dq, 0, none⟩)) := (by rw [row_cell s1]; rfl); have hz := lt_of_heap s1; go_simp; first | done | (with_reducible rfl))
                try simp only [Act.put]
                try simp only [List.setIfInBounds_toArray]
                try simp only [List.set_cons_succ]
                try simp only [List.set_cons_zero]
                refine wpAnyH_ready (rs := [1]) (by kernel_rfl) (by simp) ?_
                refine AllReadyH.cons rfl (fun K hK => ?_) AllReadyH.nil
                go_simp
                refine (HLn.out _ hA0).mono ?_
                rintro e' v9 ⟨rfl, hv9⟩
                subst hv9
                go_simp
                refine hK.out _ _ (hS) (fun hS => ?_)
                clear hK K
                try simp only [Act.put]
                try simp only [List.setIfInBounds_toArray]
                try simp only [List.set_cons_succ]
                try simp only [List.set_cons_zero]
                refine wpAnyH_take_at (i := 11) (v := ?v11x35b) (some 214) rfl rfl (by kernel_rfl) (by kernel_rfl) (by kernel_rfl) (fun _ _ _ h => h) (Or.inl ⟨by kernel_rfl, ?h11x35b⟩) (by assumption) ?r11x35b
                case h11x35b => (intro w' hSw; obtain ⟨s1, s2, s3⟩ := hSw; have h6 : w'.cell? ⟨X, 5, none⟩ = some (.pointer (some ⟨dq, 0, none⟩)) := (by rw [row_cell s1]; rfl); have hz := lt_of_heap s1; go_simp; first | done | (with_reducible rfl))
                try simp only [Act.put]
                try simp only [List.setIfInBounds_toArray]
                try simp only [List.set_cons_succ]
                try simp only [List.set_cons_zero]
                refine wpAnyH_take_at (i := 12) (v := ?v12x36b) (some 215) rfl rfl (by kernel_rfl) (by kernel_rfl) (by kernel_rfl) (fun _ _ _ h => h) (Or.inl ⟨by kernel_rfl, ?h12x36b⟩) (by assumption) ?r12x36b
                case h12x36b => (intro w' hSw; obtain ⟨s1, s2, s3⟩ := hSw; have h6 : w'.cell? ⟨X, 5, none⟩ = some (.pointer (some ⟨dq, 0, none⟩)) := (by rw [row_cell s1]; rfl); have hz := lt_of_heap s1; go_simp; first | done | (with_reducible rfl))
                try simp only [Act.put]
                try simp only [List.setIfInBounds_toArray]
                try simp only [List.set_cons_succ]
                try simp only [List.set_cons_zero]
                refine wpAnyH_take_at (i := 13) (v := ?v13x37b) (some 216) rfl rfl (by kernel_rfl) (by kernel_rfl) (by kernel_rfl) (fun _ _ _ h => h) (Or.inl ⟨by kernel_rfl, ?h13x37b⟩) (by assumption) ?r13x37b
                case h13x37b => (intro w' hSw; obtain ⟨s1, s2, s3⟩ := hSw; have h6 : w'.cell? ⟨X, 5, none⟩ = some (.pointer (some ⟨dq, 0, none⟩)) := (by rw [row_cell s1]; rfl); have hz := lt_of_heap s1; go_simp; first | done | (with_reducible rfl))
                try simp only [Act.put]
                try simp only [List.setIfInBounds_toArray]
                try simp only [List.set_cons_succ]
                try simp only [List.set_cons_zero]
                refine wpAnyH_take_at (i := 14) (v := ?v14x38b) (some 217) rfl rfl (by kernel_rfl) (by kernel_rfl) (by kernel_rfl) (fun _ _ _ h => h) (Or.inl ⟨by kernel_rfl, ?h14x38b⟩) (by assumption) ?r14x38b
                case h14x38b => (intro w' hSw; obtain ⟨s1, s2, s3⟩ := hSw; have h6 : w'.cell? ⟨X, 5, none⟩ = some (.pointer (some ⟨dq, 0, none⟩)) := (by rw [row_cell s1]; rfl); have hz := lt_of_heap s1; go_simp; first | done | (with_reducible rfl))
                try simp only [Act.put]
                try simp only [List.setIfInBounds_toArray]
                try simp only [List.set_cons_succ]
                try simp only [List.set_cons_zero]
                refine wpAnyH_take_at (i := 15) (v := ?v15x39b) (some 218) rfl rfl (by kernel_rfl) (by kernel_rfl) (by kernel_rfl) (fun _ _ _ h => h) (Or.inl ⟨by kernel_rfl, ?h15x39b⟩) (by assumption) ?r15x39b
                case h15x39b => (intro w' hSw; obtain ⟨s1, s2, s3⟩ := hSw; have h6 : w'.cell? ⟨X, 5, none⟩ = some (.pointer (some ⟨dq, 0, none⟩)) := (by rw [row_cell s1]; rfl); have hz := lt_of_heap s1; go_simp; first | done | (with_reducible rfl))
                try simp only [Act.put]
                try simp only [List.setIfInBounds_toArray]
                try simp only [List.set_cons_succ]
                try simp only [List.set_cons_zero]
                refine wpAnyH_take_at (i := 16) (v := ?v16x40b) (some 219) rfl rfl (by kernel_rfl) (by kernel_rfl) (by kernel_rfl) (fun _ _ _ h => h) (Or.inl ⟨by kernel_rfl, ?h16x40b⟩) (by assumption) ?r16x40b
                case h16x40b => (intro w' hSw; obtain ⟨s1, s2, s3⟩ := hSw; have h6 : w'.cell? ⟨X, 5, none⟩ = some (.pointer (some ⟨dq, 0, none⟩)) := (by rw [row_cell s1]; rfl); have hz := lt_of_heap s1; go_simp; first | done | (with_reducible rfl))
                try simp only [Act.put]
                try simp only [List.setIfInBounds_toArray]
                try simp only [List.set_cons_succ]
                try simp only [List.set_cons_zero]
                refine wpAnyH_take_at (i := 17) (v := ?v17x41b) (some 220) rfl rfl (by kernel_rfl) (by kernel_rfl) (by kernel_rfl) (fun _ _ _ h => h) (Or.inl ⟨by kernel_rfl, ?h17x41b⟩) (by assumption) ?r17x41b
                case h17x41b => (intro w' hSw; obtain ⟨s1, s2, s3⟩ := hSw; have h6 : w'.cell? ⟨X, 5, none⟩ = some (.pointer (some ⟨dq, 0, none⟩)) := (by rw [row_cell s1]; rfl); have hz := lt_of_heap s1; go_simp; first | done | (with_reducible rfl))
                try simp only [Act.put]
                try simp only [List.setIfInBounds_toArray]
                try simp only [List.set_cons_succ]
                try simp only [List.set_cons_zero]
                refine wpAnyH_take_at (i := 18) (v := ?v18x42b) (some 221) rfl rfl (by kernel_rfl) (by kernel_rfl) (by kernel_rfl) (fun _ _ _ h => h) (Or.inl ⟨by kernel_rfl, ?h18x42b⟩) (by assumption) ?r18x42b
                case h18x42b => (intro w' hSw; obtain ⟨s1, s2, s3⟩ := hSw; have h6 : w'.cell? ⟨X, 5, none⟩ = some (.pointer (some ⟨dq, 0, none⟩)) := (by rw [row_cell s1]; rfl); have hz := lt_of_heap s1; go_simp; first | done | (with_reducible rfl))
                try simp only [Act.put]
                try simp only [List.setIfInBounds_toArray]
                try simp only [List.set_cons_succ]
                try simp only [List.set_cons_zero]
                refine wpAnyH_take_at (i := 19) (v := ?v19x43b) (some 222) rfl rfl (by kernel_rfl) (by kernel_rfl) (by kernel_rfl) (fun _ _ _ h => h) (Or.inl ⟨by kernel_rfl, ?h19x43b⟩) (by assumption) ?r19x43b
                case h19x43b => (intro w' hSw; obtain ⟨s1, s2, s3⟩ := hSw; have h6 : w'.cell? ⟨X, 5, none⟩ = some (.pointer (some ⟨dq, 0, none⟩)) := (by rw [row_cell s1]; rfl); have hz := lt_of_heap s1; go_simp; first | done | (with_reducible rfl))
                try simp only [Act.put]
                try simp only [List.setIfInBounds_toArray]
                try simp only [List.set_cons_succ]
                try simp only [List.set_cons_zero]
                refine wpAnyH_take_at (i := 20) (v := ?v20x44b) (some 4) rfl rfl (by kernel_rfl) (by kernel_rfl) (by kernel_rfl) (fun _ _ _ h => h) (Or.inl ⟨by kernel_rfl, ?h20x44b⟩) (by assumption) ?r20x44b
                case h20x44b => (intro w' hSw; obtain ⟨s1, s2, s3⟩ := hSw; have h6 : w'.cell? ⟨X, 5, none⟩ = some (.pointer (some ⟨dq, 0, none⟩)) := (by rw [row_cell s1]; rfl); have hz := lt_of_heap s1; go_simp; first | done | (with_reducible rfl))
                try simp only [Act.put]
                try simp only [List.setIfInBounds_toArray]
                try simp only [List.set_cons_succ]
                try simp only [List.set_cons_zero]
                refine wpAnyH_done (by kernel_rfl) ?_ _
                go_wp2_with fail
                go_ret
                refine ⟨by first | rfl | simp, below_only B.out (below_only HB4.out hb0)⟩

end Go.Proofs.Ythedndejlfkknaa
