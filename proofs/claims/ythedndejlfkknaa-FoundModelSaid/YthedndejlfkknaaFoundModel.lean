/- Layer 14: the walk of FoundModel. -/
import Derived.Test.YthedndejlfkknaaFOpen
import Derived.Test.YthedndejlfkknaaWords
import Derived.Test.YthedndejlfkknaaFLawPlain
import Derived.Test.YthedndejlfkknaaFRest
import Derived.Test.YthedndejlfkknaaRMDo
namespace Go.Proofs.Ythedndejlfkknaa
open Go.RowKit
set_option linter.unusedVariables false
set_option linter.unusedSimpArgs false

set_option maxRecDepth 100000 in
set_option maxHeartbeats 8000000 in
theorem foundModel_walk (s0 t0 i0 h0 : Int) (A : Option Addr) (cp : Nat) (L : List FOp) (w : World) (z0 : (Lit.int .i64 s0).wf = true) (z1 : (Lit.int .i64 t0).wf = true) (z2 : (Lit.int .i64 i0).wf = true) (z3 : (Lit.int .i64 h0).wf = true) (hLk : L.length ≤ cp) (hkm : cp ≤ maxLen) (hL : Cells w A (L.flatMap fopCells)) (hq : ∀ o ∈ L, FOpOk o) :
    Calls Try.prog 3 #[.agg #[.int .i64 s0, .int .i64 t0, .int .i64 i0, .int .i64 h0], .slice A L.length cp] w fun r w' => r = .returned (.bool true) ∧ Below w.heap.size w w' := by
  have hlm : L.length ≤ 9223372036854775807 := by unfold maxLen at hkm; omega
  have HL0 := Lib.hid hL
  have Hq := Lib.hid hq
  have hP0 := fitP_ok ⟨s0, t0, i0, h0⟩
  have hP1 : (fitP ⟨s0, t0, i0, h0⟩).h ≤ 1016 := by unfold fitP; simp only; omega
  have HFit : Hid (∀ w, Calls Try.prog 10 #[.agg #[.int .i64 s0, .int .i64 t0, .int .i64 i0, .int .i64 h0]] w fun r w' => r = .returned (fitP ⟨s0, t0, i0, h0⟩).val ∧ Below w.heap.size w w') := Lib.hid fun w => fit_plan ⟨s0, t0, i0, h0⟩ w
  obtain ⟨⟨ps, pt, pi, ph⟩, HP⟩ : ∃ x, Hid (fitP ⟨s0, t0, i0, h0⟩ = x) := ⟨_, Lib.hid rfl⟩
  rw [HP.out] at hP0 hP1 HFit
  have HPl : Hid (PlanOk ps pt pi ph) := Lib.hid (by obtain ⟨a1, a2, a3, a4, a5, a6, a7, a8, a9, a10⟩ := hP0; exact ⟨a1, a2, a3, a4, a5, a6, a7, a8, a9, a10⟩)
  have HPh : Hid (ph ≤ 1016) := Lib.hid hP1
  clear hL hq hkm hP0 hP1 z0 z1 z2 z3
  go_enter Try.func3, Try.ntmps3
  go_upto_region 1 with fail
  refine one_row w _ _ ?_
  intro w1 hr hb
  have B := Lib.hid (hb)
  clear hb
  have H_q := Lib.hid (show w1.heap[w.heap.size]? = some (.cells #[.int .i64 s0, .int .i64 t0, .int .i64 i0, .int .i64 h0] 23 (0, 0)) from hr)
  clear hr
  go_wp2_with fail
  refine (shown_any _).mono ?_
  rintro r w2 ⟨rfl, hb⟩
  have hsz := (hb).size
  replace H_q := Lib.hid (row_below H_q.out hb)
  replace B := Lib.hid (below_only B.out hb)
  clear hb hsz
  obtain ⟨q_0, q_1, q_2, q_3, q_f0, q_f1, q_f2, q_f3⟩ := box4 H_q.out
  have z_q := lt_of_heap H_q.out
  go_wp2_with fail
  refine (HFit.out _).mono ?_
  rintro r w3 ⟨rfl, hb⟩
  clear q_0 q_1 q_2 q_3 q_f0 q_f1 q_f2 q_f3 z_q
  have hsz := (hb).size
  replace H_q := Lib.hid (row_below H_q.out hb)
  replace B := Lib.hid (below_only B.out hb)
  clear hb hsz
  clear H_q
  go_upto_region 3 with fail
  refine one_row w3 _ _ ?_
  intro w4 hr hb
  have hlB := B.out.size
  have hsz := (hb).size
  replace B := Lib.hid (below_only B.out hb)
  clear hb hsz
  have H_p := Lib.hid (show w4.heap[w3.heap.size]? = some (.cells #[.int .i64 ps, .int .i64 pt, .int .i64 pi, .int .i64 ph] 23 (0, 0)) from hr)
  clear hr
  obtain ⟨g_p, hg_p⟩ : ∃ x, x = w3.heap.size := ⟨_, rfl⟩
  rw [← hg_p] at H_p ⊢
  have L_p : Hid (w.heap.size ≤ g_p) := Lib.hid (by omega)
  clear hg_p hlB
  obtain ⟨p_0, p_1, p_2, p_3, p_f0, p_f1, p_f2, p_f3⟩ := box4 H_p.out
  have z_p := lt_of_heap H_p.out
  go_wp2_with fail
  refine (foundNewG_any ps pt pi ph _ HPl.out).mono ?_
  rintro r w5 ⟨p, b, gg, q, rfl, hA, hG, hl, hn, hb⟩
  have E_p : Hid (g_p < w4.heap.size) := Lib.hid (lt_of_heap H_p.out)
  have HBB : Hid (w.heap.size ≤ w4.heap.size) := Lib.hid B.out.size
  have HF := Lib.hid (fs_new (t := pt) HPl.out hA hG hl hn)
  obtain ⟨BB, hBB⟩ : ∃ x, x = w4.heap.size := ⟨_, rfl⟩
  rw [← hBB] at E_p HBB HF
  obtain ⟨f, hf⟩ : ∃ x, x = 64 * ps + pi := ⟨_, rfl⟩
  obtain ⟨e, he⟩ : ∃ x, x = f + ph := ⟨_, rfl⟩
  rw [← hf, ← he] at HF
  have Hfe := Lib.hid (And.intro hf he)
  have HlS : Hid (((newS ⟨ps, pt, pi, ph⟩).l.length : Int) = ps) := Lib.hid (by have := HPl.out.s0; simp [newS]; omega)
  obtain ⟨m, hm⟩ : ∃ x, x = (newWs ps pi ph).length := ⟨_, rfl⟩
  have Hm : Hid ((newWs ps pi ph).length = m) := Lib.hid hm.symm
  have Hm0 : Hid (0 < m) := Lib.hid (by rw [hm, newWs_len]; have := HPl.out.s0; have := HPl.out.i0; have := HPl.out.h0; omega)
  have hm1 : m ≤ 8192 := by rw [hm]; exact hA.small
  clear hA hG hl hn hf he hBB hm
  clear p_0 p_1 p_2 p_3 p_f0 p_f1 p_f2 p_f3 z_p
  have hsz := (hb).size
  replace H_p := Lib.hid (row_below H_p.out hb)
  replace B := Lib.hid (below_only B.out hb)
  clear hb hsz
  obtain ⟨p_0, p_1, p_2, p_3, p_f0, p_f1, p_f2, p_f3⟩ := box4 H_p.out
  have z_p := lt_of_heap H_p.out
  go_wp2_with fail
  refine (rnewM_any ps pt pi ph _ HPl.out).mono ?_
  rintro r w6 ⟨M, PK, rfl, hRf, hb⟩
  rw [← Hfe.out.1, ← Hfe.out.2] at hRf
  have HBX : Hid (w.heap.size ≤ w5.heap.size) := Lib.hid B.out.size
  have hFl := HF.out.lt
  have HAp : Hid (∀ j ∈ PK.all M, j ∉ FsT b gg q ∧ j ≠ p) := Lib.hid fun j hj => by
    have h10 := hRf.lows j hj
    exact ⟨HF.out.fresh h10, by omega⟩
  have D_p : Hid (g_p ∉ RT PK.bc PK.bx PK.gq) := Lib.hid (by have h9 := hRf.lows; have h1 := h9 PK.bc (by simp); have h2 := h9 PK.bx (by simp); have h3 := h9 PK.gq (by simp); have := lt_of_heap H_p.out; simp; omega)
  obtain ⟨BX, hBX⟩ : ∃ x, x = w5.heap.size := ⟨_, rfl⟩
  rw [← hBX] at hRf HBX
  clear hFl hBX
  clear p_0 p_1 p_2 p_3 p_f0 p_f1 p_f2 p_f3 z_p
  replace HF := Lib.hid (HF.out.below hb)
  have hsz := (hb).size
  replace H_p := Lib.hid (row_below H_p.out hb)
  replace B := Lib.hid (below_only B.out hb)
  clear hb hsz
  have HR := Lib.hid hRf
  clear hRf
  have Hz0 : Hid (∃ z, (newS ⟨ps, pt, pi, ph⟩).l[0]? = some z ∧ z.c.st = 2) := Lib.hid ⟨_, rfl, rfl⟩
  go_wp2_with fail
  go_loopw [11] (fun t wr => ∃ (k : Nat) (S : Sco) (ws : List Int) (q : Option Nat), k ≤ L.length ∧ k ≤ 40 ∧ t = .int .i64 k ∧ (S.l.length : Int) = ps ∧ ws.length = m ∧ Fs BB wr p b gg q f e S ws ∧ wr.heap[g_p]? = some (.cells #[.int .i64 ps, .int .i64 pt, .int .i64 pi, .int .i64 ph] 23 (0, 0)) ∧ Below w.heap.size w wr ∧ RM BX wr M PK f e S ∧ (∀ j ∈ PK.all M, j ∉ FsT b gg q ∧ j ≠ p) ∧ (∃ z, S.l[0]? = some z ∧ z.c.st = 2)) (fun t _ => (40 - intOf t).toNat)
  case atStart => exact ⟨0, _, _, _, Nat.zero_le _, by omega, rfl, HlS.out, Hm.out, HF.out, H_p.out, B.out, HR.out, HAp.out, Hz0.out⟩
  case round =>
    clear HF H_p B HlS Hm HR HAp Hz0
    obtain ⟨k, S, ws, q, hk, hk2, rfl, hlS, hm, hF, hp, hB, hR, hap, hz0⟩ := hrel
    have HlS := Lib.hid hlS
    have Hmu := Lib.hid hm
    have HF := Lib.hid hF
    have H_p := Lib.hid hp
    have B := Lib.hid hB
    have HR := Lib.hid hR
    have HAp := Lib.hid hap
    have Hz0 := Lib.hid hz0
    clear hlS hm hF hp hB hR hap hz0
    by_cases hlt : k < L.length ∧ k < 40
    · skip
      obtain ⟨hlt, hlt2⟩ := hlt
      have hlt3 : (k : Int) < 40 := by omega
      obtain ⟨bA, off, rfl, hbA, hcA⟩ := fops_at HL0.out (by omega)
      obtain ⟨⟨mk, n⟩, hop⟩ : ∃ o, L[k]? = some o := ⟨_, List.getElem?_eq_getElem hlt⟩
      have Hn : Hid (-9223372036854775808 ≤ n ∧ n ≤ 9223372036854775807) := Lib.hid (Hq.out _ (List.mem_of_getElem? hop))
      obtain ⟨k0, k1⟩ := hcA k _ hop
      simp only at k0 k1
      have K0 := Lib.hid k0
      have K1 := Lib.hid k1
      have HbA := Lib.hid hbA
      have hbA2 : bA < wr.heap.size := Nat.lt_of_lt_of_le hbA B.out.size
      clear hcA hop k0 k1
      clear hbA
      have cA0 : wr.cell? ⟨bA, off + k * 2, none⟩ = some (.bool mk) := (B.out.cell (p := ⟨bA, off + k * 2, none⟩) HbA.out).trans K0.out
      have cA1 : wr.cell? ⟨bA, off + k * 2 + 1, none⟩ = some (.int .i64 n) := (B.out.cell (p := ⟨bA, off + k * 2 + 1, none⟩) HbA.out).trans K1.out
      have zA : bA < wr.heap.size := Nat.lt_of_lt_of_le HbA.out B.out.size
      go_upto_region 10 with fail
      try simp only [Act.put]
      go_cut [12] from 52 to 63 (fun vd wx => ∃ kc cA gr, vd = .pointer (some ⟨gr, 0, none⟩) ∧ wx.heap[gr]? = some (.cells (begR ps mk n ⟨cA, 0, kc⟩).arr 42 (0, 0)) ∧ wr.heap.size ≤ gr ∧ Below wr.heap.size wr wx)
      case first =>
        as_aux_lemma =>
          refine wp_region_held_drew (S := fun W' => W'.heap[g_p]? = some (.cells #[.int .i64 ps, .int .i64 pt, .int .i64 pi, .int .i64 ph] 23 (0, 0)) ∧ W'.cell? ⟨bA, off + k * 2, none⟩ = some (.bool mk) ∧ W'.cell? ⟨bA, off + k * 2 + 1, none⟩ = some (.int .i64 n) ∧ bA < W'.heap.size) (by kernel_rfl) (show wr.drew.heap[_]? = _ ∧ wr.drew.cell? _ = _ ∧ wr.drew.cell? _ = _ ∧ _ from ⟨H_p.out, cA0, cA1, zA⟩) ?_
          intro hS
          have hb0 : Below wr.heap.size wr wr.drew := Below.drew (Below.refl _ _)
          clear cA0 cA1 zA hbA2
          generalize wr.drew = y0 at hS hb0 ⊢
          refine wpAnyH_take_at (i := 0) (v := .agg #[.int .i64 ps, .int .i64 pt, .int .i64 pi, .int .i64 ph]) (some 52) rfl rfl (by kernel_rfl) (by kernel_rfl) (by kernel_rfl) (fun _ _ _ h => h) (yieldsIf_load_row (by kernel_rfl) 23 (.tmp 6) rfl g_p rfl #[.int .i64 ps, .int .i64 pt, .int .i64 pi, .int .i64 ph] (fun W' hW' => hW'.1) undPln4 rfl infoPln4) (by assumption) ?_
          try simp only [Act.put]
          try simp only [List.setIfInBounds_toArray]
          try simp only [List.set_cons_succ]
          try simp only [List.set_cons_zero]
          refine wpAnyH_take_at (i := 1) (v := ?v1x1) (some 53) rfl rfl (by kernel_rfl) (by kernel_rfl) (by kernel_rfl) (fun _ _ _ h => h) (Or.inl ⟨by kernel_rfl, ?h1x1⟩) (by assumption) ?r1x1
          case h1x1 => (intro w' hSw; obtain ⟨s1, s2, s3, s4⟩ := hSw; go_simp; first | done | (with_reducible rfl))
          try simp only [Act.put]
          try simp only [List.setIfInBounds_toArray]
          try simp only [List.set_cons_succ]
          try simp only [List.set_cons_zero]
          refine wpAnyH_take_at (i := 2) (v := ?v2x2) (some 54) rfl rfl (by kernel_rfl) (by kernel_rfl) (by kernel_rfl) (fun _ _ _ h => h) (Or.inl ⟨by kernel_rfl, ?h2x2⟩) (by assumption) ?r2x2
          case h2x2 => (intro w' hSw; obtain ⟨s1, s2, s3, s4⟩ := hSw; go_simp; first | done | (with_reducible rfl))
          try simp only [Act.put]
          try simp only [List.setIfInBounds_toArray]
          try simp only [List.set_cons_succ]
          try simp only [List.set_cons_zero]
          refine wpAnyH_take_at (i := 3) (v := ?v3x3) (some 55) rfl rfl (by kernel_rfl) (by kernel_rfl) (by kernel_rfl) (fun _ _ _ h => h) (Or.inl ⟨by kernel_rfl, ?h3x3⟩) (by assumption) ?r3x3
          case h3x3 => (intro w' hSw; obtain ⟨s1, s2, s3, s4⟩ := hSw; go_simp; first | done | (with_reducible rfl))
          try simp only [Act.put]
          try simp only [List.setIfInBounds_toArray]
          try simp only [List.set_cons_succ]
          try simp only [List.set_cons_zero]
          refine wpAnyH_take_at (i := 4) (v := ?v4x4) (some 56) rfl rfl (by kernel_rfl) (by kernel_rfl) (by kernel_rfl) (fun _ _ _ h => h) (Or.inl ⟨by kernel_rfl, ?h4x4⟩) (by assumption) ?r4x4
          case h4x4 => (intro w' hSw; obtain ⟨s1, s2, s3, s4⟩ := hSw; go_simp; first | done | (with_reducible rfl))
          try simp only [Act.put]
          try simp only [List.setIfInBounds_toArray]
          try simp only [List.set_cons_succ]
          try simp only [List.set_cons_zero]
          refine wpAnyH_take_at (i := 5) (v := ?v5x5) (some 57) rfl rfl (by kernel_rfl) (by kernel_rfl) (by kernel_rfl) (fun _ _ _ h => h) (Or.inl ⟨by kernel_rfl, ?h5x5⟩) (by assumption) ?r5x5
          case h5x5 => (intro w' hSw; obtain ⟨s1, s2, s3, s4⟩ := hSw; go_simp; first | done | (with_reducible rfl))
          try simp only [Act.put]
          try simp only [List.setIfInBounds_toArray]
          try simp only [List.set_cons_succ]
          try simp only [List.set_cons_zero]
          refine wpAnyH_take_at (i := 6) (v := ?v6x6) (some 58) rfl rfl (by kernel_rfl) (by kernel_rfl) (by kernel_rfl) (fun _ _ _ h => h) (Or.inl ⟨by kernel_rfl, ?h6x6⟩) (by assumption) ?r6x6
          case h6x6 => (intro w' hSw; obtain ⟨s1, s2, s3, s4⟩ := hSw; go_simp; first | done | (with_reducible rfl))
          try simp only [Act.put]
          try simp only [List.setIfInBounds_toArray]
          try simp only [List.set_cons_succ]
          try simp only [List.set_cons_zero]
          refine wpAnyH_take_at (i := 7) (v := ?v7x7) (some 59) rfl rfl (by kernel_rfl) (by kernel_rfl) (by kernel_rfl) (fun _ _ _ h => h) (Or.inl ⟨by kernel_rfl, ?h7x7⟩) (by assumption) ?r7x7
          case h7x7 => (intro w' hSw; obtain ⟨s1, s2, s3, s4⟩ := hSw; go_simp; first | done | (with_reducible rfl))
          try simp only [Act.put]
          try simp only [List.setIfInBounds_toArray]
          try simp only [List.set_cons_succ]
          try simp only [List.set_cons_zero]
          refine wpAnyH_take_at (i := 8) (v := ?v8x8) (some 60) rfl rfl (by kernel_rfl) (by kernel_rfl) (by kernel_rfl) (fun _ _ _ h => h) (Or.inl ⟨by kernel_rfl, ?h8x8⟩) (by assumption) ?r8x8
          case h8x8 => (intro w' hSw; obtain ⟨s1, s2, s3, s4⟩ := hSw; go_simp; first | done | (with_reducible rfl))
          try simp only [Act.put]
          try simp only [List.setIfInBounds_toArray]
          try simp only [List.set_cons_succ]
          try simp only [List.set_cons_zero]
          refine wpAnyH_take_at (i := 9) (v := ?v9x9) (some 61) rfl rfl (by kernel_rfl) (by kernel_rfl) (by kernel_rfl) (fun _ _ _ h => h) (Or.inl ⟨by kernel_rfl, ?h9x9⟩) (by assumption) ?r9x9
          case h9x9 => (intro w' hSw; obtain ⟨s1, s2, s3, s4⟩ := hSw; go_simp; first | done | (with_reducible rfl))
          try simp only [Act.put]
          try simp only [List.setIfInBounds_toArray]
          try simp only [List.set_cons_succ]
          try simp only [List.set_cons_zero]
          refine wpAnyH_take_at (i := 10) (v := ?v10x10) (some 62) rfl rfl (by kernel_rfl) (by kernel_rfl) (by kernel_rfl) (fun _ _ _ h => h) (Or.inl ⟨by kernel_rfl, ?h10x10⟩) (by assumption) ?r10x10
          case h10x10 => (intro w' hSw; obtain ⟨s1, s2, s3, s4⟩ := hSw; go_simp; first | done | (with_reducible rfl))
          try simp only [Act.put]
          try simp only [List.setIfInBounds_toArray]
          try simp only [List.set_cons_succ]
          try simp only [List.set_cons_zero]
          refine wpAnyH_ready (rs := [11, 12]) (by kernel_rfl) (by simp) ?_
          refine AllReadyH.cons rfl (fun K hK => ?_) (AllReadyH.cons rfl (fun K hK => ?_) AllReadyH.nil)
          · skip
            go_simp
            refine (begun_any ps pt pi ph mk n _ HPl.out Hn.out).mono ?_
            rintro e' y8 ⟨kc, cA, rfl, hb⟩
            go_simp
            replace hb0 := below_only hb0 hb
            refine hK.out _ _ (by obtain ⟨s1, s2, s3, s4⟩ := hS; exact ⟨row_below s1 hb, (hb.cell (lt_of_cell s2)).trans s2, (hb.cell (lt_of_cell s3)).trans s3, Nat.lt_of_lt_of_le s4 hb.size⟩) (fun hS => ?_)
            clear hK K
            try simp only [Act.put]
            try simp only [List.setIfInBounds_toArray]
            try simp only [List.set_cons_succ]
            try simp only [List.set_cons_zero]
            refine wpAnyH_ready (rs := [12]) (by kernel_rfl) (by simp) ?_
            refine AllReadyH.cons rfl (fun K hK => ?_) AllReadyH.nil
            refine step_alloc_run (some 12) rfl rfl rfl ?_
            refine k_alloc (fun yZ hZ hb => ?_)
            have hz0 : wr.heap.size ≤ y8.heap.size := hb0.size
            obtain ⟨gZ, HgZ⟩ : ∃ x, x = y8.heap.size := ⟨_, rfl⟩
            have hzg : gZ ≠ g_p := by have := lt_of_heap hS.1; omega
            have hzA : gZ ≠ bA := by have := hS.2.2.2; omega
            rw [← HgZ] at hZ hz0 ⊢
            clear HgZ
            replace hb0 := below_only hb0 hb
            refine hK.out _ _ (by obtain ⟨s1, s2, s3, s4⟩ := hS; exact ⟨row_below s1 hb, (hb.cell (lt_of_cell s2)).trans s2, (hb.cell (lt_of_cell s3)).trans s3, Nat.lt_of_lt_of_le s4 hb.size⟩) (fun hS => ?_)
            clear hK K
            try simp only [Act.put]
            try simp only [List.setIfInBounds_toArray]
            try simp only [List.set_cons_succ]
            try simp only [List.set_cons_zero]
            refine wpAnyH_ready (rs := [13]) (by kernel_rfl) (by simp) ?_
            refine AllReadyH.cons rfl (fun K hK => ?_) AllReadyH.nil
            refine step_store_row none rfl rfl 42 (.tmp 12) (.tmp 63) rfl gZ (begR ps mk n ⟨cA, 0, kc⟩).arr rfl rfl 42 ZRun hZ infoRun rfl (Rn.one _) ?_
            refine hK.out _ _ (by obtain ⟨s1, s2, s3, s4⟩ := hS; exact ⟨(setRow_other _ _ _ _ hzg.symm).trans s1, (cell_setRow hzA.symm).trans s2, (cell_setRow hzA.symm).trans s3, by simpa [World.setRow] using s4⟩) (fun hS => ?_)
            clear hK K
            try simp only [Act.put]
            try simp only [List.setIfInBounds_toArray]
            try simp only [List.set_cons_succ]
            try simp only [List.set_cons_zero]
            refine wpAnyH_done (by kernel_rfl) ?_ _
            go_wp2_with fail
            go_meet
            exact ⟨kc, cA, gZ, rfl, setRow_heap _ _ _ _ _ _ hZ, hz0, below_setRow hb0 hz0 _⟩
          · skip
            refine step_alloc_run (some 12) rfl rfl rfl ?_
            refine k_alloc (fun yZ hZ hb => ?_)
            have hz0 : wr.heap.size ≤ y0.heap.size := hb0.size
            obtain ⟨gZ, HgZ⟩ : ∃ x, x = y0.heap.size := ⟨_, rfl⟩
            have hzg : gZ ≠ g_p := by have := lt_of_heap hS.1; omega
            have hzA : gZ ≠ bA := by have := hS.2.2.2; omega
            rw [← HgZ] at hZ hz0 ⊢
            clear HgZ
            replace hb0 := below_only hb0 hb
            refine hK.out _ _ (by obtain ⟨s1, s2, s3, s4⟩ := hS; exact ⟨row_below s1 hb, (hb.cell (lt_of_cell s2)).trans s2, (hb.cell (lt_of_cell s3)).trans s3, Nat.lt_of_lt_of_le s4 hb.size⟩) (fun hS => ?_)
            clear hK K
            try simp only [Act.put]
            try simp only [List.setIfInBounds_toArray]
            try simp only [List.set_cons_succ]
            try simp only [List.set_cons_zero]
            refine wpAnyH_ready (rs := [11]) (by kernel_rfl) (by simp) ?_
            refine AllReadyH.cons rfl (fun K hK => ?_) AllReadyH.nil
            go_simp
            refine (begun_any ps pt pi ph mk n _ HPl.out Hn.out).mono ?_
            rintro e' y8 ⟨kc, cA, rfl, hb⟩
            go_simp
            replace hZ := row_below hZ hb
            replace hb0 := below_only hb0 hb
            refine hK.out _ _ (by obtain ⟨s1, s2, s3, s4⟩ := hS; exact ⟨row_below s1 hb, (hb.cell (lt_of_cell s2)).trans s2, (hb.cell (lt_of_cell s3)).trans s3, Nat.lt_of_lt_of_le s4 hb.size⟩) (fun hS => ?_)
            clear hK K
            try simp only [Act.put]
            try simp only [List.setIfInBounds_toArray]
            try simp only [List.set_cons_succ]
            try simp only [List.set_cons_zero]
            refine wpAnyH_ready (rs := [13]) (by kernel_rfl) (by simp) ?_
            refine AllReadyH.cons rfl (fun K hK => ?_) AllReadyH.nil
            refine step_store_row none rfl rfl 42 (.tmp 12) (.tmp 63) rfl gZ (begR ps mk n ⟨cA, 0, kc⟩).arr rfl rfl 42 ZRun hZ infoRun rfl (Rn.one _) ?_
            refine hK.out _ _ (by obtain ⟨s1, s2, s3, s4⟩ := hS; exact ⟨(setRow_other _ _ _ _ hzg.symm).trans s1, (cell_setRow hzA.symm).trans s2, (cell_setRow hzA.symm).trans s3, by simpa [World.setRow] using s4⟩) (fun hS => ?_)
            clear hK K
            try simp only [Act.put]
            try simp only [List.setIfInBounds_toArray]
            try simp only [List.set_cons_succ]
            try simp only [List.set_cons_zero]
            refine wpAnyH_done (by kernel_rfl) ?_ _
            go_wp2_with fail
            go_meet
            exact ⟨kc, cA, gZ, rfl, setRow_heap _ _ _ _ _ _ hZ, hz0, below_setRow hb0 hz0 _⟩
      case rest =>
        obtain ⟨kc, cA, g_r, rfl, hr, hlr, hb⟩ := hcut
        obtain ⟨x1, hwx⟩ : ∃ x, x = wc := ⟨_, rfl⟩
        subst hwx
        clear cA0 cA1 zA hbA2
        have N_r : Hid (g_r ∉ FsT b gg q ∧ g_r ≠ p) := Lib.hid ⟨HF.out.fresh hlr, by have := HF.out.lt.1; omega⟩
        have D_r : Hid (g_r ∉ RT PK.bc PK.bx PK.gq) := Lib.hid (by have h9 := HR.out.lt; have h1 := h9 PK.bc (by simp); have h2 := h9 PK.bx (by simp); have h3 := h9 PK.gq (by simp); simp; omega)
        have M_r_p : Hid (g_r ≠ g_p) := Lib.hid (by have := lt_of_heap H_p.out; omega)
        have M_p_r : Hid (g_p ≠ g_r) := Lib.hid (by have := lt_of_heap H_p.out; omega)
        have L_r : Hid (w.heap.size ≤ g_r) := Lib.hid (by have := B.out.size; omega)
        clear hlr
        replace HR := Lib.hid (HR.out.below hb)
        replace HF := Lib.hid (HF.out.below hb)
        have hsz := (hb).size
        replace H_p := Lib.hid (row_below H_p.out hb)
        replace B := Lib.hid (below_only B.out hb)
        clear hb hsz
        have H_r := Lib.hid (show x1.heap[g_r]? = some (.cells (begR ps mk n ⟨cA, 0, kc⟩).arr 42 (0, 0)) from hr)
        clear hr
        obtain ⟨cl, hcl⟩ : ∃ x, (⟨if mk then 2 else 3, 0, 0, 0, begA mk n, 0, 0⟩ : Cal) = x := ⟨_, rfl⟩
        have Hcl := Lib.hid hcl
        have hrc : (begR ps mk n ⟨cA, 0, kc⟩).c = cl := (begR_cal _ _ _ _).trans hcl
        have o0 : x1.cell? ⟨g_r, 0, none⟩ = some (.int .u8 cl.op) := by rw [row_cell H_r.out, ← hrc]; rfl
        have o1 : x1.cell? ⟨g_r, 1, none⟩ = some (.int .u8 cl.r) := by rw [row_cell H_r.out, ← hrc]; rfl
        have o2 : x1.cell? ⟨g_r, 2, none⟩ = some (.int .u8 cl.h) := by rw [row_cell H_r.out, ← hrc]; rfl
        have o3 : x1.cell? ⟨g_r, 3, none⟩ = some (.int .u8 cl.v) := by rw [row_cell H_r.out, ← hrc]; rfl
        have o4 : x1.cell? ⟨g_r, 4, none⟩ = some (.int .i64 cl.a) := by rw [row_cell H_r.out, ← hrc]; rfl
        have o5 : x1.cell? ⟨g_r, 5, none⟩ = some (.int .i64 cl.b) := by rw [row_cell H_r.out, ← hrc]; rfl
        have o6 : x1.cell? ⟨g_r, 6, none⟩ = some (.int .i64 cl.c) := by rw [row_cell H_r.out, ← hrc]; rfl
        have zr := lt_of_heap H_r.out
        clear hcl hrc
        go_wp2_with fail
        refine (rdo14_any BX M PK f e ps S mk n cl _ HR.out Hz0.out Hcl.out).mono ?_
        rintro y x2 ⟨rfl, hR, hK⟩
        clear o0 o1 o2 o3 o4 o5 o6 zr
        obtain ⟨tc, tn, HT⟩ : ∃ a b, Hid (told14 f e mk n S = (a, b)) := ⟨_, _, Lib.hid rfl⟩
        rw [HT.out]
        have hap := HAp.out
        replace HF := Lib.hid (HF.out.kept hK (fun j hj hm => by
          have h8 := hap j (by simp at hj ⊢; omega)
          rcases List.mem_cons.1 hm with h9 | h9
          · exact h8.2 h9
          · exact h8.1 h9))
        clear hap
        replace H_p := Lib.hid (hK.row H_p.out D_p.out)
        replace H_r := Lib.hid (hK.row H_r.out D_r.out)
        replace B := Lib.hid (Keep.under B.out hK (by have := B.out.size; omega) (fun j hj => by have h7 := HR.out.lows; have := HBX.out; have h8 := h7 j (by simp at hj ⊢; omega); omega))
        replace HR := Lib.hid hR
        clear hR hK
        go_upto_region 12 with (refine wpList_store_row rfl 40 (.tmp 13) (.tmp 67) rfl x2.heap.size (ansA tc tn) rfl rfl 40 (ansA 0 0) (row_new _ _ _) infoAns rfl (ansA_one tc tn) ?_; (try simp only [Act.put]); (try simp only [List.setIfInBounds_toArray]); (try simp only [List.set_cons_succ]); (try simp only [List.set_cons_zero]))
        have hlr1 := HR.out.lt PK.bc (by simp)
        have hlr2 := HR.out.lt PK.bx (by simp)
        have hlr3 := HR.out.lt PK.gq (by simp)
        refine alloc_set' x2 _ _ _ ?_
        intro x3 hr hb
        have hlB := B.out.size
        have hfr := HF.out.fresh (Nat.le_refl x2.heap.size)
        have hlp := HF.out.lt.1
        have hl_p := lt_of_heap H_p.out
        have hl_r := lt_of_heap H_r.out
        replace HR := Lib.hid (HR.out.below hb)
        replace HF := Lib.hid (HF.out.below hb)
        have hsz := (hb).size
        replace H_p := Lib.hid (row_below H_p.out hb)
        replace H_r := Lib.hid (row_below H_r.out hb)
        replace B := Lib.hid (below_only B.out hb)
        clear hb hsz
        have H_t := Lib.hid (show x3.heap[x2.heap.size]? = some (.cells (ansA tc tn) 40 (0, 0)) from hr)
        clear hr
        obtain ⟨g_t, hg_t⟩ : ∃ x, x = x2.heap.size := ⟨_, rfl⟩
        rw [← hg_t] at H_t ⊢
        have N_t : Hid (g_t ∉ FsT b gg q ∧ g_t ≠ p) := Lib.hid ⟨by rw [hg_t]; exact hfr, by omega⟩
        clear hfr hlp
        have M_p_t : Hid (g_p ≠ g_t) := Lib.hid (by omega)
        have M_t_p : Hid (g_t ≠ g_p) := Lib.hid (by omega)
        clear hl_p
        have M_r_t : Hid (g_r ≠ g_t) := Lib.hid (by omega)
        have M_t_r : Hid (g_t ≠ g_r) := Lib.hid (by omega)
        clear hl_r
        have L_t : Hid (w.heap.size ≤ g_t) := Lib.hid (by omega)
        have D_t : Hid (g_t ∉ RT PK.bc PK.bx PK.gq) := Lib.hid (by simp; omega)
        clear hg_t hlB
        clear hlr1 hlr2 hlr3
        have HPc := Lib.hid (begR_pc (s := ps) (mk := mk) (n := n) (S := S) (ch := ⟨cA, 0, kc⟩) HlS.out)
        have zr := lt_of_heap H_r.out
        have zt := lt_of_heap H_t.out
        obtain ⟨t0', t1', t2', _⟩ := box3 H_t.out
        cases hdn : done14 mk n S with
        | false =>
          have hno := no14_told (f := f) (e := e) (ch := ⟨cA, 0, kc⟩) hdn HlS.out
          have ht11 : tc = 11 := by have h9 := hno.2.1; rw [HT.out] at h9; exact congrArg Prod.fst h9
          subst ht11
          have hpc := HPc.out.1
          rw [hdn] at hpc
          have o7 : x3.cell? ⟨g_r, 7, none⟩ = some (.int .i64 0) := by rw [row_cell H_r.out, ← show (begR ps mk n ⟨cA, 0, kc⟩).pc = 0 from hpc]; rfl
          have o23 : x3.cell? ⟨g_r, 23, none⟩ = some (.int .i64 11) := by rw [row_cell H_r.out, ← hno.1]; rfl
          rw [hno.2.2] at HR
          clear hpc hdn hno
          go_wp2_with fail
          go_roundw
          case rel => exact ⟨k + 1, S, ws, q, by omega, by omega, by go_num, HlS.out, Hmu.out, HF.out, H_p.out, B.out, HR.out, HAp.out, Hz0.out⟩
          case measure => simp [intOf]; omega
        | true =>
          have Hdn := Lib.hid hdn
          have hpc := HPc.out.1
          rw [hdn] at hpc
          have HPc1 := Lib.hid (show (begR ps mk n ⟨cA, 0, kc⟩).pc = 1 from hpc)
          have o7 : x3.cell? ⟨g_r, 7, none⟩ = some (.int .i64 1) := by rw [row_cell H_r.out, ← HPc1.out]; rfl
          clear hpc hdn
          obtain ⟨p_0, p_1, p_2, p_3, p_f0, p_f1, p_f2, p_f3⟩ := box4 H_p.out
          have z_p := lt_of_heap H_p.out
          go_wp2_with (first | (refine wpList_load_row rfl 42 (.tmp 12) rfl g_r rfl 42 (begR ps mk n ⟨cA, 0, kc⟩).arr (0, 0) _ H_r.out undRun rfl infoRun ?_))
          refine (fstep14_any BB p b gg q f e S ws ps pt pi ph mk n ⟨cA, 0, kc⟩ _ HPl.out HF.out HlS.out Hdn.out).mono ?_
          rintro y x4 ⟨q2, rfl, hF, hq, hK⟩
          clear o7 zr zt t0' t1' t2' p_0 p_1 p_2 p_3 p_f0 p_f1 p_f2 p_f3 z_p
          have hap := HAp.out
          have hlr := HR.out.lt
          replace HR := Lib.hid (HR.out.kept hK (fun j hj hm => hap j hm |>.1 hj))
          replace HAp : Hid (∀ j ∈ PK.all M, j ∉ FsT b gg q2 ∧ j ≠ p) := Lib.hid fun j hj => ⟨notin_new (hap j hj).1 (hlr j hj) hq, (hap j hj).2⟩
          clear hap hlr
          replace H_p := Lib.hid (hK.row H_p.out (HF.out.elder E_p.out))
          have hl_r := lt_of_heap H_r.out
          have hn_r := N_r.out
          replace H_r := Lib.hid (hK.row H_r.out hn_r.1)
          replace N_r : Hid (g_r ∉ FsT b gg q2 ∧ g_r ≠ p) := Lib.hid ⟨notin_new hn_r.1 hl_r hq, hn_r.2⟩
          clear hl_r hn_r
          have hl_t := lt_of_heap H_t.out
          have hn_t := N_t.out
          replace H_t := Lib.hid (hK.row H_t.out hn_t.1)
          replace N_t : Hid (g_t ∉ FsT b gg q2 ∧ g_t ≠ p) := Lib.hid ⟨notin_new hn_t.1 hl_t hq, hn_t.2⟩
          clear hl_t hn_t
          replace B := Lib.hid (Keep.under B.out hK (by have := B.out.size; omega) (fun j hj => Nat.le_trans HBB.out (HF.out.ges j hj).1))
          replace HF := Lib.hid hF
          clear hF hq hK
          go_upto_region 16 with (refine wpList_store_row rfl 42 (.tmp 14) (.tmp 83) rfl x4.heap.size (run14 f e ps mk n S ⟨cA, 0, kc⟩).arr rfl rfl 42 ZRun (row_new _ _ _) infoRun rfl (Rn.one _) ?_; (try simp only [Act.put]); (try simp only [List.setIfInBounds_toArray]); (try simp only [List.set_cons_succ]); (try simp only [List.set_cons_zero]))
          have hlr1 := HR.out.lt PK.bc (by simp)
          have hlr2 := HR.out.lt PK.bx (by simp)
          have hlr3 := HR.out.lt PK.gq (by simp)
          refine alloc_set' x4 _ _ _ ?_
          intro x5 hr hb
          have hlB := B.out.size
          have hfr := HF.out.fresh (Nat.le_refl x4.heap.size)
          have hlp := HF.out.lt.1
          have hl_p := lt_of_heap H_p.out
          have hl_r := lt_of_heap H_r.out
          have hl_t := lt_of_heap H_t.out
          replace HR := Lib.hid (HR.out.below hb)
          replace HF := Lib.hid (HF.out.below hb)
          have hsz := (hb).size
          replace H_p := Lib.hid (row_below H_p.out hb)
          replace H_r := Lib.hid (row_below H_r.out hb)
          replace H_t := Lib.hid (row_below H_t.out hb)
          replace B := Lib.hid (below_only B.out hb)
          clear hb hsz
          have H_b := Lib.hid (show x5.heap[x4.heap.size]? = some (.cells (run14 f e ps mk n S ⟨cA, 0, kc⟩).arr 42 (0, 0)) from hr)
          clear hr
          obtain ⟨g_b, hg_b⟩ : ∃ x, x = x4.heap.size := ⟨_, rfl⟩
          rw [← hg_b] at H_b ⊢
          have N_b : Hid (g_b ∉ FsT b gg q2 ∧ g_b ≠ p) := Lib.hid ⟨by rw [hg_b]; exact hfr, by omega⟩
          clear hfr hlp
          have M_p_b : Hid (g_p ≠ g_b) := Lib.hid (by omega)
          have M_b_p : Hid (g_b ≠ g_p) := Lib.hid (by omega)
          clear hl_p
          have M_r_b : Hid (g_r ≠ g_b) := Lib.hid (by omega)
          have M_b_r : Hid (g_b ≠ g_r) := Lib.hid (by omega)
          clear hl_r
          have M_t_b : Hid (g_t ≠ g_b) := Lib.hid (by omega)
          have M_b_t : Hid (g_b ≠ g_t) := Lib.hid (by omega)
          clear hl_t
          have L_b : Hid (w.heap.size ≤ g_b) := Lib.hid (by omega)
          have D_b : Hid (g_b ∉ RT PK.bc PK.bx PK.gq) := Lib.hid (by simp; omega)
          clear hg_b hlB
          clear hlr1 hlr2 hlr3
          have hT := run14_told (f := f) (e := e) (s := ps) (ch := ⟨cA, 0, kc⟩) Hdn.out
          rw [HT.out] at hT
          have b21 : x5.cell? ⟨g_b, 21, none⟩ = some (.bool true) := by rw [row_cell H_b.out, ← hT.2.2.2.1]; rfl
          have b22 : x5.cell? ⟨g_b, 22, none⟩ = some (.bool true) := by rw [row_cell H_b.out, ← hT.2.2.2.2]; rfl
          have b23 : x5.cell? ⟨g_b, 23, none⟩ = some (.int .i64 tc) := by rw [row_cell H_b.out, ← show _ = tc from hT.1]; rfl
          have b24 : x5.cell? ⟨g_b, 24, none⟩ = some (.int .i64 tn) := by rw [row_cell H_b.out, ← show _ = tn from hT.2.1]; rfl
          have b25 : x5.cell? ⟨g_b, 25, none⟩ = some (.slice none 0 0) := by
            rw [row_cell H_b.out]
            have h9 : (run14 f e ps mk n S ⟨cA, 0, kc⟩).asaid.v = .slice none 0 0 := by rw [hT.2.2.1]
            rw [← h9]
            rfl
          obtain ⟨t0', t1', t2', _⟩ := box3 H_t.out
          have zb := lt_of_heap H_b.out
          have zt := lt_of_heap H_t.out
          clear hT
          go_wp2_with fail
          refine (rsame12_any tc tn _).mono ?_
          rintro y x6 ⟨rfl, hb⟩
          have HB21 := (hb.cell (lt_of_cell b21)).trans b21
          have HB22 := (hb.cell (lt_of_cell b22)).trans b22
          clear b21 b22 b23 b24 b25 t0' t1' t2' zb zt
          replace HR := Lib.hid (HR.out.below hb)
          replace HF := Lib.hid (HF.out.below hb)
          have hsz := (hb).size
          replace H_p := Lib.hid (row_below H_p.out hb)
          replace H_r := Lib.hid (row_below H_r.out hb)
          replace H_t := Lib.hid (row_below H_t.out hb)
          replace H_b := Lib.hid (row_below H_b.out hb)
          replace B := Lib.hid (below_only B.out hb)
          clear hb hsz
          have zb := lt_of_heap H_b.out
          have HlS2 : Hid (((does14 f e mk n S).l.length : Int) = ps) := Lib.hid (by rw [does14_len]; exact HlS.out)
          have Hmv : Hid ((words14 mk n S ws).length = m) := Lib.hid (by rw [words14_len, Hmu.out])
          have Hz2 := Lib.hid (zero_does (f := f) (e := e) (mk := mk) (n := n) Hz0.out)
          go_wp2_with fail
          go_roundw
          case rel => exact ⟨k + 1, _, _, q2, by omega, by omega, by go_num, HlS2.out, Hmv.out, HF.out, H_p.out, B.out, HR.out, HAp.out, Hz2.out⟩
          case measure => simp [intOf]; omega
    · have hex : ¬ k < L.length ∨ (k < L.length ∧ ¬ k < 40) := by omega
      rcases hex with hex | ⟨hex1, hex2⟩
      · clear hlt
        go_wp2_with fail
        go_ret
        exact ⟨rfl, B.out⟩
      · clear hlt
        have hex3 : ¬ (k : Int) < 40 := by omega
        go_wp2_with fail
        go_ret
        exact ⟨rfl, B.out⟩

end Go.Proofs.Ythedndejlfkknaa
