/- Layer 17: the walk of EnterWaits. -/
import Derived.Test.YtconieenkeajiaaEnterF
namespace Go.Proofs.Ytconieenkeajiaa
open Go.RowKit
set_option linter.unusedVariables false
set_option linter.unusedSimpArgs false

theorem set_one {P : World → Prop} (W : World) (g i : Nat) (u : Value) (cs : Array Value) (t : TypeId) (h : W.heap[g]? = some (.cells cs t (0, 0)))
    (K : ∀ Y, Y.heap[g]? = some (.cells (cs.setIfInBounds i u) t (0, 0)) → Keep [g] W Y → P Y) : P (W.setCell ⟨g, i, none⟩ u) :=
  K _ (row_set h u) ((Keep.refl [g] W).setCell (p := ⟨g, i, none⟩) (.inl (by simp)) u)
theorem enter_drain {c : Ctl} (hr : Right c) (hs : c.st = 3) {a : Int} (ha : 0 ≤ a ∧ a ≤ 3) : enter c a = (noCtl, 10) := by
  obtain ⟨s, n, p, e⟩ := c
  simp only at hs
  subst hs
  rw [enter_ok hr (by omega), if_neg (by decide), if_pos rfl]
theorem enter_idle (g a : Int) (hg : 0 ≤ g ∧ g ≤ 16777215) (ha : 0 ≤ a ∧ a ≤ 3) : enter ⟨1, 0, -1, g⟩ a = (⟨2, 1, a, g⟩, 0) := by
  rw [enter_ok ⟨hg.1, hg.2, .inl ⟨.inr rfl, rfl, rfl⟩⟩ (by omega), if_neg (by decide), if_neg (by decide), if_pos rfl]
theorem open_drain {c : Ctl} (hr : Right c) (hs : c.st = 3) : openC c = (⟨1, 0, -1, (c.ep + 1) % 16777216⟩, 0) := by
  have h : ofState c 3 = 0 := by unfold ofState; rw [if_neg (fun h => h hr), if_neg (fun h => h hs)]
  unfold openC
  rw [if_neg (fun h' => h' h)]

set_option maxRecDepth 100000 in
set_option maxHeartbeats 4000000 in
theorem enterWaits_walk (s n q e m y : Int) (w : World) (_ : (Lit.int .i64 s).wf = true) (_ : (Lit.int .i64 n).wf = true) (_ : (Lit.int .i64 q).wf = true) (_ : (Lit.int .i64 e).wf = true) (wm : (Lit.int .u8 m).wf = true) (wy : (Lit.int .u8 y).wf = true) :
    Calls Try.prog 5 #[.agg #[.int .i64 s, .int .i64 n, .int .i64 q, .int .i64 e], .int .u8 m, .int .u8 y] w fun r w' => r = .returned (.bool true) ∧ Below w.heap.size w w' := by
  obtain ⟨y0, y1⟩ := wf_u8 wy
  obtain ⟨m0, m1⟩ := wf_u8 wm
  obtain ⟨a, ha⟩ : ∃ a, a = y % 4 := ⟨_, rfl⟩
  have a0 : 0 ≤ a ∧ a ≤ 3 := by omega
  obtain ⟨nn, hn⟩ : ∃ nn, m % 51 = nn := ⟨_, rfl⟩
  have hn' : m.tmod 51 = nn := by rw [← hn, Int.tmod_eq_emod_of_nonneg m0]
  have n0 : 0 ≤ nn := by omega
  have n1 : nn ≤ 50 := by omega
  obtain ⟨f2, f3, f4, HF⟩ : ∃ f2 f3 f4, Hid (fit ⟨3, n, q, e⟩ = ⟨3, f2, f3, f4⟩) := ⟨_, _, _, Lib.hid rfl⟩
  have Hr : Hid (Right ⟨3, f2, f3, f4⟩) := Lib.hid (by rw [← HF.out]; exact fit_right _)
  obtain ⟨g4, HG⟩ : ∃ g4, Hid ((f4 + 1) % 16777216 = g4) := ⟨_, rfl⟩
  have Hg : Hid (0 ≤ g4 ∧ g4 ≤ 16777215) := Lib.hid (by have := HG.out; omega)
  have Hro : Hid (Right ⟨1, 0, -1, g4⟩) := Lib.hid ⟨Hg.out.1, Hg.out.2, .inl ⟨.inr rfl, rfl, rfl⟩⟩
  have HOp : Hid (openC ⟨3, f2, f3, f4⟩ = (⟨1, 0, -1, g4⟩, 0)) := Lib.hid (by rw [open_drain Hr.out rfl, ← HG.out])
  have HE : Hid (enter ⟨3, f2, f3, f4⟩ a = (noCtl, 10)) := Lib.hid (enter_drain Hr.out rfl a0)
  have HE2 : Hid (enter ⟨1, 0, -1, g4⟩ a = (⟨2, 1, a, g4⟩, 0)) := Lib.hid (enter_idle g4 a Hg.out a0)
  have Hre : Hid (Right ⟨2, 1, a, g4⟩) := Lib.hid (enter_right HE2.out)
  have HP := Lib.hid (pack_right Hr.out)
  have HPo := Lib.hid (pack_right Hro.out)
  have HY := Lib.hid (word_bd Hr.out)
  have HYo := Lib.hid (word_bd Hro.out)
  obtain ⟨V, HV⟩ : ∃ x, Hid (word ⟨3, f2, f3, f4⟩ = x) := ⟨_, rfl⟩
  obtain ⟨VO, HVO⟩ : ∃ x, Hid (word ⟨1, 0, -1, g4⟩ = x) := ⟨_, rfl⟩
  obtain ⟨VE, HVE⟩ : ∃ x, Hid (word ⟨2, 1, a, g4⟩ = x) := ⟨_, rfl⟩
  rw [HV.out] at HP HY
  rw [HVO.out] at HPo HYo
  obtain ⟨WS, HWS⟩ : ∃ x, Hid (newWs 4 0 64 = x) := ⟨_, rfl⟩
  have Hk0 : Hid (WS[8]? = some 0) := Lib.hid (by rw [← HWS.out]; exact new_8.1)
  have Hl8 : Hid (8 < WS.length) := Lib.hid (by rw [← HWS.out, new40]; decide)
  have e1 : y.tmod 4 = a := by rw [ha, Int.tmod_eq_emod_of_nonneg (by omega)]
  have e1' : y % 4 = a := ha.symm
  have Hy := Lib.hid (And.intro (And.intro y0 y1) ha)
  clear ha a0 wy wm
  go_enter Try.func5, Try.ntmps5
  go_upto_region 1 with fail
  refine one_row w _ _ ?_
  intro w1 hr hb
  have B := Lib.hid (hb)
  have H_x := Lib.hid (show w1.heap[w.heap.size]? = some (.cells #[.int .i64 s, .int .i64 n, .int .i64 q, .int .i64 e] 23 (0, 0)) from hr)
  clear hr hb
  go_wp2_with fail
  refine (shown_any _).mono ?_
  rintro r w2 ⟨rfl, hb⟩
  have hsz := (hb).size
  replace H_x := Lib.hid (row_below H_x.out hb)
  replace B := Lib.hid (below_only B.out hb)
  clear hb hsz
  go_wp2_with fail
  refine (plan_any _).mono ?_
  rintro r w3 ⟨rfl, hb⟩
  have hsz := (hb).size
  replace H_x := Lib.hid (row_below H_x.out hb)
  replace B := Lib.hid (below_only B.out hb)
  clear hb hsz
  go_wp2_with fail
  refine (foundNew_any 4 4 0 64 _ PL).mono ?_
  rintro r w4 ⟨p, b, gg, rfl, hA, hlow, hb⟩
  rw [HWS.out] at hA
  have hlx := lt_of_heap H_x.out
  have hB2 := B.out.size
  have hsz := (hb).size
  replace H_x := Lib.hid (row_below H_x.out hb)
  replace B := Lib.hid (below_only B.out hb)
  clear hb hsz
  have HA : Hid (Arn w4 p b WS) := Lib.hid hA
  have Hb : Hid (w.heap.size ≤ b) := Lib.hid (by omega)
  have N_x : Hid (w.heap.size ≠ b) := Lib.hid (by omega)
  have NP_x : Hid (w.heap.size ≠ p) := Lib.hid (by omega)
  clear hA hlow hlx hB2
  obtain ⟨x_0, x_1, x_2, x_3, x_f0, x_f1, x_f2, x_f3⟩ := box4 H_x.out
  have z_x := lt_of_heap H_x.out
  go_upto_region 6 with fail
  clear x_0 x_1 x_2 x_3 x_f0 x_f1 x_f2 x_f3 z_x
  refine set_one w4 w.heap.size 0 _ _ _ H_x.out ?_
  intro w5 hr hK
  replace HA := Lib.hid (HA.out.kept hK (by simpa using fun e => NP_x.out e.symm) (by simpa using fun e => N_x.out e.symm))
  replace B := Lib.hid (Keep.under B.out hK (by have := B.out.size; omega) (by simp))
  clear H_x
  have H_x := Lib.hid (show w5.heap[w.heap.size]? = some (.cells #[.int .i64 3, .int .i64 n, .int .i64 q, .int .i64 e] 23 (0, 0)) from by simpa using hr)
  clear hr hK
  obtain ⟨x_0, x_1, x_2, x_3, x_f0, x_f1, x_f2, x_f3⟩ := box4 H_x.out
  have z_x := lt_of_heap H_x.out
  go_wp2_with fail
  clear x_0 x_1 x_2 x_3 x_f0 x_f1 x_f2 x_f3 z_x
  refine (fit_as HF _).mono ?_
  rintro r w6 ⟨rfl, hb⟩
  have hsz := (hb).size
  replace H_x := Lib.hid (row_below H_x.out hb)
  replace HA := Lib.hid (HA.out.below hb)
  replace B := Lib.hid (below_only B.out hb)
  clear hb hsz
  clear H_x N_x NP_x
  go_upto_region 7 with fail
  refine one_row w6 _ _ ?_
  intro w7 hr hb
  have hlB := B.out.size
  have hlt := lt_of_heap HA.out.row
  have hlp := lt_of_heap HA.out.box
  have hsz := (hb).size
  replace HA := Lib.hid (HA.out.below hb)
  replace B := Lib.hid (below_only B.out hb)
  clear hb hsz
  have H_c := Lib.hid (show w7.heap[w6.heap.size]? = some (.cells #[.int .i64 3, .int .i64 f2, .int .i64 f3, .int .i64 f4] 23 (0, 0)) from hr)
  clear hr
  obtain ⟨g_c, hg_c⟩ : ∃ x, x = w6.heap.size := ⟨_, rfl⟩
  rw [← hg_c] at H_c ⊢
  have N_c : Hid (g_c ≠ b) := Lib.hid (by omega)
  have NP_c : Hid (p ≠ g_c) := Lib.hid (by omega)
  clear hlt hlp
  have L_c : Hid (w.heap.size ≤ g_c) := Lib.hid (by omega)
  clear hg_c hlB
  obtain ⟨c_0, c_1, c_2, c_3, c_f0, c_f1, c_f2, c_f3⟩ := box4 H_c.out
  have z_c := lt_of_heap H_c.out
  go_wp2_with fail
  clear c_0 c_1 c_2 c_3 c_f0 c_f1 c_f2 c_f3 z_c
  refine (rpack_as HP _).mono ?_
  rintro r w8 ⟨rfl, hb⟩
  have hsz := (hb).size
  replace H_c := Lib.hid (row_below H_c.out hb)
  replace HA := Lib.hid (HA.out.below hb)
  replace B := Lib.hid (below_only B.out hb)
  clear hb hsz
  go_wp2_with fail
  refine (rplanAt_any 0 1 _ (by decide) (by decide)).mono ?_
  rintro r wa ⟨rfl, e2⟩
  rw [e2, show (64 * 1 + 8 * 0 : Int) = ((8 * 8 : Nat) : Int) by decide]
  clear e2 wa
  go_wp2_with fail
  refine (arnPut_any p b WS 8 0 V _ HA.out Hk0.out HY.out).mono ?_
  rintro r w9 ⟨rfl, hA, hK⟩
  replace H_c := Lib.hid (hK.row H_c.out (by simpa using N_c.out))
  replace HA := Lib.hid hA
  replace B := Lib.hid (Keep.under B.out hK (by have := B.out.size; omega) (by simp; exact Hb.out))
  clear hA hK
  have Hk8 : Hid ((WS.set 8 V)[8]? = some (word ⟨3, f2, f3, f4⟩)) := Lib.hid (by rw [HV.out, List.getElem?_set, if_pos rfl, if_pos Hl8.out])
  have Hk8V : Hid ((WS.set 8 V)[8]? = some V) := Lib.hid (by rw [List.getElem?_set, if_pos rfl, if_pos Hl8.out])
  go_wp2_with fail
  refine (call_any 0 y 1 a _ (by decide) Hy.out.1 (by decide) Hy.out.2).mono ?_
  rintro r w10 ⟨kc, cA, rfl, ⟨hE, hnew⟩, hb⟩
  have F_ch : Hid (∀ z, 0 < [(a, true)].length → cA = some z → z.block ≠ b) := Lib.hid fun z _ hz => by have := hnew z hz; have := lt_of_heap HA.out.row; omega
  clear hnew
  have hsz := (hb).size
  replace H_c := Lib.hid (row_below H_c.out hb)
  replace HA := Lib.hid (HA.out.below hb)
  replace B := Lib.hid (below_only B.out hb)
  clear hb hsz
  have E_ch := Lib.hid hE
  clear hE
  go_upto_region 13 with (refine wpList_store_row rfl 40 (.tmp 15) (.tmp 57) rfl w10.heap.size (callRn 1 a ⟨cA, 1, kc⟩).arr rfl rfl 40 ZRun (row_new _ _ _) infoRun rfl (Rn.one _) ?_)
  refine alloc_set' w10 _ _ _ ?_
  intro w11 hr hb
  have hlB := B.out.size
  have hlt := lt_of_heap HA.out.row
  have hlp := lt_of_heap HA.out.box
  have hl_c := lt_of_heap H_c.out
  have hf_ch := ents_far E_ch.out (Nat.le_refl w10.heap.size)
  have hsz := (hb).size
  replace H_c := Lib.hid (row_below H_c.out hb)
  replace E_ch := Lib.hid (Ents.below E_ch.out hb)
  replace HA := Lib.hid (HA.out.below hb)
  replace B := Lib.hid (below_only B.out hb)
  clear hb hsz
  have H_r := Lib.hid (show w11.heap[w10.heap.size]? = some (.cells (callRn 1 a ⟨cA, 1, kc⟩).arr 40 (0, 0)) from hr)
  clear hr
  obtain ⟨g_r, hg_r⟩ : ∃ x, x = w10.heap.size := ⟨_, rfl⟩
  rw [← hg_r] at H_r ⊢
  have N_r : Hid (g_r ≠ b) := Lib.hid (by omega)
  have NP_r : Hid (p ≠ g_r) := Lib.hid (by omega)
  clear hlt hlp
  have M_c_r : Hid (g_c ≠ g_r) := Lib.hid (by omega)
  have M_r_c : Hid (g_r ≠ g_c) := Lib.hid (by omega)
  clear hl_c
  have F_ch_r : Hid (∀ z, 0 < ([(a, true)] : List Ent).length → cA = some z → z.block ≠ g_r) := Lib.hid (by rw [hg_r]; exact hf_ch)
  clear hf_ch
  have L_r : Hid (w.heap.size ≤ g_r) := Lib.hid (by omega)
  clear hg_r hlB
  go_wp2_with fail
  go_loopw [16] (fun t wr => ∃ j : Int, 0 ≤ j ∧ j ≤ nn ∧ t = .int .i64 j ∧ wr.heap[g_c]? = some (.cells #[.int .i64 3, .int .i64 f2, .int .i64 f3, .int .i64 f4] 23 (0, 0)) ∧ wr.heap[g_r]? = some (.cells (callRn 1 a ⟨cA, 1, kc⟩).arr 40 (0, 0)) ∧ Arn wr p b (WS.set 8 V) ∧ Ents wr cA [(a, true)] ∧ Below w.heap.size w wr) (fun t _ => (nn - intOf t).toNat)
  case atStart => exact ⟨0, by omega, by omega, rfl, H_c.out, H_r.out, HA.out, E_ch.out, B.out⟩
  case round =>
    obtain ⟨j, j0, j1, rfl, hrel⟩ := hrel
    obtain ⟨hq_H_c, hq_H_r, hq_HA, hq_E_ch, hq_B⟩ := hrel
    replace H_c := Lib.hid hq_H_c
    replace H_r := Lib.hid hq_H_r
    replace HA := Lib.hid hq_HA
    replace E_ch := Lib.hid hq_E_ch
    replace B := Lib.hid hq_B
    clear hq_H_c hq_H_r hq_HA hq_E_ch hq_B
    by_cases hlt : j < nn
    · skip
      go_upto_region 16 with fail
      have Hl : Hid (lookN ⟨3, f2, f3, f4⟩ 1 a ⟨cA, 1, kc⟩ = (callRn 1 a ⟨cA, 1, kc⟩)) := Lib.hid (by unfold lookN; rw [HE.out]; rfl)
      try simp only [Act.put]
      go_cut [17, 18] from 65 to 71 (fun vd ve wx => ∃ gZ, vd = .pointer (some ⟨gZ, 0, none⟩) ∧ ve = .int .i64 0 ∧ gZ ≠ b ∧ wx.heap[gZ]? = some (.cells (callRn 1 a ⟨cA, 1, kc⟩).arr 40 (0, 0)) ∧ Arn wx p b (WS.set 8 V) ∧ Keep [b] wr wx)
      case first =>
        refine wp_region_held_drew (S := fun W' => W'.heap[g_r]? = some (.cells (callRn 1 a ⟨cA, 1, kc⟩).arr 40 (0, 0))) (by kernel_rfl) (show wr.drew.heap[g_r]? = _ from H_r.out) ?_
        intro hS
        have hA : Arn wr.drew p b (WS.set 8 V) := HA.out.drew
        have hK0 : Keep [b] wr wr.drew := (Keep.refl _ _).drew
        generalize wr.drew = y0 at hS hA hK0 ⊢
        refine wpAnyH_take_at (i := 1) (v := ?v1x1) (some 67) rfl rfl (by kernel_rfl) (by kernel_rfl) (by kernel_rfl) (fun _ _ _ h => h) (Or.inl ⟨by kernel_rfl, ?h1x1⟩) (by assumption) ?r1x1
        case h1x1 => (intro w hSw; (try dsimp only at hSw); go_simp; first | done | (with_reducible rfl))
        try simp only [Act.put]
        try simp only [List.setIfInBounds_toArray]
        try simp only [List.set_cons_succ]
        try simp only [List.set_cons_zero]
        refine wpAnyH_take_at (i := 2) (v := .agg (callRn 1 a ⟨cA, 1, kc⟩).arr) (some 68) rfl rfl (by kernel_rfl) (by kernel_rfl) (by kernel_rfl) (fun _ _ _ h => h) (yieldsIf_load_row (by kernel_rfl) 40 (.tmp 15) rfl g_r rfl (callRn 1 a ⟨cA, 1, kc⟩).arr (fun W' hW' => hW') undRun rfl infoRun) (by assumption) ?_
        try simp only [Act.put]
        try simp only [List.setIfInBounds_toArray]
        try simp only [List.set_cons_succ]
        try simp only [List.set_cons_zero]
        refine wpAnyH_ready (rs := [0, 7]) (by kernel_rfl) (by simp) ?_
        refine AllReadyH.cons rfl (fun K hK => ?_) (AllReadyH.cons rfl (fun K hK => ?_) AllReadyH.nil)
        · skip
          go_simp
          refine (plan_any _).mono ?_
          rintro e' yP ⟨rfl, hb⟩
          go_simp
          replace hA := hA.below hb
          replace hK0 := hK0.call hb
          refine hK.out _ _ (row_below hS hb) (fun hS => ?_)
          clear hK K
          try simp only [Act.put]
          try simp only [List.setIfInBounds_toArray]
          try simp only [List.set_cons_succ]
          try simp only [List.set_cons_zero]
          refine wpAnyH_ready (rs := [3, 7]) (by kernel_rfl) (by simp) ?_
          refine AllReadyH.cons rfl (fun K hK => ?_) (AllReadyH.cons rfl (fun K hK => ?_) AllReadyH.nil)
          · skip
            go_simp
            refine ((stepLook_any p b 8 (WS.set 8 V) ⟨3, f2, f3, f4⟩ 1 a ⟨cA, 1, kc⟩ _ hA Hr.out Hk8.out (by decide) (by decide)).mono fun e w' h => by rw [Hl.out] at h; exact h).mono ?_
            rintro e' yS ⟨rfl, hA1, hK1⟩
            go_simp
            replace hK0 := hK0.trans hK1
            clear hA
            have hA := hA1
            clear hA1
            refine hK.out _ _ (hK1.row hS (by simpa using N_r.out)) (fun hS => ?_)
            clear hK K
            try simp only [Act.put]
            try simp only [List.setIfInBounds_toArray]
            try simp only [List.set_cons_succ]
            try simp only [List.set_cons_zero]
            refine wpAnyH_take_at (i := 4) (v := ?v4x2) (some 65) rfl rfl (by kernel_rfl) (by kernel_rfl) (by kernel_rfl) (fun _ _ _ h => h) (Or.inl ⟨by kernel_rfl, ?h4x2⟩) (by assumption) ?r4x2
            case h4x2 => (intro w hSw; (try dsimp only at hSw); go_simp; first | done | (with_reducible rfl))
            try simp only [Act.put]
            try simp only [List.setIfInBounds_toArray]
            try simp only [List.set_cons_succ]
            try simp only [List.set_cons_zero]
            refine wpAnyH_take_at (i := 5) (v := ?v5x3) (some 70) rfl rfl (by kernel_rfl) (by kernel_rfl) (by kernel_rfl) (fun _ _ _ h => h) (Or.inl ⟨by kernel_rfl, ?h5x3⟩) (by assumption) ?r5x3
            case h5x3 => (intro w hSw; (try dsimp only at hSw); go_simp; first | done | (with_reducible rfl))
            try simp only [Act.put]
            try simp only [List.setIfInBounds_toArray]
            try simp only [List.set_cons_succ]
            try simp only [List.set_cons_zero]
            refine wpAnyH_take_at (i := 6) (v := ?v6x4) (some 71) rfl rfl (by kernel_rfl) (by kernel_rfl) (by kernel_rfl) (fun _ _ _ h => h) (Or.inl ⟨by kernel_rfl, ?h6x4⟩) (by assumption) ?r6x4
            case h6x4 => (intro w hSw; (try dsimp only at hSw); go_simp; first | done | (with_reducible rfl))
            try simp only [Act.put]
            try simp only [List.setIfInBounds_toArray]
            try simp only [List.set_cons_succ]
            try simp only [List.set_cons_zero]
            refine wpAnyH_ready (rs := [7]) (by kernel_rfl) (by simp) ?_
            refine AllReadyH.cons rfl (fun K hK => ?_) AllReadyH.nil
            refine step_alloc_run (some 17) rfl rfl rfl ?_
            refine k_alloc (fun yZ hZ hb => ?_)
            have hz1 := lt_of_heap hA.box
            have hz2 := lt_of_heap hA.row
            have hz3 := lt_of_heap hS
            have hz4 := hK0.size
            obtain ⟨gZ, HgZ⟩ : ∃ x, x = yS.heap.size := ⟨_, rfl⟩
            rw [← HgZ] at hZ hz1 hz2 hz3 hz4 ⊢
            clear HgZ
            have hq1 : p ≠ gZ := by omega
            have hq2 : gZ ≠ b := by omega
            have hq3 : g_r ≠ gZ := by omega
            clear hz1 hz2 hz3
            replace hA := hA.below hb
            replace hK0 := hK0.call hb
            refine hK.out _ _ (row_below hS hb) (fun hS => ?_)
            clear hK K
            try simp only [Act.put]
            try simp only [List.setIfInBounds_toArray]
            try simp only [List.set_cons_succ]
            try simp only [List.set_cons_zero]
            refine wpAnyH_ready (rs := [8]) (by kernel_rfl) (by simp) ?_
            refine AllReadyH.cons rfl (fun K hK => ?_) AllReadyH.nil
            refine step_store_row none rfl rfl 40 (.tmp 17) (.tmp 70) rfl gZ (callRn 1 a ⟨cA, 1, kc⟩).arr rfl rfl 40 ZRun hZ infoRun rfl (Rn.one _) ?_
            refine hK.out _ _ ((setRow_other _ _ _ _ hq3).trans hS) (fun hS => ?_)
            clear hK K
            try simp only [Act.put]
            try simp only [List.setIfInBounds_toArray]
            try simp only [List.set_cons_succ]
            try simp only [List.set_cons_zero]
            refine wpAnyH_take_at (i := 9) (v := ?v9x5) (some 18) rfl rfl (by kernel_rfl) (by kernel_rfl) (by kernel_rfl) (fun _ _ _ h => h) (Or.inl ⟨by kernel_rfl, ?h9x5⟩) (by assumption) ?r9x5
            case h9x5 => (intro w hSw; (try dsimp only at hSw); go_simp; first | done | (with_reducible rfl))
            try simp only [Act.put]
            try simp only [List.setIfInBounds_toArray]
            try simp only [List.set_cons_succ]
            try simp only [List.set_cons_zero]
            refine wpAnyH_done (by kernel_rfl) ?_ _
            go_wp2_with fail
            go_meet
            have hks := (Keep.refl [gZ] yZ).setRow (g := gZ) (.inl (by simp)) (callRn 1 a ⟨cA, 1, kc⟩).arr
            exact ⟨gZ, rfl, rfl, hq2, setRow_heap _ _ _ _ _ _ hZ, hA.kept hks (by simpa using hq1) (by simpa using fun e => hq2 e.symm), hK0.setRow (.inr hz4) _⟩
          · skip
            refine step_alloc_run (some 17) rfl rfl rfl ?_
            refine k_alloc (fun yZ hZ hb => ?_)
            have hz1 := lt_of_heap hA.box
            have hz2 := lt_of_heap hA.row
            have hz3 := lt_of_heap hS
            have hz4 := hK0.size
            obtain ⟨gZ, HgZ⟩ : ∃ x, x = yP.heap.size := ⟨_, rfl⟩
            rw [← HgZ] at hZ hz1 hz2 hz3 hz4 ⊢
            clear HgZ
            have hq1 : p ≠ gZ := by omega
            have hq2 : gZ ≠ b := by omega
            have hq3 : g_r ≠ gZ := by omega
            clear hz1 hz2 hz3
            replace hA := hA.below hb
            replace hK0 := hK0.call hb
            refine hK.out _ _ (row_below hS hb) (fun hS => ?_)
            clear hK K
            try simp only [Act.put]
            try simp only [List.setIfInBounds_toArray]
            try simp only [List.set_cons_succ]
            try simp only [List.set_cons_zero]
            refine wpAnyH_ready (rs := [3]) (by kernel_rfl) (by simp) ?_
            refine AllReadyH.cons rfl (fun K hK => ?_) AllReadyH.nil
            go_simp
            refine ((stepLook_any p b 8 (WS.set 8 V) ⟨3, f2, f3, f4⟩ 1 a ⟨cA, 1, kc⟩ _ hA Hr.out Hk8.out (by decide) (by decide)).mono fun e w' h => by rw [Hl.out] at h; exact h).mono ?_
            rintro e' yS ⟨rfl, hA1, hK1⟩
            go_simp
            replace hK0 := hK0.trans hK1
            replace hZ := hK1.row hZ (by simpa using hq2)
            clear hA
            have hA := hA1
            clear hA1
            refine hK.out _ _ (hK1.row hS (by simpa using N_r.out)) (fun hS => ?_)
            clear hK K
            try simp only [Act.put]
            try simp only [List.setIfInBounds_toArray]
            try simp only [List.set_cons_succ]
            try simp only [List.set_cons_zero]
            refine wpAnyH_take_at (i := 4) (v := ?v4x6) (some 65) rfl rfl (by kernel_rfl) (by kernel_rfl) (by kernel_rfl) (fun _ _ _ h => h) (Or.inl ⟨by kernel_rfl, ?h4x6⟩) (by assumption) ?r4x6
            case h4x6 => (intro w hSw; (try dsimp only at hSw); go_simp; first | done | (with_reducible rfl))
            try simp only [Act.put]
            try simp only [List.setIfInBounds_toArray]
            try simp only [List.set_cons_succ]
            try simp only [List.set_cons_zero]
            refine wpAnyH_take_at (i := 5) (v := ?v5x7) (some 70) rfl rfl (by kernel_rfl) (by kernel_rfl) (by kernel_rfl) (fun _ _ _ h => h) (Or.inl ⟨by kernel_rfl, ?h5x7⟩) (by assumption) ?r5x7
            case h5x7 => (intro w hSw; (try dsimp only at hSw); go_simp; first | done | (with_reducible rfl))
            try simp only [Act.put]
            try simp only [List.setIfInBounds_toArray]
            try simp only [List.set_cons_succ]
            try simp only [List.set_cons_zero]
            refine wpAnyH_take_at (i := 6) (v := ?v6x8) (some 71) rfl rfl (by kernel_rfl) (by kernel_rfl) (by kernel_rfl) (fun _ _ _ h => h) (Or.inl ⟨by kernel_rfl, ?h6x8⟩) (by assumption) ?r6x8
            case h6x8 => (intro w hSw; (try dsimp only at hSw); go_simp; first | done | (with_reducible rfl))
            try simp only [Act.put]
            try simp only [List.setIfInBounds_toArray]
            try simp only [List.set_cons_succ]
            try simp only [List.set_cons_zero]
            refine wpAnyH_ready (rs := [8]) (by kernel_rfl) (by simp) ?_
            refine AllReadyH.cons rfl (fun K hK => ?_) AllReadyH.nil
            refine step_store_row none rfl rfl 40 (.tmp 17) (.tmp 70) rfl gZ (callRn 1 a ⟨cA, 1, kc⟩).arr rfl rfl 40 ZRun hZ infoRun rfl (Rn.one _) ?_
            refine hK.out _ _ ((setRow_other _ _ _ _ hq3).trans hS) (fun hS => ?_)
            clear hK K
            try simp only [Act.put]
            try simp only [List.setIfInBounds_toArray]
            try simp only [List.set_cons_succ]
            try simp only [List.set_cons_zero]
            refine wpAnyH_take_at (i := 9) (v := ?v9x9) (some 18) rfl rfl (by kernel_rfl) (by kernel_rfl) (by kernel_rfl) (fun _ _ _ h => h) (Or.inl ⟨by kernel_rfl, ?h9x9⟩) (by assumption) ?r9x9
            case h9x9 => (intro w hSw; (try dsimp only at hSw); go_simp; first | done | (with_reducible rfl))
            try simp only [Act.put]
            try simp only [List.setIfInBounds_toArray]
            try simp only [List.set_cons_succ]
            try simp only [List.set_cons_zero]
            refine wpAnyH_done (by kernel_rfl) ?_ _
            go_wp2_with fail
            go_meet
            have hks := (Keep.refl [gZ] yS).setRow (g := gZ) (.inl (by simp)) (callRn 1 a ⟨cA, 1, kc⟩).arr
            exact ⟨gZ, rfl, rfl, hq2, setRow_heap _ _ _ _ _ _ hZ, hA.kept hks (by simpa using hq1) (by simpa using fun e => hq2 e.symm), hK0.setRow (.inr hz4) _⟩
        · skip
          refine step_alloc_run (some 17) rfl rfl rfl ?_
          refine k_alloc (fun yZ hZ hb => ?_)
          have hz1 := lt_of_heap hA.box
          have hz2 := lt_of_heap hA.row
          have hz3 := lt_of_heap hS
          have hz4 := hK0.size
          obtain ⟨gZ, HgZ⟩ : ∃ x, x = y0.heap.size := ⟨_, rfl⟩
          rw [← HgZ] at hZ hz1 hz2 hz3 hz4 ⊢
          clear HgZ
          have hq1 : p ≠ gZ := by omega
          have hq2 : gZ ≠ b := by omega
          have hq3 : g_r ≠ gZ := by omega
          clear hz1 hz2 hz3
          replace hA := hA.below hb
          replace hK0 := hK0.call hb
          refine hK.out _ _ (row_below hS hb) (fun hS => ?_)
          clear hK K
          try simp only [Act.put]
          try simp only [List.setIfInBounds_toArray]
          try simp only [List.set_cons_succ]
          try simp only [List.set_cons_zero]
          refine wpAnyH_ready (rs := [0]) (by kernel_rfl) (by simp) ?_
          refine AllReadyH.cons rfl (fun K hK => ?_) AllReadyH.nil
          go_simp
          refine (plan_any _).mono ?_
          rintro e' yP ⟨rfl, hb⟩
          go_simp
          replace hA := hA.below hb
          replace hK0 := hK0.call hb
          replace hZ := row_below hZ hb
          refine hK.out _ _ (row_below hS hb) (fun hS => ?_)
          clear hK K
          try simp only [Act.put]
          try simp only [List.setIfInBounds_toArray]
          try simp only [List.set_cons_succ]
          try simp only [List.set_cons_zero]
          refine wpAnyH_ready (rs := [3]) (by kernel_rfl) (by simp) ?_
          refine AllReadyH.cons rfl (fun K hK => ?_) AllReadyH.nil
          go_simp
          refine ((stepLook_any p b 8 (WS.set 8 V) ⟨3, f2, f3, f4⟩ 1 a ⟨cA, 1, kc⟩ _ hA Hr.out Hk8.out (by decide) (by decide)).mono fun e w' h => by rw [Hl.out] at h; exact h).mono ?_
          rintro e' yS ⟨rfl, hA1, hK1⟩
          go_simp
          replace hK0 := hK0.trans hK1
          replace hZ := hK1.row hZ (by simpa using hq2)
          clear hA
          have hA := hA1
          clear hA1
          refine hK.out _ _ (hK1.row hS (by simpa using N_r.out)) (fun hS => ?_)
          clear hK K
          try simp only [Act.put]
          try simp only [List.setIfInBounds_toArray]
          try simp only [List.set_cons_succ]
          try simp only [List.set_cons_zero]
          refine wpAnyH_take_at (i := 4) (v := ?v4x10) (some 65) rfl rfl (by kernel_rfl) (by kernel_rfl) (by kernel_rfl) (fun _ _ _ h => h) (Or.inl ⟨by kernel_rfl, ?h4x10⟩) (by assumption) ?r4x10
          case h4x10 => (intro w hSw; (try dsimp only at hSw); go_simp; first | done | (with_reducible rfl))
          try simp only [Act.put]
          try simp only [List.setIfInBounds_toArray]
          try simp only [List.set_cons_succ]
          try simp only [List.set_cons_zero]
          refine wpAnyH_take_at (i := 5) (v := ?v5x11) (some 70) rfl rfl (by kernel_rfl) (by kernel_rfl) (by kernel_rfl) (fun _ _ _ h => h) (Or.inl ⟨by kernel_rfl, ?h5x11⟩) (by assumption) ?r5x11
          case h5x11 => (intro w hSw; (try dsimp only at hSw); go_simp; first | done | (with_reducible rfl))
          try simp only [Act.put]
          try simp only [List.setIfInBounds_toArray]
          try simp only [List.set_cons_succ]
          try simp only [List.set_cons_zero]
          refine wpAnyH_take_at (i := 6) (v := ?v6x12) (some 71) rfl rfl (by kernel_rfl) (by kernel_rfl) (by kernel_rfl) (fun _ _ _ h => h) (Or.inl ⟨by kernel_rfl, ?h6x12⟩) (by assumption) ?r6x12
          case h6x12 => (intro w hSw; (try dsimp only at hSw); go_simp; first | done | (with_reducible rfl))
          try simp only [Act.put]
          try simp only [List.setIfInBounds_toArray]
          try simp only [List.set_cons_succ]
          try simp only [List.set_cons_zero]
          refine wpAnyH_ready (rs := [8]) (by kernel_rfl) (by simp) ?_
          refine AllReadyH.cons rfl (fun K hK => ?_) AllReadyH.nil
          refine step_store_row none rfl rfl 40 (.tmp 17) (.tmp 70) rfl gZ (callRn 1 a ⟨cA, 1, kc⟩).arr rfl rfl 40 ZRun hZ infoRun rfl (Rn.one _) ?_
          refine hK.out _ _ ((setRow_other _ _ _ _ hq3).trans hS) (fun hS => ?_)
          clear hK K
          try simp only [Act.put]
          try simp only [List.setIfInBounds_toArray]
          try simp only [List.set_cons_succ]
          try simp only [List.set_cons_zero]
          refine wpAnyH_take_at (i := 9) (v := ?v9x13) (some 18) rfl rfl (by kernel_rfl) (by kernel_rfl) (by kernel_rfl) (fun _ _ _ h => h) (Or.inl ⟨by kernel_rfl, ?h9x13⟩) (by assumption) ?r9x13
          case h9x13 => (intro w hSw; (try dsimp only at hSw); go_simp; first | done | (with_reducible rfl))
          try simp only [Act.put]
          try simp only [List.setIfInBounds_toArray]
          try simp only [List.set_cons_succ]
          try simp only [List.set_cons_zero]
          refine wpAnyH_done (by kernel_rfl) ?_ _
          go_wp2_with fail
          go_meet
          have hks := (Keep.refl [gZ] yS).setRow (g := gZ) (.inl (by simp)) (callRn 1 a ⟨cA, 1, kc⟩).arr
          exact ⟨gZ, rfl, rfl, hq2, setRow_heap _ _ _ _ _ _ hZ, hA.kept hks (by simpa using hq1) (by simpa using fun e => hq2 e.symm), hK0.setRow (.inr hz4) _⟩
      case rest =>
        obtain ⟨g_o, rfl, rfl, hgb, hRr, hA, hK⟩ := hcut
        obtain ⟨x2, hwx⟩ : ∃ x, x = wc := ⟨_, rfl⟩
        subst hwx
        have N_o := Lib.hid hgb
        clear hgb
        replace H_c := Lib.hid (hK.row H_c.out (by simpa using N_c.out))
        replace H_r := Lib.hid (hK.row H_r.out (by simpa using N_r.out))
        replace E_ch := Lib.hid (ents_kept E_ch.out hK (by simpa using F_ch.out))
        replace HA := Lib.hid hA
        replace B := Lib.hid (Keep.under B.out hK (by have := B.out.size; omega) (by simp; exact Hb.out))
        clear hA hK
        have H_o := Lib.hid (show x2.heap[g_o]? = some (.cells (callRn 1 a ⟨cA, 1, kc⟩).arr 40 (0, 0)) from hRr)
        clear hRr
        go_wp2_with fail
        refine (arnWord_any p b (WS.set 8 V) 8 V _ HA.out Hk8V.out).mono ?_
        rintro r x3 ⟨rfl, e2⟩
        rw [e2]
        clear e2 x3
        go_wp2_with (first | refine wpList_load_row rfl 40 (.tmp 17) rfl g_o rfl 40 (callRn 1 a ⟨cA, 1, kc⟩).arr (0, 0) _ H_o.out undRun rfl infoRun ?_ | refine wpList_load_row rfl 40 (.tmp 15) rfl g_r rfl 40 (callRn 1 a ⟨cA, 1, kc⟩).arr (0, 0) _ H_r.out undRun rfl infoRun ?_)
        refine (same_self (callRn 1 a ⟨cA, 1, kc⟩) cA kc [(a, true)] _ rfl (by simp) E_ch.out rfl rfl rfl).mono ?_
        rintro r x4 ⟨rfl, hb⟩
        have hsz := (hb).size
        replace H_c := Lib.hid (row_below H_c.out hb)
        replace H_r := Lib.hid (row_below H_r.out hb)
        replace H_o := Lib.hid (row_below H_o.out hb)
        replace E_ch := Lib.hid (Ents.below E_ch.out hb)
        replace HA := Lib.hid (HA.out.below hb)
        replace B := Lib.hid (below_only B.out hb)
        clear hb hsz
        go_wp2_with fail
        go_roundw
        case rel => exact ⟨j + 1, by omega, by omega, by go_num, H_c.out, H_r.out, HA.out, E_ch.out, B.out⟩
        case measure => simp [intOf]; omega
    · skip
      obtain ⟨c_0, c_1, c_2, c_3, c_f0, c_f1, c_f2, c_f3⟩ := box4 H_c.out
      have z_c := lt_of_heap H_c.out
      go_wp2_with fail
      clear c_0 c_1 c_2 c_3 c_f0 c_f1 c_f2 c_f3 z_c
      clear hlt j0 j1
      refine (ropen_as HOp _).mono ?_
      rintro r x1 ⟨rfl, hb⟩
      have hsz := (hb).size
      replace H_c := Lib.hid (row_below H_c.out hb)
      replace H_r := Lib.hid (row_below H_r.out hb)
      replace E_ch := Lib.hid (Ents.below E_ch.out hb)
      replace HA := Lib.hid (HA.out.below hb)
      replace B := Lib.hid (below_only B.out hb)
      clear hb hsz
      clear H_c
      go_upto_region 22 with fail
      refine one_row x1 _ _ ?_
      intro x2 hr hb
      have hlB := B.out.size
      have hlt := lt_of_heap HA.out.row
      have hlp := lt_of_heap HA.out.box
      have hl_r := lt_of_heap H_r.out
      have hf_ch := ents_far E_ch.out (Nat.le_refl x1.heap.size)
      have hsz := (hb).size
      replace H_r := Lib.hid (row_below H_r.out hb)
      replace E_ch := Lib.hid (Ents.below E_ch.out hb)
      replace HA := Lib.hid (HA.out.below hb)
      replace B := Lib.hid (below_only B.out hb)
      clear hb hsz
      have H_g := Lib.hid (show x2.heap[x1.heap.size]? = some (.cells #[.int .i64 1, .int .i64 0, .int .i64 (-1), .int .i64 g4] 23 (0, 0)) from hr)
      clear hr
      obtain ⟨g_g, hg_g⟩ : ∃ x, x = x1.heap.size := ⟨_, rfl⟩
      rw [← hg_g] at H_g ⊢
      have N_g : Hid (g_g ≠ b) := Lib.hid (by omega)
      have NP_g : Hid (p ≠ g_g) := Lib.hid (by omega)
      clear hlt hlp
      have M_r_g : Hid (g_r ≠ g_g) := Lib.hid (by omega)
      have M_g_r : Hid (g_g ≠ g_r) := Lib.hid (by omega)
      clear hl_r
      have F_ch_g : Hid (∀ z, 0 < ([(a, true)] : List Ent).length → cA = some z → z.block ≠ g_g) := Lib.hid (by rw [hg_g]; exact hf_ch)
      clear hf_ch
      have L_g : Hid (w.heap.size ≤ g_g) := Lib.hid (by omega)
      clear hg_g hlB
      obtain ⟨g_0, g_1, g_2, g_3, g_f0, g_f1, g_f2, g_f3⟩ := box4 H_g.out
      have z_g := lt_of_heap H_g.out
      go_wp2_with fail
      clear g_0 g_1 g_2 g_3 g_f0 g_f1 g_f2 g_f3 z_g
      refine (rpack_as HPo _).mono ?_
      rintro r x3 ⟨rfl, hb⟩
      have hsz := (hb).size
      replace H_r := Lib.hid (row_below H_r.out hb)
      replace H_g := Lib.hid (row_below H_g.out hb)
      replace E_ch := Lib.hid (Ents.below E_ch.out hb)
      replace HA := Lib.hid (HA.out.below hb)
      replace B := Lib.hid (below_only B.out hb)
      clear hb hsz
      go_wp2_with fail
      refine (arnPut_any p b (WS.set 8 V) 8 V VO _ HA.out Hk8V.out HYo.out).mono ?_
      rintro r x4 ⟨rfl, hA, hK⟩
      replace H_r := Lib.hid (hK.row H_r.out (by simpa using N_r.out))
      replace H_g := Lib.hid (hK.row H_g.out (by simpa using N_g.out))
      replace E_ch := Lib.hid (ents_kept E_ch.out hK (by simpa using F_ch.out))
      replace HA := Lib.hid hA
      replace B := Lib.hid (Keep.under B.out hK (by have := B.out.size; omega) (by simp; exact Hb.out))
      clear hA hK
      obtain ⟨W2, HW2⟩ : ∃ x, Hid ((WS.set 8 V).set 8 VO = x) := ⟨_, rfl⟩
      have hl2 : 8 < ((WS.set 8 V).set 8 VO).length := by simpa using Hl8.out
      rw [HW2.out] at HA hl2
      have Hk2 : Hid (W2[8]? = some (word ⟨1, 0, -1, g4⟩)) := Lib.hid (by rw [← HW2.out, HVO.out, List.getElem?_set, if_pos rfl, if_pos (by simpa using Hl8.out)])
      have HlW : Hid (8 < W2.length) := Lib.hid hl2
      clear hl2
      go_wp2_with fail
      obtain ⟨RR, HRR⟩ : ∃ f : Rn, True := ⟨(callRn 1 a ⟨cA, 1, kc⟩), trivial⟩
      clear HRR RR
      go_loopw [24] (fun t wr => ∃ (j : Int) (rr : Rn) (ws : List Int), t = .int .i64 j ∧ (j = 0 ∧ rr = (callRn 1 a ⟨cA, 1, kc⟩) ∧ ws = W2 ∨ j = 1 ∧ rr = (wayR 1 a ⟨cA, 1, kc⟩ VO VE) ∧ ws = W2 ∨ j = 2 ∧ rr = (toldR (wayR 1 a ⟨cA, 1, kc⟩ VO VE) 0 0 noS) ∧ ws = W2.set 8 VE) ∧ wr.heap[g_r]? = some (.cells rr.arr 40 (0, 0)) ∧ wr.heap[g_g]? = some (.cells #[.int .i64 1, .int .i64 0, .int .i64 (-1), .int .i64 g4] 23 (0, 0)) ∧ Arn wr p b ws ∧ Ents wr cA [(a, true)] ∧ Below w.heap.size w wr) (fun t _ => (2 - intOf t).toNat)
      case atStart => exact ⟨0, _, _, rfl, .inl ⟨rfl, rfl, rfl⟩, H_r.out, H_g.out, HA.out, E_ch.out, B.out⟩
      case round =>
        obtain ⟨j, rr, ws, rfl, hj, hq_r, hrel⟩ := hrel
        obtain ⟨hq_H_g, hq_HA, hq_E_ch, hq_B⟩ := hrel
        replace H_g := Lib.hid hq_H_g
        replace HA := Lib.hid hq_HA
        replace E_ch := Lib.hid hq_E_ch
        replace B := Lib.hid hq_B
        clear hq_H_g hq_HA hq_E_ch hq_B
        replace H_r := Lib.hid hq_r
        clear hq_r
        rcases hj with ⟨rfl, rfl, hws⟩ | ⟨rfl, rfl, hws⟩ | ⟨rfl, rfl, hws⟩
        all_goals (rw [hws] at HA; clear hws)
        · skip
          have M_g_r : Hid (g_g ≠ g_r) := Lib.hid (by intro e; have h1 := H_g.out; rw [e] at h1; rw [H_r.out] at h1; simp at h1)
          have r_21 : wr.cell? ⟨g_r, 21, none⟩ = some (.bool false) := by rw [row_cell H_r.out]; rfl
          go_upto_region 29 with fail
          have Hl : Hid (lookN ⟨1, 0, -1, g4⟩ 1 a ⟨cA, 1, kc⟩ = (wayR 1 a ⟨cA, 1, kc⟩ VO VE)) := Lib.hid (by unfold lookN; rw [HE2.out, HVO.out, HVE.out]; rfl)
          clear r_21
          try simp only [Act.put]
          refine wp_region_held_drew (S := fun _ => True) (by kernel_rfl) trivial ?_
          intro hS
          have hA : Arn wr.drew p b W2 := HA.out.drew
          have hR : wr.drew.heap[g_r]? = some (.cells (callRn 1 a ⟨cA, 1, kc⟩).arr 40 (0, 0)) := H_r.out
          have hK0 : Keep [b] wr wr.drew := (Keep.refl _ _).drew
          generalize wr.drew = y0 at hA hR hK0 ⊢
          refine wpAnyH_take_at (i := 1) (v := ?v1x14) (some 114) rfl rfl (by kernel_rfl) (by kernel_rfl) (by kernel_rfl) (fun _ _ _ h => h) (Or.inl ⟨by kernel_rfl, ?h1x14⟩) (by assumption) ?r1x14
          case h1x14 => (intro w hSw; (try dsimp only at hSw); go_simp; first | done | (with_reducible rfl))
          try simp only [Act.put]
          try simp only [List.setIfInBounds_toArray]
          try simp only [List.set_cons_succ]
          try simp only [List.set_cons_zero]
          refine wpAnyH_ready (rs := [0, 2]) (by kernel_rfl) (by simp) ?_
          refine AllReadyH.cons rfl (fun K hK => ?_) (AllReadyH.cons rfl (fun K hK => ?_) AllReadyH.nil)
          · skip
            go_simp
            refine (plan_any _).mono ?_
            rintro e' yP ⟨rfl, hb⟩
            go_simp
            replace hA := hA.below hb
            replace hK0 := hK0.call hb
            replace hR := row_below hR hb
            refine hK.out _ _ (trivial) (fun hS => ?_)
            clear hK K
            try simp only [Act.put]
            try simp only [List.setIfInBounds_toArray]
            try simp only [List.set_cons_succ]
            try simp only [List.set_cons_zero]
            refine wpAnyH_ready (rs := [2]) (by kernel_rfl) (by simp) ?_
            refine AllReadyH.cons rfl (fun K hK => ?_) AllReadyH.nil
            refine step_load_row (some 115) rfl rfl 40 (.tmp 15) rfl g_r rfl 40 (callRn 1 a ⟨cA, 1, kc⟩).arr (0, 0) _ hR undRun rfl infoRun ?_
            refine hK.out _ _ (trivial) (fun hS => ?_)
            clear hK K
            try simp only [Act.put]
            try simp only [List.setIfInBounds_toArray]
            try simp only [List.set_cons_succ]
            try simp only [List.set_cons_zero]
            refine wpAnyH_ready (rs := [3]) (by kernel_rfl) (by simp) ?_
            refine AllReadyH.cons rfl (fun K hK => ?_) AllReadyH.nil
            go_simp
            refine ((stepLook_any p b 8 W2 ⟨1, 0, -1, g4⟩ 1 a ⟨cA, 1, kc⟩ _ hA Hro.out Hk2.out (by decide) (by decide)).mono fun e w' h => by rw [Hl.out] at h; exact h).mono ?_
            rintro e' yS ⟨rfl, hA1, hK1⟩
            go_simp
            replace hK0 := hK0.trans hK1
            replace hR := hK1.row hR (by simpa using N_r.out)
            clear hA
            have hA := hA1
            clear hA1
            refine hK.out _ _ (trivial) (fun hS => ?_)
            clear hK K
            try simp only [Act.put]
            try simp only [List.setIfInBounds_toArray]
            try simp only [List.set_cons_succ]
            try simp only [List.set_cons_zero]
            refine wpAnyH_take_at (i := 4) (v := ?v4x15) (some 112) rfl rfl (by kernel_rfl) (by kernel_rfl) (by kernel_rfl) (fun _ _ _ h => h) (Or.inl ⟨by kernel_rfl, ?h4x15⟩) (by assumption) ?r4x15
            case h4x15 => (intro w hSw; (try dsimp only at hSw); go_simp; first | done | (with_reducible rfl))
            try simp only [Act.put]
            try simp only [List.setIfInBounds_toArray]
            try simp only [List.set_cons_succ]
            try simp only [List.set_cons_zero]
            refine wpAnyH_take_at (i := 5) (v := ?v5x16) (some 117) rfl rfl (by kernel_rfl) (by kernel_rfl) (by kernel_rfl) (fun _ _ _ h => h) (Or.inl ⟨by kernel_rfl, ?h5x16⟩) (by assumption) ?r5x16
            case h5x16 => (intro w hSw; (try dsimp only at hSw); go_simp; first | done | (with_reducible rfl))
            try simp only [Act.put]
            try simp only [List.setIfInBounds_toArray]
            try simp only [List.set_cons_succ]
            try simp only [List.set_cons_zero]
            refine wpAnyH_take_at (i := 6) (v := ?v6x17) (some 118) rfl rfl (by kernel_rfl) (by kernel_rfl) (by kernel_rfl) (fun _ _ _ h => h) (Or.inl ⟨by kernel_rfl, ?h6x17⟩) (by assumption) ?r6x17
            case h6x17 => (intro w hSw; (try dsimp only at hSw); go_simp; first | done | (with_reducible rfl))
            try simp only [Act.put]
            try simp only [List.setIfInBounds_toArray]
            try simp only [List.set_cons_succ]
            try simp only [List.set_cons_zero]
            refine wpAnyH_ready (rs := [7]) (by kernel_rfl) (by simp) ?_
            refine AllReadyH.cons rfl (fun K hK => ?_) AllReadyH.nil
            refine step_store_row none rfl rfl 40 (.tmp 15) (.tmp 117) rfl g_r (wayR 1 a ⟨cA, 1, kc⟩ VO VE).arr rfl rfl 40 (callRn 1 a ⟨cA, 1, kc⟩).arr hR infoRun rfl (Rn.one _) ?_
            refine hK.out _ _ (trivial) (fun hS => ?_)
            clear hK K
            try simp only [Act.put]
            try simp only [List.setIfInBounds_toArray]
            try simp only [List.set_cons_succ]
            try simp only [List.set_cons_zero]
            refine wpAnyH_done (by kernel_rfl) ?_ _
            have hks := (Keep.refl [g_r] yS).setRow (g := g_r) (.inl (by simp)) (wayR 1 a ⟨cA, 1, kc⟩ VO VE).arr
            have hRr : (yS.setRow g_r (wayR 1 a ⟨cA, 1, kc⟩ VO VE).arr).heap[g_r]? = some (.cells (wayR 1 a ⟨cA, 1, kc⟩ VO VE).arr 40 (0, 0)) := setRow_heap _ _ _ _ _ _ hR
            have hA9 := hA.kept hks (by simpa using NP_r.out) (by simpa using fun e => N_r.out e.symm)
            have hK9 : Keep [b, g_r] wr (yS.setRow g_r (wayR 1 a ⟨cA, 1, kc⟩ VO VE).arr) := (hK0.mono (T := [b, g_r]) (fun i _ h => by simp at h ⊢; exact .inl h)).then hks (fun i _ h => by simp at h ⊢; exact .inr h)
            clear hA hR hK0 hks hS
            generalize (yS.setRow g_r (wayR 1 a ⟨cA, 1, kc⟩ VO VE).arr) = z2 at hRr hA9 hK9 ⊢
            have hA := hA9
            have hK := hK9
            clear hA9 hK9
            replace H_g := Lib.hid (hK.row H_g.out (by simp; exact ⟨N_g.out, M_g_r.out⟩))
            replace E_ch := Lib.hid (ents_kept E_ch.out hK (fun z h0 hz => by simp; exact ⟨F_ch.out z h0 hz, F_ch_r.out z h0 hz⟩))
            replace HA := Lib.hid hA
            replace B := Lib.hid (Keep.under B.out hK (by have := B.out.size; omega) (by simp; exact ⟨Hb.out, L_r.out⟩))
            replace H_r := Lib.hid hRr
            clear hA hK hRr
            go_wp2_with fail
            go_roundw
            case rel => exact ⟨1, _, _, rfl, .inr (.inl ⟨rfl, rfl, rfl⟩), H_r.out, H_g.out, HA.out, E_ch.out, B.out⟩
            case measure => simp [intOf]
          · skip
            refine step_load_row (some 115) rfl rfl 40 (.tmp 15) rfl g_r rfl 40 (callRn 1 a ⟨cA, 1, kc⟩).arr (0, 0) _ hR undRun rfl infoRun ?_
            refine hK.out _ _ (trivial) (fun hS => ?_)
            clear hK K
            try simp only [Act.put]
            try simp only [List.setIfInBounds_toArray]
            try simp only [List.set_cons_succ]
            try simp only [List.set_cons_zero]
            refine wpAnyH_ready (rs := [0]) (by kernel_rfl) (by simp) ?_
            refine AllReadyH.cons rfl (fun K hK => ?_) AllReadyH.nil
            go_simp
            refine (plan_any _).mono ?_
            rintro e' yP ⟨rfl, hb⟩
            go_simp
            replace hA := hA.below hb
            replace hK0 := hK0.call hb
            replace hR := row_below hR hb
            refine hK.out _ _ (trivial) (fun hS => ?_)
            clear hK K
            try simp only [Act.put]
            try simp only [List.setIfInBounds_toArray]
            try simp only [List.set_cons_succ]
            try simp only [List.set_cons_zero]
            refine wpAnyH_ready (rs := [3]) (by kernel_rfl) (by simp) ?_
            refine AllReadyH.cons rfl (fun K hK => ?_) AllReadyH.nil
            go_simp
            refine ((stepLook_any p b 8 W2 ⟨1, 0, -1, g4⟩ 1 a ⟨cA, 1, kc⟩ _ hA Hro.out Hk2.out (by decide) (by decide)).mono fun e w' h => by rw [Hl.out] at h; exact h).mono ?_
            rintro e' yS ⟨rfl, hA1, hK1⟩
            go_simp
            replace hK0 := hK0.trans hK1
            replace hR := hK1.row hR (by simpa using N_r.out)
            clear hA
            have hA := hA1
            clear hA1
            refine hK.out _ _ (trivial) (fun hS => ?_)
            clear hK K
            try simp only [Act.put]
            try simp only [List.setIfInBounds_toArray]
            try simp only [List.set_cons_succ]
            try simp only [List.set_cons_zero]
            refine wpAnyH_take_at (i := 4) (v := ?v4x18) (some 112) rfl rfl (by kernel_rfl) (by kernel_rfl) (by kernel_rfl) (fun _ _ _ h => h) (Or.inl ⟨by kernel_rfl, ?h4x18⟩) (by assumption) ?r4x18
            case h4x18 => (intro w hSw; (try dsimp only at hSw); go_simp; first | done | (with_reducible rfl))
            try simp only [Act.put]
            try simp only [List.setIfInBounds_toArray]
            try simp only [List.set_cons_succ]
            try simp only [List.set_cons_zero]
            refine wpAnyH_take_at (i := 5) (v := ?v5x19) (some 117) rfl rfl (by kernel_rfl) (by kernel_rfl) (by kernel_rfl) (fun _ _ _ h => h) (Or.inl ⟨by kernel_rfl, ?h5x19⟩) (by assumption) ?r5x19
            case h5x19 => (intro w hSw; (try dsimp only at hSw); go_simp; first | done | (with_reducible rfl))
            try simp only [Act.put]
            try simp only [List.setIfInBounds_toArray]
            try simp only [List.set_cons_succ]
            try simp only [List.set_cons_zero]
            refine wpAnyH_take_at (i := 6) (v := ?v6x20) (some 118) rfl rfl (by kernel_rfl) (by kernel_rfl) (by kernel_rfl) (fun _ _ _ h => h) (Or.inl ⟨by kernel_rfl, ?h6x20⟩) (by assumption) ?r6x20
            case h6x20 => (intro w hSw; (try dsimp only at hSw); go_simp; first | done | (with_reducible rfl))
            try simp only [Act.put]
            try simp only [List.setIfInBounds_toArray]
            try simp only [List.set_cons_succ]
            try simp only [List.set_cons_zero]
            refine wpAnyH_ready (rs := [7]) (by kernel_rfl) (by simp) ?_
            refine AllReadyH.cons rfl (fun K hK => ?_) AllReadyH.nil
            refine step_store_row none rfl rfl 40 (.tmp 15) (.tmp 117) rfl g_r (wayR 1 a ⟨cA, 1, kc⟩ VO VE).arr rfl rfl 40 (callRn 1 a ⟨cA, 1, kc⟩).arr hR infoRun rfl (Rn.one _) ?_
            refine hK.out _ _ (trivial) (fun hS => ?_)
            clear hK K
            try simp only [Act.put]
            try simp only [List.setIfInBounds_toArray]
            try simp only [List.set_cons_succ]
            try simp only [List.set_cons_zero]
            refine wpAnyH_done (by kernel_rfl) ?_ _
            have hks := (Keep.refl [g_r] yS).setRow (g := g_r) (.inl (by simp)) (wayR 1 a ⟨cA, 1, kc⟩ VO VE).arr
            have hRr : (yS.setRow g_r (wayR 1 a ⟨cA, 1, kc⟩ VO VE).arr).heap[g_r]? = some (.cells (wayR 1 a ⟨cA, 1, kc⟩ VO VE).arr 40 (0, 0)) := setRow_heap _ _ _ _ _ _ hR
            have hA9 := hA.kept hks (by simpa using NP_r.out) (by simpa using fun e => N_r.out e.symm)
            have hK9 : Keep [b, g_r] wr (yS.setRow g_r (wayR 1 a ⟨cA, 1, kc⟩ VO VE).arr) := (hK0.mono (T := [b, g_r]) (fun i _ h => by simp at h ⊢; exact .inl h)).then hks (fun i _ h => by simp at h ⊢; exact .inr h)
            clear hA hR hK0 hks hS
            generalize (yS.setRow g_r (wayR 1 a ⟨cA, 1, kc⟩ VO VE).arr) = z2 at hRr hA9 hK9 ⊢
            have hA := hA9
            have hK := hK9
            clear hA9 hK9
            replace H_g := Lib.hid (hK.row H_g.out (by simp; exact ⟨N_g.out, M_g_r.out⟩))
            replace E_ch := Lib.hid (ents_kept E_ch.out hK (fun z h0 hz => by simp; exact ⟨F_ch.out z h0 hz, F_ch_r.out z h0 hz⟩))
            replace HA := Lib.hid hA
            replace B := Lib.hid (Keep.under B.out hK (by have := B.out.size; omega) (by simp; exact ⟨Hb.out, L_r.out⟩))
            replace H_r := Lib.hid hRr
            clear hA hK hRr
            go_wp2_with fail
            go_roundw
            case rel => exact ⟨1, _, _, rfl, .inr (.inl ⟨rfl, rfl, rfl⟩), H_r.out, H_g.out, HA.out, E_ch.out, B.out⟩
            case measure => simp [intOf]
        · skip
          have M_g_r : Hid (g_g ≠ g_r) := Lib.hid (by intro e; have h1 := H_g.out; rw [e] at h1; rw [H_r.out] at h1; simp at h1)
          have r_21 : wr.cell? ⟨g_r, 21, none⟩ = some (.bool false) := by rw [row_cell H_r.out]; rfl
          go_upto_region 29 with fail
          have Hl : Hid (enterN (word ⟨1, 0, -1, g4⟩) 1 a ⟨cA, 1, kc⟩ VO VE = (toldR (wayR 1 a ⟨cA, 1, kc⟩ VO VE) 0 0 noS)) := Lib.hid (by unfold enterN; rw [HVO.out, if_pos rfl])
          clear r_21
          try simp only [Act.put]
          refine wp_region_held_drew (S := fun _ => True) (by kernel_rfl) trivial ?_
          intro hS
          have hA : Arn wr.drew p b W2 := HA.out.drew
          have hR : wr.drew.heap[g_r]? = some (.cells (wayR 1 a ⟨cA, 1, kc⟩ VO VE).arr 40 (0, 0)) := H_r.out
          have hK0 : Keep [b] wr wr.drew := (Keep.refl _ _).drew
          generalize wr.drew = y0 at hA hR hK0 ⊢
          refine wpAnyH_take_at (i := 1) (v := ?v1x21) (some 114) rfl rfl (by kernel_rfl) (by kernel_rfl) (by kernel_rfl) (fun _ _ _ h => h) (Or.inl ⟨by kernel_rfl, ?h1x21⟩) (by assumption) ?r1x21
          case h1x21 => (intro w hSw; (try dsimp only at hSw); go_simp; first | done | (with_reducible rfl))
          try simp only [Act.put]
          try simp only [List.setIfInBounds_toArray]
          try simp only [List.set_cons_succ]
          try simp only [List.set_cons_zero]
          refine wpAnyH_ready (rs := [0, 2]) (by kernel_rfl) (by simp) ?_
          refine AllReadyH.cons rfl (fun K hK => ?_) (AllReadyH.cons rfl (fun K hK => ?_) AllReadyH.nil)
          · skip
            go_simp
            refine (plan_any _).mono ?_
            rintro e' yP ⟨rfl, hb⟩
            go_simp
            replace hA := hA.below hb
            replace hK0 := hK0.call hb
            replace hR := row_below hR hb
            refine hK.out _ _ (trivial) (fun hS => ?_)
            clear hK K
            try simp only [Act.put]
            try simp only [List.setIfInBounds_toArray]
            try simp only [List.set_cons_succ]
            try simp only [List.set_cons_zero]
            refine wpAnyH_ready (rs := [2]) (by kernel_rfl) (by simp) ?_
            refine AllReadyH.cons rfl (fun K hK => ?_) AllReadyH.nil
            refine step_load_row (some 115) rfl rfl 40 (.tmp 15) rfl g_r rfl 40 (wayR 1 a ⟨cA, 1, kc⟩ VO VE).arr (0, 0) _ hR undRun rfl infoRun ?_
            refine hK.out _ _ (trivial) (fun hS => ?_)
            clear hK K
            try simp only [Act.put]
            try simp only [List.setIfInBounds_toArray]
            try simp only [List.set_cons_succ]
            try simp only [List.set_cons_zero]
            refine wpAnyH_ready (rs := [3]) (by kernel_rfl) (by simp) ?_
            refine AllReadyH.cons rfl (fun K hK => ?_) AllReadyH.nil
            go_simp
            refine ((stepEnter_any p b 8 W2 ⟨1, 0, -1, g4⟩ 1 a ⟨cA, 1, kc⟩ VO VE _ hA Hro.out Hk2.out (by decide) (by decide) (by rw [← HVE.out]; exact word_bd Hre.out)).mono fun e w' h => by rw [Hl.out, show enterW (word ⟨1, 0, -1, g4⟩) VO VE = VE by unfold enterW; rw [HVO.out, if_pos rfl]] at h; exact h).mono ?_
            rintro e' yS ⟨rfl, hA1, hK1⟩
            go_simp
            replace hK0 := hK0.trans hK1
            replace hR := hK1.row hR (by simpa using N_r.out)
            clear hA
            have hA := hA1
            clear hA1
            refine hK.out _ _ (trivial) (fun hS => ?_)
            clear hK K
            try simp only [Act.put]
            try simp only [List.setIfInBounds_toArray]
            try simp only [List.set_cons_succ]
            try simp only [List.set_cons_zero]
            refine wpAnyH_take_at (i := 4) (v := ?v4x22) (some 112) rfl rfl (by kernel_rfl) (by kernel_rfl) (by kernel_rfl) (fun _ _ _ h => h) (Or.inl ⟨by kernel_rfl, ?h4x22⟩) (by assumption) ?r4x22
            case h4x22 => (intro w hSw; (try dsimp only at hSw); go_simp; first | done | (with_reducible rfl))
            try simp only [Act.put]
            try simp only [List.setIfInBounds_toArray]
            try simp only [List.set_cons_succ]
            try simp only [List.set_cons_zero]
            refine wpAnyH_take_at (i := 5) (v := ?v5x23) (some 117) rfl rfl (by kernel_rfl) (by kernel_rfl) (by kernel_rfl) (fun _ _ _ h => h) (Or.inl ⟨by kernel_rfl, ?h5x23⟩) (by assumption) ?r5x23
            case h5x23 => (intro w hSw; (try dsimp only at hSw); go_simp; first | done | (with_reducible rfl))
            try simp only [Act.put]
            try simp only [List.setIfInBounds_toArray]
            try simp only [List.set_cons_succ]
            try simp only [List.set_cons_zero]
            refine wpAnyH_take_at (i := 6) (v := ?v6x24) (some 118) rfl rfl (by kernel_rfl) (by kernel_rfl) (by kernel_rfl) (fun _ _ _ h => h) (Or.inl ⟨by kernel_rfl, ?h6x24⟩) (by assumption) ?r6x24
            case h6x24 => (intro w hSw; (try dsimp only at hSw); go_simp; first | done | (with_reducible rfl))
            try simp only [Act.put]
            try simp only [List.setIfInBounds_toArray]
            try simp only [List.set_cons_succ]
            try simp only [List.set_cons_zero]
            refine wpAnyH_ready (rs := [7]) (by kernel_rfl) (by simp) ?_
            refine AllReadyH.cons rfl (fun K hK => ?_) AllReadyH.nil
            refine step_store_row none rfl rfl 40 (.tmp 15) (.tmp 117) rfl g_r (toldR (wayR 1 a ⟨cA, 1, kc⟩ VO VE) 0 0 noS).arr rfl rfl 40 (wayR 1 a ⟨cA, 1, kc⟩ VO VE).arr hR infoRun rfl (Rn.one _) ?_
            refine hK.out _ _ (trivial) (fun hS => ?_)
            clear hK K
            try simp only [Act.put]
            try simp only [List.setIfInBounds_toArray]
            try simp only [List.set_cons_succ]
            try simp only [List.set_cons_zero]
            refine wpAnyH_done (by kernel_rfl) ?_ _
            have hks := (Keep.refl [g_r] yS).setRow (g := g_r) (.inl (by simp)) (toldR (wayR 1 a ⟨cA, 1, kc⟩ VO VE) 0 0 noS).arr
            have hRr : (yS.setRow g_r (toldR (wayR 1 a ⟨cA, 1, kc⟩ VO VE) 0 0 noS).arr).heap[g_r]? = some (.cells (toldR (wayR 1 a ⟨cA, 1, kc⟩ VO VE) 0 0 noS).arr 40 (0, 0)) := setRow_heap _ _ _ _ _ _ hR
            have hA9 := hA.kept hks (by simpa using NP_r.out) (by simpa using fun e => N_r.out e.symm)
            have hK9 : Keep [b, g_r] wr (yS.setRow g_r (toldR (wayR 1 a ⟨cA, 1, kc⟩ VO VE) 0 0 noS).arr) := (hK0.mono (T := [b, g_r]) (fun i _ h => by simp at h ⊢; exact .inl h)).then hks (fun i _ h => by simp at h ⊢; exact .inr h)
            clear hA hR hK0 hks hS
            generalize (yS.setRow g_r (toldR (wayR 1 a ⟨cA, 1, kc⟩ VO VE) 0 0 noS).arr) = z2 at hRr hA9 hK9 ⊢
            have hA := hA9
            have hK := hK9
            clear hA9 hK9
            replace H_g := Lib.hid (hK.row H_g.out (by simp; exact ⟨N_g.out, M_g_r.out⟩))
            replace E_ch := Lib.hid (ents_kept E_ch.out hK (fun z h0 hz => by simp; exact ⟨F_ch.out z h0 hz, F_ch_r.out z h0 hz⟩))
            replace HA := Lib.hid hA
            replace B := Lib.hid (Keep.under B.out hK (by have := B.out.size; omega) (by simp; exact ⟨Hb.out, L_r.out⟩))
            replace H_r := Lib.hid hRr
            clear hA hK hRr
            go_wp2_with fail
            go_roundw
            case rel => exact ⟨2, _, _, rfl, .inr (.inr ⟨rfl, rfl, rfl⟩), H_r.out, H_g.out, HA.out, E_ch.out, B.out⟩
            case measure => simp [intOf]
          · skip
            refine step_load_row (some 115) rfl rfl 40 (.tmp 15) rfl g_r rfl 40 (wayR 1 a ⟨cA, 1, kc⟩ VO VE).arr (0, 0) _ hR undRun rfl infoRun ?_
            refine hK.out _ _ (trivial) (fun hS => ?_)
            clear hK K
            try simp only [Act.put]
            try simp only [List.setIfInBounds_toArray]
            try simp only [List.set_cons_succ]
            try simp only [List.set_cons_zero]
            refine wpAnyH_ready (rs := [0]) (by kernel_rfl) (by simp) ?_
            refine AllReadyH.cons rfl (fun K hK => ?_) AllReadyH.nil
            go_simp
            refine (plan_any _).mono ?_
            rintro e' yP ⟨rfl, hb⟩
            go_simp
            replace hA := hA.below hb
            replace hK0 := hK0.call hb
            replace hR := row_below hR hb
            refine hK.out _ _ (trivial) (fun hS => ?_)
            clear hK K
            try simp only [Act.put]
            try simp only [List.setIfInBounds_toArray]
            try simp only [List.set_cons_succ]
            try simp only [List.set_cons_zero]
            refine wpAnyH_ready (rs := [3]) (by kernel_rfl) (by simp) ?_
            refine AllReadyH.cons rfl (fun K hK => ?_) AllReadyH.nil
            go_simp
            refine ((stepEnter_any p b 8 W2 ⟨1, 0, -1, g4⟩ 1 a ⟨cA, 1, kc⟩ VO VE _ hA Hro.out Hk2.out (by decide) (by decide) (by rw [← HVE.out]; exact word_bd Hre.out)).mono fun e w' h => by rw [Hl.out, show enterW (word ⟨1, 0, -1, g4⟩) VO VE = VE by unfold enterW; rw [HVO.out, if_pos rfl]] at h; exact h).mono ?_
            rintro e' yS ⟨rfl, hA1, hK1⟩
            go_simp
            replace hK0 := hK0.trans hK1
            replace hR := hK1.row hR (by simpa using N_r.out)
            clear hA
            have hA := hA1
            clear hA1
            refine hK.out _ _ (trivial) (fun hS => ?_)
            clear hK K
            try simp only [Act.put]
            try simp only [List.setIfInBounds_toArray]
            try simp only [List.set_cons_succ]
            try simp only [List.set_cons_zero]
            refine wpAnyH_take_at (i := 4) (v := ?v4x25) (some 112) rfl rfl (by kernel_rfl) (by kernel_rfl) (by kernel_rfl) (fun _ _ _ h => h) (Or.inl ⟨by kernel_rfl, ?h4x25⟩) (by assumption) ?r4x25
            case h4x25 => (intro w hSw; (try dsimp only at hSw); go_simp; first | done | (with_reducible rfl))
            try simp only [Act.put]
            try simp only [List.setIfInBounds_toArray]
            try simp only [List.set_cons_succ]
            try simp only [List.set_cons_zero]
            refine wpAnyH_take_at (i := 5) (v := ?v5x26) (some 117) rfl rfl (by kernel_rfl) (by kernel_rfl) (by kernel_rfl) (fun _ _ _ h => h) (Or.inl ⟨by kernel_rfl, ?h5x26⟩) (by assumption) ?r5x26
            case h5x26 => (intro w hSw; (try dsimp only at hSw); go_simp; first | done | (with_reducible rfl))
            try simp only [Act.put]
            try simp only [List.setIfInBounds_toArray]
            try simp only [List.set_cons_succ]
            try simp only [List.set_cons_zero]
            refine wpAnyH_take_at (i := 6) (v := ?v6x27) (some 118) rfl rfl (by kernel_rfl) (by kernel_rfl) (by kernel_rfl) (fun _ _ _ h => h) (Or.inl ⟨by kernel_rfl, ?h6x27⟩) (by assumption) ?r6x27
            case h6x27 => (intro w hSw; (try dsimp only at hSw); go_simp; first | done | (with_reducible rfl))
            try simp only [Act.put]
            try simp only [List.setIfInBounds_toArray]
            try simp only [List.set_cons_succ]
            try simp only [List.set_cons_zero]
            refine wpAnyH_ready (rs := [7]) (by kernel_rfl) (by simp) ?_
            refine AllReadyH.cons rfl (fun K hK => ?_) AllReadyH.nil
            refine step_store_row none rfl rfl 40 (.tmp 15) (.tmp 117) rfl g_r (toldR (wayR 1 a ⟨cA, 1, kc⟩ VO VE) 0 0 noS).arr rfl rfl 40 (wayR 1 a ⟨cA, 1, kc⟩ VO VE).arr hR infoRun rfl (Rn.one _) ?_
            refine hK.out _ _ (trivial) (fun hS => ?_)
            clear hK K
            try simp only [Act.put]
            try simp only [List.setIfInBounds_toArray]
            try simp only [List.set_cons_succ]
            try simp only [List.set_cons_zero]
            refine wpAnyH_done (by kernel_rfl) ?_ _
            have hks := (Keep.refl [g_r] yS).setRow (g := g_r) (.inl (by simp)) (toldR (wayR 1 a ⟨cA, 1, kc⟩ VO VE) 0 0 noS).arr
            have hRr : (yS.setRow g_r (toldR (wayR 1 a ⟨cA, 1, kc⟩ VO VE) 0 0 noS).arr).heap[g_r]? = some (.cells (toldR (wayR 1 a ⟨cA, 1, kc⟩ VO VE) 0 0 noS).arr 40 (0, 0)) := setRow_heap _ _ _ _ _ _ hR
            have hA9 := hA.kept hks (by simpa using NP_r.out) (by simpa using fun e => N_r.out e.symm)
            have hK9 : Keep [b, g_r] wr (yS.setRow g_r (toldR (wayR 1 a ⟨cA, 1, kc⟩ VO VE) 0 0 noS).arr) := (hK0.mono (T := [b, g_r]) (fun i _ h => by simp at h ⊢; exact .inl h)).then hks (fun i _ h => by simp at h ⊢; exact .inr h)
            clear hA hR hK0 hks hS
            generalize (yS.setRow g_r (toldR (wayR 1 a ⟨cA, 1, kc⟩ VO VE) 0 0 noS).arr) = z2 at hRr hA9 hK9 ⊢
            have hA := hA9
            have hK := hK9
            clear hA9 hK9
            replace H_g := Lib.hid (hK.row H_g.out (by simp; exact ⟨N_g.out, M_g_r.out⟩))
            replace E_ch := Lib.hid (ents_kept E_ch.out hK (fun z h0 hz => by simp; exact ⟨F_ch.out z h0 hz, F_ch_r.out z h0 hz⟩))
            replace HA := Lib.hid hA
            replace B := Lib.hid (Keep.under B.out hK (by have := B.out.size; omega) (by simp; exact ⟨Hb.out, L_r.out⟩))
            replace H_r := Lib.hid hRr
            clear hA hK hRr
            go_wp2_with fail
            go_roundw
            case rel => exact ⟨2, _, _, rfl, .inr (.inr ⟨rfl, rfl, rfl⟩), H_r.out, H_g.out, HA.out, E_ch.out, B.out⟩
            case measure => simp [intOf]
        · skip
          have Hk3 : Hid ((W2.set 8 VE)[8]? = some (word ⟨2, 1, a, g4⟩)) := Lib.hid (by rw [HVE.out, List.getElem?_set, if_pos rfl, if_pos HlW.out])
          go_wp2_with fail
          refine (plan_any _).mono ?_
          rintro r z1 ⟨rfl, hb⟩
          have hsz := (hb).size
          replace H_g := Lib.hid (row_below H_g.out hb)
          replace H_r := Lib.hid (row_below H_r.out hb)
          replace E_ch := Lib.hid (Ents.below E_ch.out hb)
          replace HA := Lib.hid (HA.out.below hb)
          replace B := Lib.hid (below_only B.out hb)
          clear hb hsz
          go_wp2_with fail
          refine (foundCtl_any p b 4 4 0 64 _ 8 1 ⟨2, 1, a, g4⟩ _ PL HA.out Hre.out Hk3.out (by decide) (by decide)).mono ?_
          rintro r z2 ⟨rfl, hb⟩
          have hsz := (hb).size
          replace H_g := Lib.hid (row_below H_g.out hb)
          replace H_r := Lib.hid (row_below H_r.out hb)
          replace E_ch := Lib.hid (Ents.below E_ch.out hb)
          replace HA := Lib.hid (HA.out.below hb)
          replace B := Lib.hid (below_only B.out hb)
          clear hb hsz
          go_upto_region 31 with fail
          refine one_row z2 _ _ ?_
          intro z3 hr hb
          have hlB := B.out.size
          have hlt := lt_of_heap HA.out.row
          have hlp := lt_of_heap HA.out.box
          have hl_g := lt_of_heap H_g.out
          have hl_r := lt_of_heap H_r.out
          have hf_ch := ents_far E_ch.out (Nat.le_refl z2.heap.size)
          have hsz := (hb).size
          replace H_g := Lib.hid (row_below H_g.out hb)
          replace H_r := Lib.hid (row_below H_r.out hb)
          replace E_ch := Lib.hid (Ents.below E_ch.out hb)
          replace HA := Lib.hid (HA.out.below hb)
          replace B := Lib.hid (below_only B.out hb)
          clear hb hsz
          have H_v := Lib.hid (show z3.heap[z2.heap.size]? = some (.cells #[.int .i64 2, .int .i64 1, .int .i64 a, .int .i64 g4] 23 (0, 0)) from hr)
          clear hr
          obtain ⟨g_v, hg_v⟩ : ∃ x, x = z2.heap.size := ⟨_, rfl⟩
          rw [← hg_v] at H_v ⊢
          have N_v : Hid (g_v ≠ b) := Lib.hid (by omega)
          have NP_v : Hid (p ≠ g_v) := Lib.hid (by omega)
          clear hlt hlp
          have M_g_v : Hid (g_g ≠ g_v) := Lib.hid (by omega)
          have M_v_g : Hid (g_v ≠ g_g) := Lib.hid (by omega)
          clear hl_g
          have M_r_v : Hid (g_r ≠ g_v) := Lib.hid (by omega)
          have M_v_r : Hid (g_v ≠ g_r) := Lib.hid (by omega)
          clear hl_r
          have F_ch_v : Hid (∀ z, 0 < ([(a, true)] : List Ent).length → cA = some z → z.block ≠ g_v) := Lib.hid (by rw [hg_v]; exact hf_ch)
          clear hf_ch
          have L_v : Hid (w.heap.size ≤ g_v) := Lib.hid (by omega)
          clear hg_v hlB
          obtain ⟨v_0, v_1, v_2, v_3, v_f0, v_f1, v_f2, v_f3⟩ := box4 H_v.out
          have z_v := lt_of_heap H_v.out
          obtain ⟨g_0, g_1, g_2, g_3, g_f0, g_f1, g_f2, g_f3⟩ := box4 H_g.out
          have z_g := lt_of_heap H_g.out
          have r_21 : z3.cell? ⟨g_r, 21, none⟩ = some (.bool true) := by rw [row_cell H_r.out]; rfl
          have r_22 : z3.cell? ⟨g_r, 22, none⟩ = some (.bool true) := by rw [row_cell H_r.out]; rfl
          have r_23 : z3.cell? ⟨g_r, 23, none⟩ = some (.int .i64 0) := by rw [row_cell H_r.out]; rfl
          have B2 := B.out
          clear B
          go_wp2_with fail
          go_ret
          exact ⟨by first | rfl | simp, B2⟩

end Go.Proofs.Ytconieenkeajiaa
