/- Layer 17: the walk of EnterCounts. -/
import Derived.Test.YtconieenkeajiaaCountWay
namespace Go.Proofs.Ytconieenkeajiaa
open Go.RowKit
set_option linter.unusedVariables false
set_option linter.unusedSimpArgs false

set_option maxRecDepth 100000 in
set_option maxHeartbeats 8000000 in
theorem enterCounts_walk (ol : List Int) (m : Int) (w : World) (hol : ol.length = 30) (hob : ∀ x ∈ ol, (Lit.int .u8 x).wf = true) (wm : (Lit.int .u8 m).wf = true) :
    Calls Try.prog 4 #[.agg (ol.map (Value.int .u8)).toArray, .int .u8 m] w fun r w' => r = .returned (.bool true) ∧ Below w.heap.size w w' := by
  obtain ⟨m0, m1⟩ := wf_u8 wm
  obtain ⟨k, hk⟩ : ∃ k : Nat, (k : Int) = m % 8 := ⟨(m % 8).toNat, by omega⟩
  have k7 : k ≤ 7 := by omega
  have ek : m.tmod 8 = (k : Int) := by rw [hk, Int.tmod_eq_emod_of_nonneg m0]
  have ek' : m % 8 = (k : Int) := hk.symm
  have Hob := Lib.hid hob
  have Hol := Lib.hid hol
  obtain ⟨c1, c2, c3, c4, HC⟩ : ∃ c1 c2 c3 c4, Hid (cwC k = ⟨c1, c2, c3, c4⟩) := ⟨_, _, _, _, Lib.hid rfl⟩
  have HR : Hid (Right ⟨c1, c2, c3, c4⟩) := Lib.hid (by rw [← HC.out]; exact cwC_right k7)
  have HP := Lib.hid (pack_right HR.out)
  have HY := Lib.hid (word_bd HR.out)
  have HV : Hid (word ⟨c1, c2, c3, c4⟩ = cw k) := Lib.hid (by rw [← HC.out]; rfl)
  rw [HV.out] at HP HY
  obtain ⟨WS, HWS⟩ : ∃ x, Hid (newWs 4 0 64 = x) := ⟨_, rfl⟩
  have Hk0 : Hid (WS[8]? = some 0) := Lib.hid (by rw [← HWS.out]; exact new_8.1)
  have Hl8 : Hid (8 < WS.length) := Lib.hid (by rw [← HWS.out, new40]; decide)
  obtain ⟨oa, Hoa⟩ : ∃ x, Hid ((ol.map (Value.int .u8)).toArray = x) := ⟨_, Lib.hid rfl⟩
  rw [Hoa.out]
  clear hk wm hol hob
  go_enter Try.func4, Try.ntmps4
  go_upto_region 1 with fail
  refine one_row w _ _ ?_
  intro w1 hr hb
  have B := Lib.hid (hb)
  have H_x := Lib.hid (show w1.heap[w.heap.size]? = some (.cells oa 62 (0, 0)) from hr)
  clear hr hb
  go_wp2_with fail
  refine (shown_any _).mono ?_
  rintro r w2 ⟨rfl, hb⟩
  have hsz := (hb).size
  replace H_x := Lib.hid (row_below H_x.out hb)
  replace B := Lib.hid (below_only B.out hb)
  clear hb hsz
  go_upto_region 4 with fail
  refine one_row w2 _ _ ?_
  intro w3 hr hb
  have hlB := B.out.size
  have hl_x := lt_of_heap H_x.out
  have hsz := (hb).size
  replace H_x := Lib.hid (row_below H_x.out hb)
  replace B := Lib.hid (below_only B.out hb)
  clear hb hsz
  have H_c := Lib.hid (show w3.heap[w2.heap.size]? = some (.cells #[.int .i64 2, .int .i64 k, .int .i64 0, .int .i64 3] 23 (0, 0)) from hr)
  clear hr
  obtain ⟨g_c, hg_c⟩ : ∃ x, x = w2.heap.size := ⟨_, rfl⟩
  rw [← hg_c] at H_c ⊢
  have M_x_c : Hid (w.heap.size ≠ g_c) := Lib.hid (by omega)
  have M_c_x : Hid (g_c ≠ w.heap.size) := Lib.hid (by omega)
  clear hl_x
  have L_c : Hid (w.heap.size ≤ g_c) := Lib.hid (by omega)
  clear hg_c hlB
  obtain ⟨c_0, c_1, c_2, c_3, c_f0, c_f1, c_f2, c_f3⟩ := box4 H_c.out
  have z_c := lt_of_heap H_c.out
  go_upto_if 32 with fail
  try simp only [Act.put]
  go_cut [] from 31 to 33 (fun wx => wx.heap[g_c]? = some (.cells #[.int .i64 c1, .int .i64 c2, .int .i64 c3, .int .i64 c4] 23 (0, 0)) ∧ Keep [g_c] w3 wx)
  case first =>
    have HKo : Hid (∀ a b c d : Value, Keep [g_c] w3 ((((w3.setCell ⟨g_c, 0, none⟩ a).setCell ⟨g_c, 1, none⟩ b).setCell ⟨g_c, 2, none⟩ c).setCell ⟨g_c, 3, none⟩ d)) := Lib.hid fun a b c d => ((((Keep.refl [g_c] w3).setCell (p := ⟨g_c, 0, none⟩) (.inl (by simp)) a).setCell (p := ⟨g_c, 1, none⟩) (.inl (by simp)) b).setCell (p := ⟨g_c, 2, none⟩) (.inl (by simp)) c).setCell (p := ⟨g_c, 3, none⟩) (.inl (by simp)) d
    have hC := HC.out
    by_cases h0 : k = 0
    · have hk0 : ((k : Int) == 0) = true := by simp [h0]
      rw [h0, show cwC 0 = ⟨1, 0, -1, 3⟩ from rfl] at hC
      injection hC with h1 h2 h3 h4
      have HH := Lib.hid (And.intro h1 (And.intro h2 (And.intro h3 h4)))
      clear h0 h1 h2 h3 h4 ek ek'
      go_wp2_with fail
      go_meet
      rw [← HH.out.1, ← HH.out.2.1, ← HH.out.2.2.1, ← HH.out.2.2.2]
      exact ⟨row_four H_c.out, HKo.out _ _ _ _⟩
    · have hk0 : ((k : Int) == 0) = false := by simpa using h0
      rw [show cwC k = ⟨2, k, 0, 3⟩ from if_neg h0] at hC
      injection hC with h1 h2 h3 h4
      have HH := Lib.hid (And.intro h1 (And.intro h2 (And.intro h3 h4)))
      clear h0 h1 h2 h3 h4 ek ek'
      go_wp2_with fail
      go_meet
      rw [← HH.out.1, ← HH.out.2.1, ← HH.out.2.2.1, ← HH.out.2.2.2]
      exact ⟨H_c.out, Keep.refl _ _⟩
  case rest =>
    obtain ⟨hr, hK⟩ := hcut
    obtain ⟨w4, hwx⟩ : ∃ x, x = wc := ⟨_, rfl⟩
    subst hwx
    replace H_x := Lib.hid (hK.row H_x.out (by simpa using M_x_c.out))
    replace B := Lib.hid (Keep.under B.out hK (by have := B.out.size; omega) (by simp; exact L_c.out))
    clear H_c
    clear c_0 c_1 c_2 c_3 c_f0 c_f1 c_f2 c_f3 z_c
    have H_c := Lib.hid (show w4.heap[g_c]? = some (.cells #[.int .i64 c1, .int .i64 c2, .int .i64 c3, .int .i64 c4] 23 (0, 0)) from hr)
    clear hr hK
    go_wp2_with fail
    refine (plan_any _).mono ?_
    rintro r w5 ⟨rfl, hb⟩
    have hsz := (hb).size
    replace H_x := Lib.hid (row_below H_x.out hb)
    replace H_c := Lib.hid (row_below H_c.out hb)
    replace B := Lib.hid (below_only B.out hb)
    clear hb hsz
    go_wp2_with fail
    refine (foundNew_any 4 4 0 64 _ PL).mono ?_
    rintro r w6 ⟨p, b, gg, rfl, hA, hlow, hb⟩
    rw [HWS.out] at hA
    have hlx := lt_of_heap H_x.out
    have hlc := lt_of_heap H_c.out
    have hB2 := B.out.size
    have hsz := (hb).size
    replace H_x := Lib.hid (row_below H_x.out hb)
    replace H_c := Lib.hid (row_below H_c.out hb)
    replace B := Lib.hid (below_only B.out hb)
    clear hb hsz
    have HA : Hid (Arn w6 p b WS) := Lib.hid hA
    have Hb : Hid (w.heap.size ≤ b) := Lib.hid (by omega)
    have N_x : Hid (w.heap.size ≠ b) := Lib.hid (by omega)
    have N_c : Hid (g_c ≠ b) := Lib.hid (by omega)
    clear hA hlow hlx hlc hB2
    obtain ⟨c_0, c_1, c_2, c_3, c_f0, c_f1, c_f2, c_f3⟩ := box4 H_c.out
    have z_c := lt_of_heap H_c.out
    go_wp2_with fail
    clear c_0 c_1 c_2 c_3 c_f0 c_f1 c_f2 c_f3 z_c
    refine (rpack_as HP _).mono ?_
    rintro r w7 ⟨rfl, hb⟩
    have hsz := (hb).size
    replace H_x := Lib.hid (row_below H_x.out hb)
    replace H_c := Lib.hid (row_below H_c.out hb)
    replace HA := Lib.hid (HA.out.below hb)
    replace B := Lib.hid (below_only B.out hb)
    clear hb hsz
    clear H_c
    go_wp2_with fail
    refine (rplanAt_any 0 1 _ (by decide) (by decide)).mono ?_
    rintro r wa ⟨rfl, e2⟩
    rw [e2, show (64 * 1 + 8 * 0 : Int) = ((8 * 8 : Nat) : Int) by decide]
    clear e2 wa
    go_wp2_with fail
    refine (arnPut_any p b WS 8 0 (cw k) _ HA.out Hk0.out HY.out).mono ?_
    rintro r w8 ⟨rfl, hA, hK⟩
    replace H_x := Lib.hid (hK.row H_x.out (by simpa using N_x.out))
    replace HA := Lib.hid hA
    replace B := Lib.hid (Keep.under B.out hK (by have := B.out.size; omega) (by simp; exact Hb.out))
    clear hA hK
    go_upto_region 12 with (first | (refine wpList_build_to rfl 41 _ rfl (runs4 [zRn, zRn, zRn, zRn]) (by first | exact built_z4 | (simp only [List.map_toArray, List.map_nil]; exact built_z4)) ?_; (try simp only [Act.put]); (try simp only [List.setIfInBounds_toArray]); (try simp only [List.set_cons_succ]); (try simp only [List.set_cons_zero])) | (refine wpList_alloc_to rfl 41 rfl _ (alloc4 _) ?_; (try simp only [Act.put]); (try simp only [List.setIfInBounds_toArray]); (try simp only [List.set_cons_succ]); (try simp only [List.set_cons_zero])) | (refine wpList_store_row rfl 41 (.tmp 13) (.tmp 55) rfl w8.heap.size (runs4 [zRn, zRn, zRn, zRn]) rfl rfl 41 _ (row_new _ _ _) info4 rfl (runs_one _) ?_; (try simp only [Act.put]); (try simp only [List.setIfInBounds_toArray]); (try simp only [List.set_cons_succ]); (try simp only [List.set_cons_zero])))
    refine alloc_set' w8 _ _ _ ?_
    intro w9 hr hb
    have hlB := B.out.size
    have hlt := lt_of_heap HA.out.row
    have hlp := lt_of_heap HA.out.box
    have hl_x := lt_of_heap H_x.out
    have hsz := (hb).size
    replace H_x := Lib.hid (row_below H_x.out hb)
    replace HA := Lib.hid (HA.out.below hb)
    replace B := Lib.hid (below_only B.out hb)
    clear hb hsz
    have H_g := Lib.hid (show w9.heap[w8.heap.size]? = some (.cells (runs4 [zRn, zRn, zRn, zRn]) 41 (0, 0)) from hr)
    clear hr
    obtain ⟨g_g, hg_g⟩ : ∃ x, x = w8.heap.size := ⟨_, rfl⟩
    rw [← hg_g] at H_g ⊢
    have N_g : Hid (g_g ≠ b) := Lib.hid (by omega)
    have NP_g : Hid (p ≠ g_g) := Lib.hid (by omega)
    clear hlt hlp
    have M_x_g : Hid (w.heap.size ≠ g_g) := Lib.hid (by omega)
    have M_g_x : Hid (g_g ≠ w.heap.size) := Lib.hid (by omega)
    clear hl_x
    have L_g : Hid (w.heap.size ≤ g_g) := Lib.hid (by omega)
    clear hg_g hlB
    go_wp2_with fail
    go_loopw [14] (fun t wr => ∃ (j : Nat) (l : List Rn), j ≤ 4 ∧ t = .int .i64 j ∧ l.length = 4 ∧ (∀ t, t < j → ∃ cA kc, l[t]? = some (callRn 1 0 ⟨cA, 1, kc⟩)) ∧ wr.heap[g_g]? = some (.cells (runs4 l) 41 (0, 0)) ∧ wr.heap[w.heap.size]? = some (.cells oa 62 (0, 0)) ∧ Arn wr p b (WS.set 8 (cw k)) ∧ Below w.heap.size w wr) (fun t _ => (4 - intOf t).toNat)
    case atStart => exact ⟨0, _, by omega, rfl, rfl, fun t h => by omega, H_g.out, H_x.out, HA.out, B.out⟩
    case round =>
      obtain ⟨j, l, hj, rfl, hl4, hcl, hq_g, hrel⟩ := hrel
      obtain ⟨hq_H_x, hq_HA, hq_B⟩ := hrel
      replace H_x := Lib.hid hq_H_x
      replace HA := Lib.hid hq_HA
      replace B := Lib.hid hq_B
      clear hq_H_x hq_HA hq_B
      replace H_g := Lib.hid hq_g
      have Hcl := Lib.hid hcl
      have Hl4 := Lib.hid hl4
      clear hq_g hcl hl4
      by_cases hlt : j < 4
      · skip
        go_wp2_with fail
        refine (call_any 0 0 1 0 _ (by decide) (by decide) (by decide) (by decide)).mono ?_
        rintro r y2 ⟨kc, cA, rfl, hE, hb⟩
        clear hE
        replace H_g := Lib.hid (row_below H_g.out hb)
        have hsz := (hb).size
        replace H_x := Lib.hid (row_below H_x.out hb)
        replace HA := Lib.hid (HA.out.below hb)
        replace B := Lib.hid (below_only B.out hb)
        clear hb hsz
        have z_g := lt_of_heap H_g.out
        go_wp2_with (first | (refine wpList_store_sub rfl 40 (.tmp 62) (.tmp 61) rfl g_g (j * 26) (callRn 1 0 ⟨cA, 1, kc⟩).arr rfl rfl 41 _ H_g.out infoRun (by rw [runs_size]; have := Hl4.out; have : (callRn 1 0 ⟨cA, 1, kc⟩).arr.size = 26 := rfl; omega) (Rn.one _) ?_; (try simp only [Act.put]); (try simp only [List.setIfInBounds_toArray]); (try simp only [List.set_cons_succ]); (try simp only [List.set_cons_zero])))
        rw [runs_set (by have := Hl4.out; omega) (callRn 1 0 ⟨cA, 1, kc⟩)]
        have hK := (Keep.refl [g_g] y2).setRow (g := g_g) (.inl (by simp)) (runs4 (l.set j (callRn 1 0 ⟨cA, 1, kc⟩)))
        have hr : (y2.setRow g_g (runs4 (l.set j (callRn 1 0 ⟨cA, 1, kc⟩)))).heap[g_g]? = some (.cells (runs4 (l.set j (callRn 1 0 ⟨cA, 1, kc⟩))) 41 (0, 0)) := setRow_heap _ _ _ _ _ _ H_g.out
        generalize y2.setRow g_g (runs4 (l.set j (callRn 1 0 ⟨cA, 1, kc⟩))) = y3 at hK hr ⊢
        replace H_x := Lib.hid (hK.row H_x.out (by simpa using M_x_g.out))
        replace HA := Lib.hid (HA.out.kept hK (by simpa using NP_g.out) (by simpa using fun e => N_g.out e.symm))
        replace B := Lib.hid (Keep.under B.out hK (by have := B.out.size; omega) (by simp; exact L_g.out))
        replace H_g := Lib.hid hr
        clear hr hK z_g
        go_roundw
        case rel =>
          refine ⟨j + 1, _, by omega, by go_num, by simpa using Hl4.out, fun t ht => ?_, H_g.out, H_x.out, HA.out, B.out⟩
          by_cases e : j = t
          · subst e
            exact ⟨cA, kc, by rw [List.getElem?_set, if_pos rfl, if_pos (by have := Hl4.out; omega)]⟩
          · rw [List.getElem?_set, if_neg e]
            exact Hcl.out t (by omega)
        case measure => simp [intOf]; omega
      · skip
        have hj4 : j = 4 := by omega
        have HCor : Hid (Cor l [.F, .F, .F, .F]) := Lib.hid ⟨Hl4.out, fun t r s h1 h2 => by
          have ht : t < 4 := by have := (List.getElem?_eq_some_iff.1 h2).1; simpa using this
          obtain ⟨cA, kc, hr⟩ := Hcl.out t (by omega)
          rw [h1] at hr
          injection hr with hr
          have hs : s = .F := by
            obtain rfl | rfl | rfl | rfl : t = 0 ∨ t = 1 ∨ t = 2 ∨ t = 3 := by omega
            all_goals (simp at h2; exact h2.symm)
          rw [hs, hr]
          exact ⟨cA, kc, rfl⟩⟩
        clear Hcl Hl4 hj4
        go_wp2_with fail
        clear hlt
        go_loopw [15, 16, 17, 18] (fun va vb vc t wr => ∃ (i : Nat) (σ : List St) (l : List Rn) (inn out fails : Nat), i ≤ 70 ∧ va = .int .i64 inn ∧ vb = .int .i64 out ∧ vc = .int .i64 fails ∧ t = .int .i64 i ∧ Inv k i σ inn out fails ∧ Cor l σ ∧ wr.heap[g_g]? = some (.cells (runs4 l) 41 (0, 0)) ∧ wr.heap[w.heap.size]? = some (.cells oa 62 (0, 0)) ∧ Arn wr p b (WS.set 8 (cw (k + inn))) ∧ Below w.heap.size w wr) (fun _ _ _ t _ => (70 - intOf t).toNat)
        case atStart => exact ⟨0, [.F, .F, .F, .F], l, 0, 0, 0, by omega, rfl, rfl, rfl, rfl, Inv.start k k7, HCor.out, H_g.out, H_x.out, HA.out, B.out⟩
        case round =>
          clear HCor
          obtain ⟨i, σ, l, inn, out, fails, hi, rfl, rfl, rfl, rfl, hinv, hcor, hq_g, hrel⟩ := hrel
          obtain ⟨hq_H_x, hq_HA, hq_B⟩ := hrel
          replace H_x := Lib.hid hq_H_x
          replace HA := Lib.hid hq_HA
          replace B := Lib.hid hq_B
          clear hq_H_x hq_HA hq_B
          replace H_g := Lib.hid hq_g
          have HInv := Lib.hid hinv
          have HCor := Lib.hid hcor
          clear hq_g hinv hcor
          by_cases hlt : i < 70
          · skip
            obtain ⟨jn, hjn⟩ : ∃ jn : Nat, jn = i % 4 := ⟨_, rfl⟩
            have ej : ((i : Int)).tmod 4 = (jn : Int) := by rw [Int.tmod_eq_emod_of_nonneg (by omega)]; omega
            have ej' : (i : Int) % 4 = (jn : Int) := by omega
            have Hjn := Lib.hid hjn
            clear hjn
            go_upto_if 70 with fail
            try simp only [Act.put]
            go_cut [19, 64] from 69 to 75 (fun v vx wx => ∃ kn : Nat, v = .int .i64 kn ∧ Turn4 i kn ∧ wr = wx)
            case first =>
              by_cases h30 : i < 30
              · obtain ⟨oi, hoi⟩ : ∃ x, ol[i]? = some x := ⟨_, List.getElem?_eq_getElem (by rw [Hol.out]; exact h30)⟩
                obtain ⟨oi0, oi1⟩ := wf_u8 (Hob.out _ (List.mem_of_getElem? hoi))
                have xc : wr.cell? ⟨w.heap.size, i, none⟩ = some (.int .u8 oi) := by rw [row_cell H_x.out, ← Hoa.out, List.getElem?_toArray, List.getElem?_map, hoi]; rfl
                have zx := lt_of_heap H_x.out
                obtain ⟨on, hon⟩ : ∃ on : Nat, (on : Int) = oi % 4 := ⟨(oi % 4).toNat, by omega⟩
                have eo : oi.tmod 4 = (on : Int) := by rw [Int.tmod_eq_emod_of_nonneg oi0]; exact hon.symm
                have eo' : oi % 4 = (on : Int) := hon.symm
                have on4 : on < 4 := by omega
                have h30' : (i : Int) < 30 := by omega
                have H30 := Lib.hid h30
                clear hoi hon h30 ek ek' ej ej'
                go_wp2_with fail
                go_meet
                exact ⟨on, rfl, ⟨on4, .inl H30.out⟩, rfl⟩
              · have h30' : ¬ (i : Int) < 30 := by omega
                clear h30
                go_wp2_with fail
                go_meet
                exact ⟨jn, rfl, ⟨by have := Hjn.out; omega, .inr Hjn.out⟩, rfl⟩
            case rest =>
              obtain ⟨kn, rfl, hT4, rfl⟩ := hcut
              have HT4 := Lib.hid hT4
              have kn4 : kn < 4 := hT4.1
              have hkI : (kn : Int) < 4 := by omega
              have hkI0 : 0 ≤ (kn : Int) := by omega
              clear hT4 ej ej' Hjn
              obtain ⟨rk, hrk⟩ : ∃ r, l[kn]? = some r := ⟨_, List.getElem?_eq_getElem (by rw [HCor.out.1]; exact kn4)⟩
              obtain ⟨sk, hsk⟩ : ∃ s, σ[kn]? = some s := ⟨_, List.getElem?_eq_getElem (by rw [HInv.out.len]; exact kn4)⟩
              have Hrk := Lib.hid hrk
              have Hsk := Lib.hid hsk
              have Hck := Lib.hid (HCor.out.2 kn rk sk hrk hsk)
              obtain ⟨how, hc7⟩ := HInv.out.okw hsk
              obtain ⟨bi, bo, bf⟩ := HInv.out.bd
              have How := Lib.hid how
              have Hll := Lib.hid HCor.out.1
              clear hrk hsk how
              have z_g := lt_of_heap H_g.out
              cases sk with
              | D =>
                have g21 : wr.cell? ⟨g_g, kn * 26 + 21, none⟩ = some (.bool true) := runs_cell H_g.out Hrk.out (by rw [← show rk.done = true from Hck.out]; rfl)
                go_wp2_with fail
                go_roundw
                case rel => exact ⟨i + 1, σ, l, inn, out, fails, by omega, rfl, rfl, rfl, by go_num, HInv.out.skip HT4.out Hsk.out, HCor.out, H_g.out, H_x.out, HA.out, B.out⟩
                case measure => simp [intOf]; omega
              | F =>
                obtain ⟨cA, kc, rfl⟩ := Hck.out
                have g21 : wr.cell? ⟨g_g, kn * 26 + 21, none⟩ = some (.bool false) := runs_cell H_g.out Hrk.out rfl
                have g7 : wr.cell? ⟨g_g, kn * 26 + 7, none⟩ = some (.int .i64 13) := runs_cell H_g.out Hrk.out rfl
                have Hkc : Hid ((WS.set 8 (cw (k + inn)))[8]? = some (word (cwC (k + inn)))) := Lib.hid (by rw [List.getElem?_set, if_pos rfl, if_pos Hl8.out]; rfl)
                go_upto_region 27 with fail
                clear g21 g7
                try simp only [Act.put]
                go_cut [21, 22] from 84 to 92 (fun vd ve wx => ∃ gZ, vd = .pointer (some ⟨gZ, 0, none⟩) ∧ ve = .int .i64 0 ∧ wr.heap.size ≤ gZ ∧ wx.heap[gZ]? = some (.cells (lookN (cwC (k + inn)) 1 0 ⟨cA, 1, kc⟩).arr 40 (0, 0)) ∧ Arn wx p b (WS.set 8 (cw (k + inn))) ∧ Keep [b] wr wx)
                case first =>
                  refine wp_region_held_drew (S := fun W' => W'.heap[g_g]? = some (.cells (runs4 l) 41 (0, 0))) (by kernel_rfl) (show wr.drew.heap[g_g]? = _ from H_g.out) ?_
                  intro hS
                  have hA : Arn wr.drew p b (WS.set 8 (cw (k + inn))) := HA.out.drew
                  have hK0 : Keep [b] wr wr.drew := (Keep.refl _ _).drew
                  generalize wr.drew = y0 at hS hA hK0 ⊢
                  refine wpAnyH_take_at (i := 1) (v := ?v1x1) (some 86) rfl rfl (by kernel_rfl) (by kernel_rfl) (by kernel_rfl) (fun _ _ _ h => h) (Or.inl ⟨by kernel_rfl, ?h1x1⟩) (by assumption) ?r1x1
                  case h1x1 => (intro w hSw; (try dsimp only at hSw); go_simp; first | done | (with_reducible rfl))
                  try simp only [Act.put]
                  try simp only [List.setIfInBounds_toArray]
                  try simp only [List.set_cons_succ]
                  try simp only [List.set_cons_zero]
                  refine wpAnyH_take_at (i := 2) (v := ?v2x2) (some 87) rfl rfl (by kernel_rfl) (by kernel_rfl) (by kernel_rfl) (fun _ _ _ h => h) (Or.inl ⟨by kernel_rfl, ?h2x2⟩) (by assumption) ?r2x2
                  case h2x2 => (intro w hSw; (try dsimp only at hSw); go_simp; first | done | (with_reducible rfl))
                  try simp only [Act.put]
                  try simp only [List.setIfInBounds_toArray]
                  try simp only [List.set_cons_succ]
                  try simp only [List.set_cons_zero]
                  refine wpAnyH_take_at (i := 3) (v := ?v3x3) (some 88) rfl rfl (by kernel_rfl) (by kernel_rfl) (by kernel_rfl) (fun _ _ _ h => h) (Or.inl ⟨by kernel_rfl, ?h3x3⟩) (by assumption) ?r3x3
                  case h3x3 => (intro w hSw; (try dsimp only at hSw); go_simp; first | done | (with_reducible rfl))
                  try simp only [Act.put]
                  try simp only [List.setIfInBounds_toArray]
                  try simp only [List.set_cons_succ]
                  try simp only [List.set_cons_zero]
                  refine wpAnyH_take_at (i := 4) (v := .agg (callRn 1 0 ⟨cA, 1, kc⟩).arr) (some 89) rfl rfl (by kernel_rfl) (by kernel_rfl) (by kernel_rfl) (fun _ _ _ h => h) (yieldsIf_load_sub (by kernel_rfl) 40 (.tmp 88) rfl g_g (kn * 26) rfl (runs4 l) (callRn 1 0 ⟨cA, 1, kc⟩).arr (fun W' hW' => hW') (fun j v h => runs_get Hrk.out h) undRun rfl infoRun) (by assumption) ?_
                  try simp only [Act.put]
                  try simp only [List.setIfInBounds_toArray]
                  try simp only [List.set_cons_succ]
                  try simp only [List.set_cons_zero]
                  refine wpAnyH_ready (rs := [0, 9]) (by kernel_rfl) (by simp) ?_
                  refine AllReadyH.cons rfl (fun K hK => ?_) (AllReadyH.cons rfl (fun K hK => ?_) AllReadyH.nil)
                  · skip
                    go_simp
                    refine (plan_any _).mono ?_
                    rintro e' yP ⟨rfl, hb⟩
                    go_simp
                    replace hA := hA.below hb
                    replace hK0 := hK0.call hb
                    refine hK.out _ _ (row_below hS hb) (fun hS => ?_)
                    clear hK K
                    try simp only [Act.put]
                    try simp only [List.setIfInBounds_toArray]
                    try simp only [List.set_cons_succ]
                    try simp only [List.set_cons_zero]
                    refine wpAnyH_ready (rs := [5, 9]) (by kernel_rfl) (by simp) ?_
                    refine AllReadyH.cons rfl (fun K hK => ?_) (AllReadyH.cons rfl (fun K hK => ?_) AllReadyH.nil)
                    · skip
                      go_simp
                      refine (stepLook_any p b 8 (WS.set 8 (cw (k + inn))) (cwC (k + inn)) 1 0 ⟨cA, 1, kc⟩ _ hA (cwC_right hc7) Hkc.out (by decide) (by decide)).mono ?_
                      rintro e' yS ⟨rfl, hA1, hK1⟩
                      go_simp
                      replace hK0 := hK0.trans hK1
                      clear hA
                      have hA := hA1
                      clear hA1
                      refine hK.out _ _ (hK1.row hS (by simpa using N_g.out)) (fun hS => ?_)
                      clear hK K
                      try simp only [Act.put]
                      try simp only [List.setIfInBounds_toArray]
                      try simp only [List.set_cons_succ]
                      try simp only [List.set_cons_zero]
                      refine wpAnyH_take_at (i := 6) (v := ?v6x4) (some 84) rfl rfl (by kernel_rfl) (by kernel_rfl) (by kernel_rfl) (fun _ _ _ h => h) (Or.inl ⟨by kernel_rfl, ?h6x4⟩) (by assumption) ?r6x4
                      case h6x4 => (intro w hSw; (try dsimp only at hSw); go_simp; first | done | (with_reducible rfl))
                      try simp only [Act.put]
                      try simp only [List.setIfInBounds_toArray]
                      try simp only [List.set_cons_succ]
                      try simp only [List.set_cons_zero]
                      refine wpAnyH_take_at (i := 7) (v := ?v7x5) (some 91) rfl rfl (by kernel_rfl) (by kernel_rfl) (by kernel_rfl) (fun _ _ _ h => h) (Or.inl ⟨by kernel_rfl, ?h7x5⟩) (by assumption) ?r7x5
                      case h7x5 => (intro w hSw; (try dsimp only at hSw); go_simp; first | done | (with_reducible rfl))
                      try simp only [Act.put]
                      try simp only [List.setIfInBounds_toArray]
                      try simp only [List.set_cons_succ]
                      try simp only [List.set_cons_zero]
                      refine wpAnyH_take_at (i := 8) (v := ?v8x6) (some 92) rfl rfl (by kernel_rfl) (by kernel_rfl) (by kernel_rfl) (fun _ _ _ h => h) (Or.inl ⟨by kernel_rfl, ?h8x6⟩) (by assumption) ?r8x6
                      case h8x6 => (intro w hSw; (try dsimp only at hSw); go_simp; first | done | (with_reducible rfl))
                      try simp only [Act.put]
                      try simp only [List.setIfInBounds_toArray]
                      try simp only [List.set_cons_succ]
                      try simp only [List.set_cons_zero]
                      refine wpAnyH_ready (rs := [9]) (by kernel_rfl) (by simp) ?_
                      refine AllReadyH.cons rfl (fun K hK => ?_) AllReadyH.nil
                      refine step_alloc_run (some 21) rfl rfl rfl ?_
                      refine k_alloc (fun yZ hZ hb => ?_)
                      have hz1 := lt_of_heap hA.box
                      have hz2 := lt_of_heap hA.row
                      have hz3 := lt_of_heap hS
                      have hz4 := hK0.size
                      obtain ⟨gZ, HgZ⟩ : ∃ x, x = yS.heap.size := ⟨_, rfl⟩
                      rw [← HgZ] at hZ hz1 hz2 hz3 hz4 ⊢
                      clear HgZ
                      have hq1 : p ≠ gZ := by omega
                      have hq2 : gZ ≠ b := by omega
                      have hq3 : g_g ≠ gZ := by omega
                      clear hz1 hz2 hz3
                      replace hA := hA.below hb
                      replace hK0 := hK0.call hb
                      refine hK.out _ _ (row_below hS hb) (fun hS => ?_)
                      clear hK K
                      try simp only [Act.put]
                      try simp only [List.setIfInBounds_toArray]
                      try simp only [List.set_cons_succ]
                      try simp only [List.set_cons_zero]
                      refine wpAnyH_ready (rs := [10]) (by kernel_rfl) (by simp) ?_
                      refine AllReadyH.cons rfl (fun K hK => ?_) AllReadyH.nil
                      refine step_store_row none rfl rfl 40 (.tmp 21) (.tmp 91) rfl gZ (lookN (cwC (k + inn)) 1 0 ⟨cA, 1, kc⟩).arr rfl rfl 40 ZRun hZ infoRun rfl (Rn.one _) ?_
                      refine hK.out _ _ ((setRow_other _ _ _ _ hq3).trans hS) (fun hS => ?_)
                      clear hK K
                      try simp only [Act.put]
                      try simp only [List.setIfInBounds_toArray]
                      try simp only [List.set_cons_succ]
                      try simp only [List.set_cons_zero]
                      refine wpAnyH_take_at (i := 11) (v := ?v11x7) (some 22) rfl rfl (by kernel_rfl) (by kernel_rfl) (by kernel_rfl) (fun _ _ _ h => h) (Or.inl ⟨by kernel_rfl, ?h11x7⟩) (by assumption) ?r11x7
                      case h11x7 => (intro w hSw; (try dsimp only at hSw); go_simp; first | done | (with_reducible rfl))
                      try simp only [Act.put]
                      try simp only [List.setIfInBounds_toArray]
                      try simp only [List.set_cons_succ]
                      try simp only [List.set_cons_zero]
                      refine wpAnyH_done (by kernel_rfl) ?_ _
                      go_wp2_with fail
                      go_meet
                      have hks := (Keep.refl [gZ] yZ).setRow (g := gZ) (.inl (by simp)) (lookN (cwC (k + inn)) 1 0 ⟨cA, 1, kc⟩).arr
                      exact ⟨gZ, rfl, rfl, hz4, setRow_heap _ _ _ _ _ _ hZ, hA.kept hks (by simpa using hq1) (by simpa using fun e => hq2 e.symm), hK0.setRow (.inr hz4) _⟩
                    · skip
                      refine step_alloc_run (some 21) rfl rfl rfl ?_
                      refine k_alloc (fun yZ hZ hb => ?_)
                      have hz1 := lt_of_heap hA.box
                      have hz2 := lt_of_heap hA.row
                      have hz3 := lt_of_heap hS
                      have hz4 := hK0.size
                      obtain ⟨gZ, HgZ⟩ : ∃ x, x = yP.heap.size := ⟨_, rfl⟩
                      rw [← HgZ] at hZ hz1 hz2 hz3 hz4 ⊢
                      clear HgZ
                      have hq1 : p ≠ gZ := by omega
                      have hq2 : gZ ≠ b := by omega
                      have hq3 : g_g ≠ gZ := by omega
                      clear hz1 hz2 hz3
                      replace hA := hA.below hb
                      replace hK0 := hK0.call hb
                      refine hK.out _ _ (row_below hS hb) (fun hS => ?_)
                      clear hK K
                      try simp only [Act.put]
                      try simp only [List.setIfInBounds_toArray]
                      try simp only [List.set_cons_succ]
                      try simp only [List.set_cons_zero]
                      refine wpAnyH_ready (rs := [5]) (by kernel_rfl) (by simp) ?_
                      refine AllReadyH.cons rfl (fun K hK => ?_) AllReadyH.nil
                      go_simp
                      refine (stepLook_any p b 8 (WS.set 8 (cw (k + inn))) (cwC (k + inn)) 1 0 ⟨cA, 1, kc⟩ _ hA (cwC_right hc7) Hkc.out (by decide) (by decide)).mono ?_
                      rintro e' yS ⟨rfl, hA1, hK1⟩
                      go_simp
                      replace hK0 := hK0.trans hK1
                      replace hZ := hK1.row hZ (by simpa using hq2)
                      clear hA
                      have hA := hA1
                      clear hA1
                      refine hK.out _ _ (hK1.row hS (by simpa using N_g.out)) (fun hS => ?_)
                      clear hK K
                      try simp only [Act.put]
                      try simp only [List.setIfInBounds_toArray]
                      try simp only [List.set_cons_succ]
                      try simp only [List.set_cons_zero]
                      refine wpAnyH_take_at (i := 6) (v := ?v6x8) (some 84) rfl rfl (by kernel_rfl) (by kernel_rfl) (by kernel_rfl) (fun _ _ _ h => h) (Or.inl ⟨by kernel_rfl, ?h6x8⟩) (by assumption) ?r6x8
                      case h6x8 => (intro w hSw; (try dsimp only at hSw); go_simp; first | done | (with_reducible rfl))
                      try simp only [Act.put]
                      try simp only [List.setIfInBounds_toArray]
                      try simp only [List.set_cons_succ]
                      try simp only [List.set_cons_zero]
                      refine wpAnyH_take_at (i := 7) (v := ?v7x9) (some 91) rfl rfl (by kernel_rfl) (by kernel_rfl) (by kernel_rfl) (fun _ _ _ h => h) (Or.inl ⟨by kernel_rfl, ?h7x9⟩) (by assumption) ?r7x9
                      case h7x9 => (intro w hSw; (try dsimp only at hSw); go_simp; first | done | (with_reducible rfl))
                      try simp only [Act.put]
                      try simp only [List.setIfInBounds_toArray]
                      try simp only [List.set_cons_succ]
                      try simp only [List.set_cons_zero]
                      refine wpAnyH_take_at (i := 8) (v := ?v8x10) (some 92) rfl rfl (by kernel_rfl) (by kernel_rfl) (by kernel_rfl) (fun _ _ _ h => h) (Or.inl ⟨by kernel_rfl, ?h8x10⟩) (by assumption) ?r8x10
                      case h8x10 => (intro w hSw; (try dsimp only at hSw); go_simp; first | done | (with_reducible rfl))
                      try simp only [Act.put]
                      try simp only [List.setIfInBounds_toArray]
                      try simp only [List.set_cons_succ]
                      try simp only [List.set_cons_zero]
                      refine wpAnyH_ready (rs := [10]) (by kernel_rfl) (by simp) ?_
                      refine AllReadyH.cons rfl (fun K hK => ?_) AllReadyH.nil
                      refine step_store_row none rfl rfl 40 (.tmp 21) (.tmp 91) rfl gZ (lookN (cwC (k + inn)) 1 0 ⟨cA, 1, kc⟩).arr rfl rfl 40 ZRun hZ infoRun rfl (Rn.one _) ?_
                      refine hK.out _ _ ((setRow_other _ _ _ _ hq3).trans hS) (fun hS => ?_)
                      clear hK K
                      try simp only [Act.put]
                      try simp only [List.setIfInBounds_toArray]
                      try simp only [List.set_cons_succ]
                      try simp only [List.set_cons_zero]
                      refine wpAnyH_take_at (i := 11) (v := ?v11x11) (some 22) rfl rfl (by kernel_rfl) (by kernel_rfl) (by kernel_rfl) (fun _ _ _ h => h) (Or.inl ⟨by kernel_rfl, ?h11x11⟩) (by assumption) ?r11x11
                      case h11x11 => (intro w hSw; (try dsimp only at hSw); go_simp; first | done | (with_reducible rfl))
                      try simp only [Act.put]
                      try simp only [List.setIfInBounds_toArray]
                      try simp only [List.set_cons_succ]
                      try simp only [List.set_cons_zero]
                      refine wpAnyH_done (by kernel_rfl) ?_ _
                      go_wp2_with fail
                      go_meet
                      have hks := (Keep.refl [gZ] yS).setRow (g := gZ) (.inl (by simp)) (lookN (cwC (k + inn)) 1 0 ⟨cA, 1, kc⟩).arr
                      exact ⟨gZ, rfl, rfl, hz4, setRow_heap _ _ _ _ _ _ hZ, hA.kept hks (by simpa using hq1) (by simpa using fun e => hq2 e.symm), hK0.setRow (.inr hz4) _⟩
                  · skip
                    refine step_alloc_run (some 21) rfl rfl rfl ?_
                    refine k_alloc (fun yZ hZ hb => ?_)
                    have hz1 := lt_of_heap hA.box
                    have hz2 := lt_of_heap hA.row
                    have hz3 := lt_of_heap hS
                    have hz4 := hK0.size
                    obtain ⟨gZ, HgZ⟩ : ∃ x, x = y0.heap.size := ⟨_, rfl⟩
                    rw [← HgZ] at hZ hz1 hz2 hz3 hz4 ⊢
                    clear HgZ
                    have hq1 : p ≠ gZ := by omega
                    have hq2 : gZ ≠ b := by omega
                    have hq3 : g_g ≠ gZ := by omega
                    clear hz1 hz2 hz3
                    replace hA := hA.below hb
                    replace hK0 := hK0.call hb
                    refine hK.out _ _ (row_below hS hb) (fun hS => ?_)
                    clear hK K
                    try simp only [Act.put]
                    try simp only [List.setIfInBounds_toArray]
                    try simp only [List.set_cons_succ]
                    try simp only [List.set_cons_zero]
                    refine wpAnyH_ready (rs := [0]) (by kernel_rfl) (by simp) ?_
                    refine AllReadyH.cons rfl (fun K hK => ?_) AllReadyH.nil
                    go_simp
                    refine (plan_any _).mono ?_
                    rintro e' yP ⟨rfl, hb⟩
                    go_simp
                    replace hA := hA.below hb
                    replace hK0 := hK0.call hb
                    replace hZ := row_below hZ hb
                    refine hK.out _ _ (row_below hS hb) (fun hS => ?_)
                    clear hK K
                    try simp only [Act.put]
                    try simp only [List.setIfInBounds_toArray]
                    try simp only [List.set_cons_succ]
                    try simp only [List.set_cons_zero]
                    refine wpAnyH_ready (rs := [5]) (by kernel_rfl) (by simp) ?_
                    refine AllReadyH.cons rfl (fun K hK => ?_) AllReadyH.nil
                    go_simp
                    refine (stepLook_any p b 8 (WS.set 8 (cw (k + inn))) (cwC (k + inn)) 1 0 ⟨cA, 1, kc⟩ _ hA (cwC_right hc7) Hkc.out (by decide) (by decide)).mono ?_
                    rintro e' yS ⟨rfl, hA1, hK1⟩
                    go_simp
                    replace hK0 := hK0.trans hK1
                    replace hZ := hK1.row hZ (by simpa using hq2)
                    clear hA
                    have hA := hA1
                    clear hA1
                    refine hK.out _ _ (hK1.row hS (by simpa using N_g.out)) (fun hS => ?_)
                    clear hK K
                    try simp only [Act.put]
                    try simp only [List.setIfInBounds_toArray]
                    try simp only [List.set_cons_succ]
                    try simp only [List.set_cons_zero]
                    refine wpAnyH_take_at (i := 6) (v := ?v6x12) (some 84) rfl rfl (by kernel_rfl) (by kernel_rfl) (by kernel_rfl) (fun _ _ _ h => h) (Or.inl ⟨by kernel_rfl, ?h6x12⟩) (by assumption) ?r6x12
                    case h6x12 => (intro w hSw; (try dsimp only at hSw); go_simp; first | done | (with_reducible rfl))
                    try simp only [Act.put]
                    try simp only [List.setIfInBounds_toArray]
                    try simp only [List.set_cons_succ]
                    try simp only [List.set_cons_zero]
                    refine wpAnyH_take_at (i := 7) (v := ?v7x13) (some 91) rfl rfl (by kernel_rfl) (by kernel_rfl) (by kernel_rfl) (fun _ _ _ h => h) (Or.inl ⟨by kernel_rfl, ?h7x13⟩) (by assumption) ?r7x13
                    case h7x13 => (intro w hSw; (try dsimp only at hSw); go_simp; first | done | (with_reducible rfl))
                    try simp only [Act.put]
                    try simp only [List.setIfInBounds_toArray]
                    try simp only [List.set_cons_succ]
                    try simp only [List.set_cons_zero]
                    refine wpAnyH_take_at (i := 8) (v := ?v8x14) (some 92) rfl rfl (by kernel_rfl) (by kernel_rfl) (by kernel_rfl) (fun _ _ _ h => h) (Or.inl ⟨by kernel_rfl, ?h8x14⟩) (by assumption) ?r8x14
                    case h8x14 => (intro w hSw; (try dsimp only at hSw); go_simp; first | done | (with_reducible rfl))
                    try simp only [Act.put]
                    try simp only [List.setIfInBounds_toArray]
                    try simp only [List.set_cons_succ]
                    try simp only [List.set_cons_zero]
                    refine wpAnyH_ready (rs := [10]) (by kernel_rfl) (by simp) ?_
                    refine AllReadyH.cons rfl (fun K hK => ?_) AllReadyH.nil
                    refine step_store_row none rfl rfl 40 (.tmp 21) (.tmp 91) rfl gZ (lookN (cwC (k + inn)) 1 0 ⟨cA, 1, kc⟩).arr rfl rfl 40 ZRun hZ infoRun rfl (Rn.one _) ?_
                    refine hK.out _ _ ((setRow_other _ _ _ _ hq3).trans hS) (fun hS => ?_)
                    clear hK K
                    try simp only [Act.put]
                    try simp only [List.setIfInBounds_toArray]
                    try simp only [List.set_cons_succ]
                    try simp only [List.set_cons_zero]
                    refine wpAnyH_take_at (i := 11) (v := ?v11x15) (some 22) rfl rfl (by kernel_rfl) (by kernel_rfl) (by kernel_rfl) (fun _ _ _ h => h) (Or.inl ⟨by kernel_rfl, ?h11x15⟩) (by assumption) ?r11x15
                    case h11x15 => (intro w hSw; (try dsimp only at hSw); go_simp; first | done | (with_reducible rfl))
                    try simp only [Act.put]
                    try simp only [List.setIfInBounds_toArray]
                    try simp only [List.set_cons_succ]
                    try simp only [List.set_cons_zero]
                    refine wpAnyH_done (by kernel_rfl) ?_ _
                    go_wp2_with fail
                    go_meet
                    have hks := (Keep.refl [gZ] yS).setRow (g := gZ) (.inl (by simp)) (lookN (cwC (k + inn)) 1 0 ⟨cA, 1, kc⟩).arr
                    exact ⟨gZ, rfl, rfl, hz4, setRow_heap _ _ _ _ _ _ hZ, hA.kept hks (by simpa using hq1) (by simpa using fun e => hq2 e.symm), hK0.setRow (.inr hz4) _⟩
                case rest =>
                  obtain ⟨g_o, rfl, rfl, hgo, hRo, hA, hK⟩ := hcut
                  obtain ⟨x6, hwx⟩ : ∃ x, x = wc := ⟨_, rfl⟩
                  subst hwx
                  have Hgo : Hid (g_o ≠ g_g ∧ g_o ≠ b) := Lib.hid (by have h1 := lt_of_heap HA.out.row; omega)
                  replace H_g := Lib.hid (hK.row H_g.out (by simpa using N_g.out))
                  replace H_x := Lib.hid (hK.row H_x.out (by simpa using N_x.out))
                  replace HA := Lib.hid hA
                  replace B := Lib.hid (Keep.under B.out hK (by have := B.out.size; omega) (by simp; exact Hb.out))
                  have H_o : Hid (x6.heap[g_o]? = some (.cells (lookN (cwC (k + inn)) 1 0 ⟨cA, 1, kc⟩).arr 40 (0, 0))) := Lib.hid hRo
                  clear hgo hRo hA hK z_g
                  by_cases h7 : k + inn = 7
                  · skip
                    have Hl : Hid ((lookN (cwC (k + inn)) 1 0 ⟨cA, 1, kc⟩) = (toldR (callRn 1 0 ⟨cA, 1, kc⟩) 16 0 noS)) := Lib.hid (by unfold lookN; rw [h7, cw_full]; rfl)
                    rw [Hl.out] at H_o
                    have H7 := Lib.hid h7
                    clear h7
                    have z_g := lt_of_heap H_g.out
                    go_upto_region 31 with (first | refine wpList_load_row rfl 40 (.tmp 21) rfl g_o rfl 40 (toldR (callRn 1 0 ⟨cA, 1, kc⟩) 16 0 noS).arr (0, 0) _ H_o.out undRun rfl infoRun ?_ | (refine wpList_store_sub rfl 40 (.tmp 97) (.tmp 96) rfl g_g (kn * 26) (toldR (callRn 1 0 ⟨cA, 1, kc⟩) 16 0 noS).arr rfl rfl 41 _ H_g.out infoRun (by rw [runs_size]; have := Hll.out; have : (toldR (callRn 1 0 ⟨cA, 1, kc⟩) 16 0 noS).arr.size = 26 := rfl; omega) (Rn.one _) ?_; (try simp only [Act.put]); (try simp only [List.setIfInBounds_toArray]); (try simp only [List.set_cons_succ]); (try simp only [List.set_cons_zero])))
                    rw [runs_set (by have := Hll.out; omega) (toldR (callRn 1 0 ⟨cA, 1, kc⟩) 16 0 noS)]
                    have hK := (Keep.refl [g_g] x6).setRow (g := g_g) (.inl (by simp)) (runs4 (l.set kn (toldR (callRn 1 0 ⟨cA, 1, kc⟩) 16 0 noS)))
                    have hr : (x6.setRow g_g (runs4 (l.set kn (toldR (callRn 1 0 ⟨cA, 1, kc⟩) 16 0 noS)))).heap[g_g]? = some (.cells (runs4 (l.set kn (toldR (callRn 1 0 ⟨cA, 1, kc⟩) 16 0 noS))) 41 (0, 0)) := setRow_heap _ _ _ _ _ _ H_g.out
                    generalize x6.setRow g_g (runs4 (l.set kn (toldR (callRn 1 0 ⟨cA, 1, kc⟩) 16 0 noS))) = x7 at hK hr ⊢
                    replace H_x := Lib.hid (hK.row H_x.out (by simpa using M_x_g.out))
                    replace HA := Lib.hid (HA.out.kept hK (by simpa using NP_g.out) (by simpa using fun e => N_g.out e.symm))
                    replace B := Lib.hid (Keep.under B.out hK (by have := B.out.size; omega) (by simp; exact L_g.out))
                    replace H_g := Lib.hid hr
                    replace H_o := Lib.hid (hK.row H_o.out (by simpa using Hgo.out.1))
                    clear hr hK z_g
                    have o21 : x7.cell? ⟨g_o, 21, none⟩ = some (.bool true) := by rw [row_cell H_o.out]; rfl
                    have o23 : x7.cell? ⟨g_o, 23, none⟩ = some (.int .i64 16) := by rw [row_cell H_o.out]; rfl
                    have z_o := lt_of_heap H_o.out
                    go_wp2_with fail
                    go_roundw
                    case rel => exact ⟨i + 1, _, _, inn, out + 1, fails, by omega, by first | rfl | go_num, by first | rfl | go_num, by first | rfl | go_num, by go_num, HInv.out.refused HT4.out Hsk.out H7.out, HCor.out.set kn (r := (toldR (callRn 1 0 ⟨cA, 1, kc⟩) 16 0 noS)) (s := .D) rfl, H_g.out, H_x.out, HA.out, B.out⟩
                    case measure => simp [intOf]; omega
                  · skip
                    have h7' : k + inn < 7 := by omega
                    have Hl : Hid ((lookN (cwC (k + inn)) 1 0 ⟨cA, 1, kc⟩) = (wayR 1 0 ⟨cA, 1, kc⟩ (cw (k + inn)) (cw (k + inn + 1)))) := Lib.hid (by unfold lookN; rw [cw_enter h7']; rfl)
                    rw [Hl.out] at H_o
                    have H7 := Lib.hid h7'
                    clear h7 h7'
                    have z_g := lt_of_heap H_g.out
                    go_upto_region 31 with (first | refine wpList_load_row rfl 40 (.tmp 21) rfl g_o rfl 40 (wayR 1 0 ⟨cA, 1, kc⟩ (cw (k + inn)) (cw (k + inn + 1))).arr (0, 0) _ H_o.out undRun rfl infoRun ?_ | (refine wpList_store_sub rfl 40 (.tmp 97) (.tmp 96) rfl g_g (kn * 26) (wayR 1 0 ⟨cA, 1, kc⟩ (cw (k + inn)) (cw (k + inn + 1))).arr rfl rfl 41 _ H_g.out infoRun (by rw [runs_size]; have := Hll.out; have : (wayR 1 0 ⟨cA, 1, kc⟩ (cw (k + inn)) (cw (k + inn + 1))).arr.size = 26 := rfl; omega) (Rn.one _) ?_; (try simp only [Act.put]); (try simp only [List.setIfInBounds_toArray]); (try simp only [List.set_cons_succ]); (try simp only [List.set_cons_zero])))
                    rw [runs_set (by have := Hll.out; omega) (wayR 1 0 ⟨cA, 1, kc⟩ (cw (k + inn)) (cw (k + inn + 1)))]
                    have hK := (Keep.refl [g_g] x6).setRow (g := g_g) (.inl (by simp)) (runs4 (l.set kn (wayR 1 0 ⟨cA, 1, kc⟩ (cw (k + inn)) (cw (k + inn + 1)))))
                    have hr : (x6.setRow g_g (runs4 (l.set kn (wayR 1 0 ⟨cA, 1, kc⟩ (cw (k + inn)) (cw (k + inn + 1)))))).heap[g_g]? = some (.cells (runs4 (l.set kn (wayR 1 0 ⟨cA, 1, kc⟩ (cw (k + inn)) (cw (k + inn + 1))))) 41 (0, 0)) := setRow_heap _ _ _ _ _ _ H_g.out
                    generalize x6.setRow g_g (runs4 (l.set kn (wayR 1 0 ⟨cA, 1, kc⟩ (cw (k + inn)) (cw (k + inn + 1))))) = x7 at hK hr ⊢
                    replace H_x := Lib.hid (hK.row H_x.out (by simpa using M_x_g.out))
                    replace HA := Lib.hid (HA.out.kept hK (by simpa using NP_g.out) (by simpa using fun e => N_g.out e.symm))
                    replace B := Lib.hid (Keep.under B.out hK (by have := B.out.size; omega) (by simp; exact L_g.out))
                    replace H_g := Lib.hid hr
                    replace H_o := Lib.hid (hK.row H_o.out (by simpa using Hgo.out.1))
                    clear hr hK z_g
                    have o21 : x7.cell? ⟨g_o, 21, none⟩ = some (.bool false) := by rw [row_cell H_o.out]; rfl
                    have o23 : x7.cell? ⟨g_o, 23, none⟩ = some (.int .i64 0) := by rw [row_cell H_o.out]; rfl
                    have z_o := lt_of_heap H_o.out
                    go_wp2_with fail
                    go_roundw
                    case rel => exact ⟨i + 1, _, _, inn, out, fails, by omega, by first | rfl | go_num, by first | rfl | go_num, by first | rfl | go_num, by go_num, HInv.out.look HT4.out Hsk.out H7.out, HCor.out.set kn (r := (wayR 1 0 ⟨cA, 1, kc⟩ (cw (k + inn)) (cw (k + inn + 1)))) (s := .W (k + inn)) ⟨cA, kc, rfl⟩, H_g.out, H_x.out, HA.out, B.out⟩
                    case measure => simp [intOf]; omega
              | W v =>
                obtain ⟨cA, kc, rfl⟩ := Hck.out
                have hv := How.out
                simp only [okW] at hv
                have g21 : wr.cell? ⟨g_g, kn * 26 + 21, none⟩ = some (.bool false) := runs_cell H_g.out Hrk.out rfl
                have g7 : wr.cell? ⟨g_g, kn * 26 + 7, none⟩ = some (.int .i64 14) := runs_cell H_g.out Hrk.out rfl
                have Hkc : Hid ((WS.set 8 (cw (k + inn)))[8]? = some (word (cwC (k + inn)))) := Lib.hid (by rw [List.getElem?_set, if_pos rfl, if_pos Hl8.out]; rfl)
                go_upto_region 27 with fail
                clear g21 g7
                try simp only [Act.put]
                go_cut [21, 22] from 84 to 92 (fun vd ve wx => ∃ gZ, vd = .pointer (some ⟨gZ, 0, none⟩) ∧ ve = .int .i64 0 ∧ wr.heap.size ≤ gZ ∧ wx.heap[gZ]? = some (.cells (enterN (word (cwC (k + inn))) 1 0 ⟨cA, 1, kc⟩ (cw v) (cw (v + 1))).arr 40 (0, 0)) ∧ Arn wx p b ((WS.set 8 (cw (k + inn))).set 8 (enterW (word (cwC (k + inn))) (cw v) (cw (v + 1)))) ∧ Keep [b] wr wx)
                case first =>
                  refine wp_region_held_drew (S := fun W' => W'.heap[g_g]? = some (.cells (runs4 l) 41 (0, 0))) (by kernel_rfl) (show wr.drew.heap[g_g]? = _ from H_g.out) ?_
                  intro hS
                  have hA : Arn wr.drew p b (WS.set 8 (cw (k + inn))) := HA.out.drew
                  have hK0 : Keep [b] wr wr.drew := (Keep.refl _ _).drew
                  generalize wr.drew = y0 at hS hA hK0 ⊢
                  refine wpAnyH_take_at (i := 1) (v := ?v1x16) (some 86) rfl rfl (by kernel_rfl) (by kernel_rfl) (by kernel_rfl) (fun _ _ _ h => h) (Or.inl ⟨by kernel_rfl, ?h1x16⟩) (by assumption) ?r1x16
                  case h1x16 => (intro w hSw; (try dsimp only at hSw); go_simp; first | done | (with_reducible rfl))
                  try simp only [Act.put]
                  try simp only [List.setIfInBounds_toArray]
                  try simp only [List.set_cons_succ]
                  try simp only [List.set_cons_zero]
                  refine wpAnyH_take_at (i := 2) (v := ?v2x17) (some 87) rfl rfl (by kernel_rfl) (by kernel_rfl) (by kernel_rfl) (fun _ _ _ h => h) (Or.inl ⟨by kernel_rfl, ?h2x17⟩) (by assumption) ?r2x17
                  case h2x17 => (intro w hSw; (try dsimp only at hSw); go_simp; first | done | (with_reducible rfl))
                  try simp only [Act.put]
                  try simp only [List.setIfInBounds_toArray]
                  try simp only [List.set_cons_succ]
                  try simp only [List.set_cons_zero]
                  refine wpAnyH_take_at (i := 3) (v := ?v3x18) (some 88) rfl rfl (by kernel_rfl) (by kernel_rfl) (by kernel_rfl) (fun _ _ _ h => h) (Or.inl ⟨by kernel_rfl, ?h3x18⟩) (by assumption) ?r3x18
                  case h3x18 => (intro w hSw; (try dsimp only at hSw); go_simp; first | done | (with_reducible rfl))
                  try simp only [Act.put]
                  try simp only [List.setIfInBounds_toArray]
                  try simp only [List.set_cons_succ]
                  try simp only [List.set_cons_zero]
                  refine wpAnyH_take_at (i := 4) (v := .agg (wayR 1 0 ⟨cA, 1, kc⟩ (cw v) (cw (v + 1))).arr) (some 89) rfl rfl (by kernel_rfl) (by kernel_rfl) (by kernel_rfl) (fun _ _ _ h => h) (yieldsIf_load_sub (by kernel_rfl) 40 (.tmp 88) rfl g_g (kn * 26) rfl (runs4 l) (wayR 1 0 ⟨cA, 1, kc⟩ (cw v) (cw (v + 1))).arr (fun W' hW' => hW') (fun j v h => runs_get Hrk.out h) undRun rfl infoRun) (by assumption) ?_
                  try simp only [Act.put]
                  try simp only [List.setIfInBounds_toArray]
                  try simp only [List.set_cons_succ]
                  try simp only [List.set_cons_zero]
                  refine wpAnyH_ready (rs := [0, 9]) (by kernel_rfl) (by simp) ?_
                  refine AllReadyH.cons rfl (fun K hK => ?_) (AllReadyH.cons rfl (fun K hK => ?_) AllReadyH.nil)
                  · skip
                    go_simp
                    refine (plan_any _).mono ?_
                    rintro e' yP ⟨rfl, hb⟩
                    go_simp
                    replace hA := hA.below hb
                    replace hK0 := hK0.call hb
                    refine hK.out _ _ (row_below hS hb) (fun hS => ?_)
                    clear hK K
                    try simp only [Act.put]
                    try simp only [List.setIfInBounds_toArray]
                    try simp only [List.set_cons_succ]
                    try simp only [List.set_cons_zero]
                    refine wpAnyH_ready (rs := [5, 9]) (by kernel_rfl) (by simp) ?_
                    refine AllReadyH.cons rfl (fun K hK => ?_) (AllReadyH.cons rfl (fun K hK => ?_) AllReadyH.nil)
                    · skip
                      go_simp
                      refine (stepEnter_any p b 8 (WS.set 8 (cw (k + inn))) (cwC (k + inn)) 1 0 ⟨cA, 1, kc⟩ (cw v) (cw (v + 1)) _ hA (cwC_right hc7) Hkc.out (by decide) (by decide) (word_bd (cwC_right (by omega)))).mono ?_
                      rintro e' yS ⟨rfl, hA1, hK1⟩
                      go_simp
                      replace hK0 := hK0.trans hK1
                      clear hA
                      have hA := hA1
                      clear hA1
                      refine hK.out _ _ (hK1.row hS (by simpa using N_g.out)) (fun hS => ?_)
                      clear hK K
                      try simp only [Act.put]
                      try simp only [List.setIfInBounds_toArray]
                      try simp only [List.set_cons_succ]
                      try simp only [List.set_cons_zero]
                      refine wpAnyH_take_at (i := 6) (v := ?v6x19) (some 84) rfl rfl (by kernel_rfl) (by kernel_rfl) (by kernel_rfl) (fun _ _ _ h => h) (Or.inl ⟨by kernel_rfl, ?h6x19⟩) (by assumption) ?r6x19
                      case h6x19 => (intro w hSw; (try dsimp only at hSw); go_simp; first | done | (with_reducible rfl))
                      try simp only [Act.put]
                      try simp only [List.setIfInBounds_toArray]
                      try simp only [List.set_cons_succ]
                      try simp only [List.set_cons_zero]
                      refine wpAnyH_take_at (i := 7) (v := ?v7x20) (some 91) rfl rfl (by kernel_rfl) (by kernel_rfl) (by kernel_rfl) (fun _ _ _ h => h) (Or.inl ⟨by kernel_rfl, ?h7x20⟩) (by assumption) ?r7x20
                      case h7x20 => (intro w hSw; (try dsimp only at hSw); go_simp; first | done | (with_reducible rfl))
                      try simp only [Act.put]
                      try simp only [List.setIfInBounds_toArray]
                      try simp only [List.set_cons_succ]
                      try simp only [List.set_cons_zero]
                      refine wpAnyH_take_at (i := 8) (v := ?v8x21) (some 92) rfl rfl (by kernel_rfl) (by kernel_rfl) (by kernel_rfl) (fun _ _ _ h => h) (Or.inl ⟨by kernel_rfl, ?h8x21⟩) (by assumption) ?r8x21
                      case h8x21 => (intro w hSw; (try dsimp only at hSw); go_simp; first | done | (with_reducible rfl))
                      try simp only [Act.put]
                      try simp only [List.setIfInBounds_toArray]
                      try simp only [List.set_cons_succ]
                      try simp only [List.set_cons_zero]
                      refine wpAnyH_ready (rs := [9]) (by kernel_rfl) (by simp) ?_
                      refine AllReadyH.cons rfl (fun K hK => ?_) AllReadyH.nil
                      refine step_alloc_run (some 21) rfl rfl rfl ?_
                      refine k_alloc (fun yZ hZ hb => ?_)
                      have hz1 := lt_of_heap hA.box
                      have hz2 := lt_of_heap hA.row
                      have hz3 := lt_of_heap hS
                      have hz4 := hK0.size
                      obtain ⟨gZ, HgZ⟩ : ∃ x, x = yS.heap.size := ⟨_, rfl⟩
                      rw [← HgZ] at hZ hz1 hz2 hz3 hz4 ⊢
                      clear HgZ
                      have hq1 : p ≠ gZ := by omega
                      have hq2 : gZ ≠ b := by omega
                      have hq3 : g_g ≠ gZ := by omega
                      clear hz1 hz2 hz3
                      replace hA := hA.below hb
                      replace hK0 := hK0.call hb
                      refine hK.out _ _ (row_below hS hb) (fun hS => ?_)
                      clear hK K
                      try simp only [Act.put]
                      try simp only [List.setIfInBounds_toArray]
                      try simp only [List.set_cons_succ]
                      try simp only [List.set_cons_zero]
                      refine wpAnyH_ready (rs := [10]) (by kernel_rfl) (by simp) ?_
                      refine AllReadyH.cons rfl (fun K hK => ?_) AllReadyH.nil
                      refine step_store_row none rfl rfl 40 (.tmp 21) (.tmp 91) rfl gZ (enterN (word (cwC (k + inn))) 1 0 ⟨cA, 1, kc⟩ (cw v) (cw (v + 1))).arr rfl rfl 40 ZRun hZ infoRun rfl (Rn.one _) ?_
                      refine hK.out _ _ ((setRow_other _ _ _ _ hq3).trans hS) (fun hS => ?_)
                      clear hK K
                      try simp only [Act.put]
                      try simp only [List.setIfInBounds_toArray]
                      try simp only [List.set_cons_succ]
                      try simp only [List.set_cons_zero]
                      refine wpAnyH_take_at (i := 11) (v := ?v11x22) (some 22) rfl rfl (by kernel_rfl) (by kernel_rfl) (by kernel_rfl) (fun _ _ _ h => h) (Or.inl ⟨by kernel_rfl, ?h11x22⟩) (by assumption) ?r11x22
                      case h11x22 => (intro w hSw; (try dsimp only at hSw); go_simp; first | done | (with_reducible rfl))
                      try simp only [Act.put]
                      try simp only [List.setIfInBounds_toArray]
                      try simp only [List.set_cons_succ]
                      try simp only [List.set_cons_zero]
                      refine wpAnyH_done (by kernel_rfl) ?_ _
                      go_wp2_with fail
                      go_meet
                      have hks := (Keep.refl [gZ] yZ).setRow (g := gZ) (.inl (by simp)) (enterN (word (cwC (k + inn))) 1 0 ⟨cA, 1, kc⟩ (cw v) (cw (v + 1))).arr
                      exact ⟨gZ, rfl, rfl, hz4, setRow_heap _ _ _ _ _ _ hZ, hA.kept hks (by simpa using hq1) (by simpa using fun e => hq2 e.symm), hK0.setRow (.inr hz4) _⟩
                    · skip
                      refine step_alloc_run (some 21) rfl rfl rfl ?_
                      refine k_alloc (fun yZ hZ hb => ?_)
                      have hz1 := lt_of_heap hA.box
                      have hz2 := lt_of_heap hA.row
                      have hz3 := lt_of_heap hS
                      have hz4 := hK0.size
                      obtain ⟨gZ, HgZ⟩ : ∃ x, x = yP.heap.size := ⟨_, rfl⟩
                      rw [← HgZ] at hZ hz1 hz2 hz3 hz4 ⊢
                      clear HgZ
                      have hq1 : p ≠ gZ := by omega
                      have hq2 : gZ ≠ b := by omega
                      have hq3 : g_g ≠ gZ := by omega
                      clear hz1 hz2 hz3
                      replace hA := hA.below hb
                      replace hK0 := hK0.call hb
                      refine hK.out _ _ (row_below hS hb) (fun hS => ?_)
                      clear hK K
                      try simp only [Act.put]
                      try simp only [List.setIfInBounds_toArray]
                      try simp only [List.set_cons_succ]
                      try simp only [List.set_cons_zero]
                      refine wpAnyH_ready (rs := [5]) (by kernel_rfl) (by simp) ?_
                      refine AllReadyH.cons rfl (fun K hK => ?_) AllReadyH.nil
                      go_simp
                      refine (stepEnter_any p b 8 (WS.set 8 (cw (k + inn))) (cwC (k + inn)) 1 0 ⟨cA, 1, kc⟩ (cw v) (cw (v + 1)) _ hA (cwC_right hc7) Hkc.out (by decide) (by decide) (word_bd (cwC_right (by omega)))).mono ?_
                      rintro e' yS ⟨rfl, hA1, hK1⟩
                      go_simp
                      replace hK0 := hK0.trans hK1
                      replace hZ := hK1.row hZ (by simpa using hq2)
                      clear hA
                      have hA := hA1
                      clear hA1
                      refine hK.out _ _ (hK1.row hS (by simpa using N_g.out)) (fun hS => ?_)
                      clear hK K
                      try simp only [Act.put]
                      try simp only [List.setIfInBounds_toArray]
                      try simp only [List.set_cons_succ]
                      try simp only [List.set_cons_zero]
                      refine wpAnyH_take_at (i := 6) (v := ?v6x23) (some 84) rfl rfl (by kernel_rfl) (by kernel_rfl) (by kernel_rfl) (fun _ _ _ h => h) (Or.inl ⟨by kernel_rfl, ?h6x23⟩) (by assumption) ?r6x23
                      case h6x23 => (intro w hSw; (try dsimp only at hSw); go_simp; first | done | (with_reducible rfl))
                      try simp only [Act.put]
                      try simp only [List.setIfInBounds_toArray]
                      try simp only [List.set_cons_succ]
                      try simp only [List.set_cons_zero]
                      refine wpAnyH_take_at (i := 7) (v := ?v7x24) (some 91) rfl rfl (by kernel_rfl) (by kernel_rfl) (by kernel_rfl) (fun _ _ _ h => h) (Or.inl ⟨by kernel_rfl, ?h7x24⟩) (by assumption) ?r7x24
                      case h7x24 => (intro w hSw; (try dsimp only at hSw); go_simp; first | done | (with_reducible rfl))
                      try simp only [Act.put]
                      try simp only [List.setIfInBounds_toArray]
                      try simp only [List.set_cons_succ]
                      try simp only [List.set_cons_zero]
                      refine wpAnyH_take_at (i := 8) (v := ?v8x25) (some 92) rfl rfl (by kernel_rfl) (by kernel_rfl) (by kernel_rfl) (fun _ _ _ h => h) (Or.inl ⟨by kernel_rfl, ?h8x25⟩) (by assumption) ?r8x25
                      case h8x25 => (intro w hSw; (try dsimp only at hSw); go_simp; first | done | (with_reducible rfl))
                      try simp only [Act.put]
                      try simp only [List.setIfInBounds_toArray]
                      try simp only [List.set_cons_succ]
                      try simp only [List.set_cons_zero]
                      refine wpAnyH_ready (rs := [10]) (by kernel_rfl) (by simp) ?_
                      refine AllReadyH.cons rfl (fun K hK => ?_) AllReadyH.nil
                      refine step_store_row none rfl rfl 40 (.tmp 21) (.tmp 91) rfl gZ (enterN (word (cwC (k + inn))) 1 0 ⟨cA, 1, kc⟩ (cw v) (cw (v + 1))).arr rfl rfl 40 ZRun hZ infoRun rfl (Rn.one _) ?_
                      refine hK.out _ _ ((setRow_other _ _ _ _ hq3).trans hS) (fun hS => ?_)
                      clear hK K
                      try simp only [Act.put]
                      try simp only [List.setIfInBounds_toArray]
                      try simp only [List.set_cons_succ]
                      try simp only [List.set_cons_zero]
                      refine wpAnyH_take_at (i := 11) (v := ?v11x26) (some 22) rfl rfl (by kernel_rfl) (by kernel_rfl) (by kernel_rfl) (fun _ _ _ h => h) (Or.inl ⟨by kernel_rfl, ?h11x26⟩) (by assumption) ?r11x26
                      case h11x26 => (intro w hSw; (try dsimp only at hSw); go_simp; first | done | (with_reducible rfl))
                      try simp only [Act.put]
                      try simp only [List.setIfInBounds_toArray]
                      try simp only [List.set_cons_succ]
                      try simp only [List.set_cons_zero]
                      refine wpAnyH_done (by kernel_rfl) ?_ _
                      go_wp2_with fail
                      go_meet
                      have hks := (Keep.refl [gZ] yS).setRow (g := gZ) (.inl (by simp)) (enterN (word (cwC (k + inn))) 1 0 ⟨cA, 1, kc⟩ (cw v) (cw (v + 1))).arr
                      exact ⟨gZ, rfl, rfl, hz4, setRow_heap _ _ _ _ _ _ hZ, hA.kept hks (by simpa using hq1) (by simpa using fun e => hq2 e.symm), hK0.setRow (.inr hz4) _⟩
                  · skip
                    refine step_alloc_run (some 21) rfl rfl rfl ?_
                    refine k_alloc (fun yZ hZ hb => ?_)
                    have hz1 := lt_of_heap hA.box
                    have hz2 := lt_of_heap hA.row
                    have hz3 := lt_of_heap hS
                    have hz4 := hK0.size
                    obtain ⟨gZ, HgZ⟩ : ∃ x, x = y0.heap.size := ⟨_, rfl⟩
                    rw [← HgZ] at hZ hz1 hz2 hz3 hz4 ⊢
                    clear HgZ
                    have hq1 : p ≠ gZ := by omega
                    have hq2 : gZ ≠ b := by omega
                    have hq3 : g_g ≠ gZ := by omega
                    clear hz1 hz2 hz3
                    replace hA := hA.below hb
                    replace hK0 := hK0.call hb
                    refine hK.out _ _ (row_below hS hb) (fun hS => ?_)
                    clear hK K
                    try simp only [Act.put]
                    try simp only [List.setIfInBounds_toArray]
                    try simp only [List.set_cons_succ]
                    try simp only [List.set_cons_zero]
                    refine wpAnyH_ready (rs := [0]) (by kernel_rfl) (by simp) ?_
                    refine AllReadyH.cons rfl (fun K hK => ?_) AllReadyH.nil
                    go_simp
                    refine (plan_any _).mono ?_
                    rintro e' yP ⟨rfl, hb⟩
                    go_simp
                    replace hA := hA.below hb
                    replace hK0 := hK0.call hb
                    replace hZ := row_below hZ hb
                    refine hK.out _ _ (row_below hS hb) (fun hS => ?_)
                    clear hK K
                    try simp only [Act.put]
                    try simp only [List.setIfInBounds_toArray]
                    try simp only [List.set_cons_succ]
                    try simp only [List.set_cons_zero]
                    refine wpAnyH_ready (rs := [5]) (by kernel_rfl) (by simp) ?_
                    refine AllReadyH.cons rfl (fun K hK => ?_) AllReadyH.nil
                    go_simp
                    refine (stepEnter_any p b 8 (WS.set 8 (cw (k + inn))) (cwC (k + inn)) 1 0 ⟨cA, 1, kc⟩ (cw v) (cw (v + 1)) _ hA (cwC_right hc7) Hkc.out (by decide) (by decide) (word_bd (cwC_right (by omega)))).mono ?_
                    rintro e' yS ⟨rfl, hA1, hK1⟩
                    go_simp
                    replace hK0 := hK0.trans hK1
                    replace hZ := hK1.row hZ (by simpa using hq2)
                    clear hA
                    have hA := hA1
                    clear hA1
                    refine hK.out _ _ (hK1.row hS (by simpa using N_g.out)) (fun hS => ?_)
                    clear hK K
                    try simp only [Act.put]
                    try simp only [List.setIfInBounds_toArray]
                    try simp only [List.set_cons_succ]
                    try simp only [List.set_cons_zero]
                    refine wpAnyH_take_at (i := 6) (v := ?v6x27) (some 84) rfl rfl (by kernel_rfl) (by kernel_rfl) (by kernel_rfl) (fun _ _ _ h => h) (Or.inl ⟨by kernel_rfl, ?h6x27⟩) (by assumption) ?r6x27
                    case h6x27 => (intro w hSw; (try dsimp only at hSw); go_simp; first | done | (with_reducible rfl))
                    try simp only [Act.put]
                    try simp only [List.setIfInBounds_toArray]
                    try simp only [List.set_cons_succ]
                    try simp only [List.set_cons_zero]
                    refine wpAnyH_take_at (i := 7) (v := ?v7x28) (some 91) rfl rfl (by kernel_rfl) (by kernel_rfl) (by kernel_rfl) (fun _ _ _ h => h) (Or.inl ⟨by kernel_rfl, ?h7x28⟩) (by assumption) ?r7x28
                    case h7x28 => (intro w hSw; (try dsimp only at hSw); go_simp; first | done | (with_reducible rfl))
                    try simp only [Act.put]
                    try simp only [List.setIfInBounds_toArray]
                    try simp only [List.set_cons_succ]
                    try simp only [List.set_cons_zero]
                    refine wpAnyH_take_at (i := 8) (v := ?v8x29) (some 92) rfl rfl (by kernel_rfl) (by kernel_rfl) (by kernel_rfl) (fun _ _ _ h => h) (Or.inl ⟨by kernel_rfl, ?h8x29⟩) (by assumption) ?r8x29
                    case h8x29 => (intro w hSw; (try dsimp only at hSw); go_simp; first | done | (with_reducible rfl))
                    try simp only [Act.put]
                    try simp only [List.setIfInBounds_toArray]
                    try simp only [List.set_cons_succ]
                    try simp only [List.set_cons_zero]
                    refine wpAnyH_ready (rs := [10]) (by kernel_rfl) (by simp) ?_
                    refine AllReadyH.cons rfl (fun K hK => ?_) AllReadyH.nil
                    refine step_store_row none rfl rfl 40 (.tmp 21) (.tmp 91) rfl gZ (enterN (word (cwC (k + inn))) 1 0 ⟨cA, 1, kc⟩ (cw v) (cw (v + 1))).arr rfl rfl 40 ZRun hZ infoRun rfl (Rn.one _) ?_
                    refine hK.out _ _ ((setRow_other _ _ _ _ hq3).trans hS) (fun hS => ?_)
                    clear hK K
                    try simp only [Act.put]
                    try simp only [List.setIfInBounds_toArray]
                    try simp only [List.set_cons_succ]
                    try simp only [List.set_cons_zero]
                    refine wpAnyH_take_at (i := 11) (v := ?v11x30) (some 22) rfl rfl (by kernel_rfl) (by kernel_rfl) (by kernel_rfl) (fun _ _ _ h => h) (Or.inl ⟨by kernel_rfl, ?h11x30⟩) (by assumption) ?r11x30
                    case h11x30 => (intro w hSw; (try dsimp only at hSw); go_simp; first | done | (with_reducible rfl))
                    try simp only [Act.put]
                    try simp only [List.setIfInBounds_toArray]
                    try simp only [List.set_cons_succ]
                    try simp only [List.set_cons_zero]
                    refine wpAnyH_done (by kernel_rfl) ?_ _
                    go_wp2_with fail
                    go_meet
                    have hks := (Keep.refl [gZ] yS).setRow (g := gZ) (.inl (by simp)) (enterN (word (cwC (k + inn))) 1 0 ⟨cA, 1, kc⟩ (cw v) (cw (v + 1))).arr
                    exact ⟨gZ, rfl, rfl, hz4, setRow_heap _ _ _ _ _ _ hZ, hA.kept hks (by simpa using hq1) (by simpa using fun e => hq2 e.symm), hK0.setRow (.inr hz4) _⟩
                case rest =>
                  obtain ⟨g_o, rfl, rfl, hgo, hRo, hA, hK⟩ := hcut
                  obtain ⟨x6, hwx⟩ : ∃ x, x = wc := ⟨_, rfl⟩
                  subst hwx
                  have Hgo : Hid (g_o ≠ g_g ∧ g_o ≠ b) := Lib.hid (by have h1 := lt_of_heap HA.out.row; omega)
                  replace H_g := Lib.hid (hK.row H_g.out (by simpa using N_g.out))
                  replace H_x := Lib.hid (hK.row H_x.out (by simpa using N_x.out))
                  replace HA := Lib.hid hA
                  replace B := Lib.hid (Keep.under B.out hK (by have := B.out.size; omega) (by simp; exact Hb.out))
                  have H_o : Hid (x6.heap[g_o]? = some (.cells (enterN (word (cwC (k + inn))) 1 0 ⟨cA, 1, kc⟩ (cw v) (cw (v + 1))).arr 40 (0, 0))) := Lib.hid hRo
                  clear hgo hRo hA hK z_g
                  by_cases hvc : v = k + inn
                  · skip
                    have Hl : Hid ((enterN (word (cwC (k + inn))) 1 0 ⟨cA, 1, kc⟩ (cw v) (cw (v + 1))) = (toldR (wayR 1 0 ⟨cA, 1, kc⟩ (cw v) (cw (v + 1))) 0 0 noS)) := Lib.hid (by unfold enterN; rw [if_pos (by rw [hvc]; rfl)])
                    rw [Hl.out] at H_o
                    have hws : ((WS.set 8 (cw (k + inn))).set 8 (enterW (word (cwC (k + inn))) (cw v) (cw (v + 1)))) = WS.set 8 (cw (k + (inn + 1))) := by
                      unfold enterW
                      rw [if_pos (by rw [hvc]; rfl), List.set_set, hvc]
                      rfl
                    rw [hws] at HA
                    clear hws
                    have hsk2 := Hsk.out
                    rw [hvc] at hsk2
                    have Hsk2 := Lib.hid hsk2
                    clear hsk2 hvc hv
                    have z_g := lt_of_heap H_g.out
                    go_upto_region 31 with (first | refine wpList_load_row rfl 40 (.tmp 21) rfl g_o rfl 40 (toldR (wayR 1 0 ⟨cA, 1, kc⟩ (cw v) (cw (v + 1))) 0 0 noS).arr (0, 0) _ H_o.out undRun rfl infoRun ?_ | (refine wpList_store_sub rfl 40 (.tmp 97) (.tmp 96) rfl g_g (kn * 26) (toldR (wayR 1 0 ⟨cA, 1, kc⟩ (cw v) (cw (v + 1))) 0 0 noS).arr rfl rfl 41 _ H_g.out infoRun (by rw [runs_size]; have := Hll.out; have : (toldR (wayR 1 0 ⟨cA, 1, kc⟩ (cw v) (cw (v + 1))) 0 0 noS).arr.size = 26 := rfl; omega) (Rn.one _) ?_; (try simp only [Act.put]); (try simp only [List.setIfInBounds_toArray]); (try simp only [List.set_cons_succ]); (try simp only [List.set_cons_zero])))
                    rw [runs_set (by have := Hll.out; omega) (toldR (wayR 1 0 ⟨cA, 1, kc⟩ (cw v) (cw (v + 1))) 0 0 noS)]
                    have hK := (Keep.refl [g_g] x6).setRow (g := g_g) (.inl (by simp)) (runs4 (l.set kn (toldR (wayR 1 0 ⟨cA, 1, kc⟩ (cw v) (cw (v + 1))) 0 0 noS)))
                    have hr : (x6.setRow g_g (runs4 (l.set kn (toldR (wayR 1 0 ⟨cA, 1, kc⟩ (cw v) (cw (v + 1))) 0 0 noS)))).heap[g_g]? = some (.cells (runs4 (l.set kn (toldR (wayR 1 0 ⟨cA, 1, kc⟩ (cw v) (cw (v + 1))) 0 0 noS))) 41 (0, 0)) := setRow_heap _ _ _ _ _ _ H_g.out
                    generalize x6.setRow g_g (runs4 (l.set kn (toldR (wayR 1 0 ⟨cA, 1, kc⟩ (cw v) (cw (v + 1))) 0 0 noS))) = x7 at hK hr ⊢
                    replace H_x := Lib.hid (hK.row H_x.out (by simpa using M_x_g.out))
                    replace HA := Lib.hid (HA.out.kept hK (by simpa using NP_g.out) (by simpa using fun e => N_g.out e.symm))
                    replace B := Lib.hid (Keep.under B.out hK (by have := B.out.size; omega) (by simp; exact L_g.out))
                    replace H_g := Lib.hid hr
                    replace H_o := Lib.hid (hK.row H_o.out (by simpa using Hgo.out.1))
                    clear hr hK z_g
                    have o21 : x7.cell? ⟨g_o, 21, none⟩ = some (.bool true) := by rw [row_cell H_o.out]; rfl
                    have o23 : x7.cell? ⟨g_o, 23, none⟩ = some (.int .i64 0) := by rw [row_cell H_o.out]; rfl
                    have z_o := lt_of_heap H_o.out
                    go_wp2_with fail
                    go_roundw
                    case rel => exact ⟨i + 1, _, _, inn + 1, out, fails, by omega, by first | rfl | go_num, by first | rfl | go_num, by first | rfl | go_num, by go_num, HInv.out.letin HT4.out Hsk2.out, HCor.out.set kn (r := (toldR (wayR 1 0 ⟨cA, 1, kc⟩ (cw v) (cw (v + 1))) 0 0 noS)) (s := .D) rfl, H_g.out, H_x.out, HA.out, B.out⟩
                    case measure => simp [intOf]; omega
                  · skip
                    have hne : word (cwC (k + inn)) ≠ cw v := fun h => hvc (cw_inj (by omega) hc7 h.symm)
                    have Hl : Hid ((enterN (word (cwC (k + inn))) 1 0 ⟨cA, 1, kc⟩ (cw v) (cw (v + 1))) = (callRn 1 0 ⟨cA, 1, kc⟩)) := Lib.hid (by unfold enterN; rw [if_neg hne])
                    rw [Hl.out] at H_o
                    have hws : ((WS.set 8 (cw (k + inn))).set 8 (enterW (word (cwC (k + inn))) (cw v) (cw (v + 1)))) = WS.set 8 (cw (k + inn)) := by
                      unfold enterW
                      rw [if_neg hne]
                      exact set_same Hkc.out
                    rw [hws] at HA
                    have Hvc := Lib.hid hvc
                    clear hws hne hvc hv
                    have z_g := lt_of_heap H_g.out
                    go_upto_region 31 with (first | refine wpList_load_row rfl 40 (.tmp 21) rfl g_o rfl 40 (callRn 1 0 ⟨cA, 1, kc⟩).arr (0, 0) _ H_o.out undRun rfl infoRun ?_ | (refine wpList_store_sub rfl 40 (.tmp 97) (.tmp 96) rfl g_g (kn * 26) (callRn 1 0 ⟨cA, 1, kc⟩).arr rfl rfl 41 _ H_g.out infoRun (by rw [runs_size]; have := Hll.out; have : (callRn 1 0 ⟨cA, 1, kc⟩).arr.size = 26 := rfl; omega) (Rn.one _) ?_; (try simp only [Act.put]); (try simp only [List.setIfInBounds_toArray]); (try simp only [List.set_cons_succ]); (try simp only [List.set_cons_zero])))
                    rw [runs_set (by have := Hll.out; omega) (callRn 1 0 ⟨cA, 1, kc⟩)]
                    have hK := (Keep.refl [g_g] x6).setRow (g := g_g) (.inl (by simp)) (runs4 (l.set kn (callRn 1 0 ⟨cA, 1, kc⟩)))
                    have hr : (x6.setRow g_g (runs4 (l.set kn (callRn 1 0 ⟨cA, 1, kc⟩)))).heap[g_g]? = some (.cells (runs4 (l.set kn (callRn 1 0 ⟨cA, 1, kc⟩))) 41 (0, 0)) := setRow_heap _ _ _ _ _ _ H_g.out
                    generalize x6.setRow g_g (runs4 (l.set kn (callRn 1 0 ⟨cA, 1, kc⟩))) = x7 at hK hr ⊢
                    replace H_x := Lib.hid (hK.row H_x.out (by simpa using M_x_g.out))
                    replace HA := Lib.hid (HA.out.kept hK (by simpa using NP_g.out) (by simpa using fun e => N_g.out e.symm))
                    replace B := Lib.hid (Keep.under B.out hK (by have := B.out.size; omega) (by simp; exact L_g.out))
                    replace H_g := Lib.hid hr
                    replace H_o := Lib.hid (hK.row H_o.out (by simpa using Hgo.out.1))
                    clear hr hK z_g
                    have o21 : x7.cell? ⟨g_o, 21, none⟩ = some (.bool false) := by rw [row_cell H_o.out]; rfl
                    have o23 : x7.cell? ⟨g_o, 23, none⟩ = some (.int .i64 0) := by rw [row_cell H_o.out]; rfl
                    have z_o := lt_of_heap H_o.out
                    go_wp2_with fail
                    go_roundw
                    case rel => exact ⟨i + 1, _, _, inn, out, fails + 1, by omega, by first | rfl | go_num, by first | rfl | go_num, by first | rfl | go_num, by go_num, HInv.out.failed HT4.out Hsk.out Hvc.out, HCor.out.set kn (r := (callRn 1 0 ⟨cA, 1, kc⟩)) (s := .F) ⟨cA, kc, rfl⟩, H_g.out, H_x.out, HA.out, B.out⟩
                    case measure => simp [intOf]; omega
          · skip
            obtain rfl : i = 70 := by omega
            obtain ⟨hd1, hd2, hd3, hd4⟩ := HInv.out.done
            obtain ⟨bi, bo, bf⟩ := HInv.out.bd
            have hE : cwC (k + inn) = ⟨2, (k : Int) + (inn : Int), 0, 3⟩ := by
              unfold cwC
              rw [if_neg (by omega)]
              simp
            have Hre : Hid (Right ⟨2, (k : Int) + (inn : Int), 0, 3⟩) := Lib.hid (by rw [← hE]; exact cwC_right hd2)
            have Hge : Hid ((WS.set 8 (cw (k + inn)))[8]? = some (word ⟨2, (k : Int) + (inn : Int), 0, 3⟩)) := Lib.hid (by rw [List.getElem?_set, if_pos rfl, if_pos Hl8.out, ← hE]; rfl)
            have f1 : ((inn : Int) + (out : Int) == 4) = true := by simp; omega
            have f2 : (fails : Int) ≤ 3 * (inn : Int) := by omega
            have f3 : (inn : Int) = min 4 (7 - (k : Int)) := by omega
            have F3 := Lib.hid f3
            clear hd1 hd2 hd3 hd4 hE f3
            go_wp2_with fail
            refine (plan_any _).mono ?_
            rintro r z1 ⟨rfl, hb⟩
            have hsz := (hb).size
            replace H_x := Lib.hid (row_below H_x.out hb)
            replace HA := Lib.hid (HA.out.below hb)
            replace B := Lib.hid (below_only B.out hb)
            clear hb hsz
            go_wp2_with fail
            refine (foundCtl_any p b 4 4 0 64 _ 8 1 ⟨2, (k : Int) + (inn : Int), 0, 3⟩ _ PL HA.out Hre.out Hge.out (by decide) (by decide)).mono ?_
            rintro r z2 ⟨rfl, hb⟩
            have hsz := (hb).size
            replace H_x := Lib.hid (row_below H_x.out hb)
            replace HA := Lib.hid (HA.out.below hb)
            replace B := Lib.hid (below_only B.out hb)
            clear hb hsz
            go_upto_region 38 with fail
            refine one_row z2 _ _ ?_
            intro z3 hr hb
            have hlB := B.out.size
            have hlt := lt_of_heap HA.out.row
            have hlp := lt_of_heap HA.out.box
            have hl_x := lt_of_heap H_x.out
            have hsz := (hb).size
            replace H_x := Lib.hid (row_below H_x.out hb)
            replace HA := Lib.hid (HA.out.below hb)
            replace B := Lib.hid (below_only B.out hb)
            clear hb hsz
            have H_v := Lib.hid (show z3.heap[z2.heap.size]? = some (.cells #[.int .i64 2, .int .i64 ((k : Int) + (inn : Int)), .int .i64 0, .int .i64 3] 23 (0, 0)) from hr)
            clear hr
            obtain ⟨g_v, hg_v⟩ : ∃ x, x = z2.heap.size := ⟨_, rfl⟩
            rw [← hg_v] at H_v ⊢
            have N_v : Hid (g_v ≠ b) := Lib.hid (by omega)
            have NP_v : Hid (p ≠ g_v) := Lib.hid (by omega)
            clear hlt hlp
            have M_x_v : Hid (w.heap.size ≠ g_v) := Lib.hid (by omega)
            have M_v_x : Hid (g_v ≠ w.heap.size) := Lib.hid (by omega)
            clear hl_x
            have L_v : Hid (w.heap.size ≤ g_v) := Lib.hid (by omega)
            clear hg_v hlB
            obtain ⟨v_0, v_1, v_2, v_3, v_f0, v_f1, v_f2, v_f3⟩ := box4 H_v.out
            have z_v := lt_of_heap H_v.out
            have B2 := B.out
            clear B
            go_wp2_with fail
            all_goals first | (exfalso; have h3 := F3.out; omega) | (go_ret; exact ⟨by have h3 := F3.out; first | rfl | (simp; done) | (simp; omega), B2⟩)

end Go.Proofs.Ytconieenkeajiaa
