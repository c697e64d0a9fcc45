/- Layer 17: the walk of EnterAgain. -/
import Derived.Test.YtconieenkeajiaaEnterF
namespace Go.Proofs.Ytconieenkeajiaa
open Go.RowKit
set_option linter.unusedVariables false
set_option linter.unusedSimpArgs false

theorem mask1 (x : Int) : bits .and .i64 x 1 = x % 2 := i64_mask 1 x 1 (by omega) rfl
theorem again_ok (u t e : Int) (hu : 0 ≤ u ∧ u ≤ 1) (ht : 0 ≤ t ∧ t ≤ 5) : ∃ d, enter (fit ⟨1 + u, t, 1, e⟩) 0 = (d, 0) := by
  have hr := fit_right ⟨1 + u, t, 1, e⟩
  obtain rfl | rfl : u = 0 ∨ u = 1 := by omega
  · have hf : fit ⟨1 + 0, t, 1, e⟩ = ⟨1, 0, -1, e % 16777216⟩ := by simp [fit]
    rw [hf] at hr ⊢
    exact ⟨_, by rw [enter_ok hr (by decide)]; simp; rfl⟩
  · have hf : fit ⟨1 + 1, t, 1, e⟩ = ⟨2, 1 + t % 8 % 7, 0, e % 16777216⟩ := by simp [fit]
    rw [hf] at hr ⊢
    refine ⟨⟨2, 1 + t % 8 % 7 + 1, 0, e % 16777216⟩, ?_⟩
    rw [enter_ok hr (by decide), if_neg (by decide), if_neg (by decide), if_neg (by decide), if_neg (by decide), if_neg (by omega)]
theorem word_inj {a b : Ctl} (ha : Right a) (hb : Right b) (h : word a = word b) : a = b := by
  rw [← (right_word ha).2.2, ← (right_word hb).2.2, h]

set_option maxRecDepth 100000 in
set_option maxHeartbeats 4000000 in
theorem enterAgain_walk (s n q e s2 n2 q2 e2 : Int) (z : Bool) (w : World) (ws0 : (Lit.int .i64 s).wf = true) (wn0 : (Lit.int .i64 n).wf = true) (_ : (Lit.int .i64 q).wf = true) (_ : (Lit.int .i64 e).wf = true) (_ : (Lit.int .i64 s2).wf = true) (_ : (Lit.int .i64 n2).wf = true) (_ : (Lit.int .i64 q2).wf = true) (_ : (Lit.int .i64 e2).wf = true) :
    Calls Try.prog 7 #[.agg #[.int .i64 s, .int .i64 n, .int .i64 q, .int .i64 e], .agg #[.int .i64 s2, .int .i64 n2, .int .i64 q2, .int .i64 e2], .bool z] w fun r w' => r = .returned (.bool true) ∧ Below w.heap.size w w' := by
  obtain ⟨u, hu⟩ : ∃ u, bits .and .i64 s 1 = u := ⟨_, rfl⟩
  obtain ⟨v, hv⟩ : ∃ v, bits .and .i64 n 7 = v := ⟨_, rfl⟩
  have u01 : 0 ≤ u ∧ u ≤ 1 := by rw [← hu, mask1]; omega
  have v07 : 0 ≤ v ∧ v ≤ 7 := by rw [← hv, mask3]; omega
  obtain ⟨t, ht⟩ : ∃ t, v % 6 = t := ⟨_, rfl⟩
  have ht' : v.tmod 6 = t := by rw [← ht, Int.tmod_eq_emod_of_nonneg v07.1]
  have t05 : 0 ≤ t ∧ t ≤ 5 := by omega
  obtain ⟨f1, f2, f3, f4, HF⟩ : ∃ f1 f2 f3 f4, Hid (fit ⟨1 + u, t, 1, e⟩ = ⟨f1, f2, f3, f4⟩) := ⟨_, _, _, _, rfl⟩
  obtain ⟨b1, b2, b3, b4, HFB⟩ : ∃ f1 f2 f3 f4, Hid (fit ⟨s2, n2, q2, e2⟩ = ⟨f1, f2, f3, f4⟩) := ⟨_, _, _, _, rfl⟩
  have Hr : Hid (Right ⟨f1, f2, f3, f4⟩) := Lib.hid (by rw [← HF.out]; exact fit_right _)
  have Hrb : Hid (Right ⟨b1, b2, b3, b4⟩) := Lib.hid (by rw [← HFB.out]; exact fit_right _)
  obtain ⟨o1, o2, o3, o4, HO⟩ : ∃ o1 o2 o3 o4, Hid ((if z = true then (⟨f1, f2, f3, f4⟩ : Ctl) else ⟨b1, b2, b3, b4⟩) = ⟨o1, o2, o3, o4⟩) := ⟨_, _, _, _, rfl⟩
  have Hro : Hid (Right ⟨o1, o2, o3, o4⟩) := Lib.hid (by
    rw [← HO.out]
    split
    · exact Hr.out
    · exact Hrb.out)
  obtain ⟨WS, HWS⟩ : ∃ x, Hid (laidWs ⟨1 + u, t, 1, e⟩ ⟨1 + u, t, 1, e⟩ ⟨1 + u, t, 1, e⟩ = x) := ⟨_, rfl⟩
  have Hk8 : Hid (WS[8]? = some (word ⟨f1, f2, f3, f4⟩)) := Lib.hid (by rw [← HWS.out, ← HF.out]; exact laid_8 _ _ _)
  obtain ⟨d1, d2, d3, d4, HE⟩ : ∃ d1 d2 d3 d4, Hid (enter ⟨f1, f2, f3, f4⟩ 0 = (⟨d1, d2, d3, d4⟩, 0)) := by
    obtain ⟨⟨d1, d2, d3, d4⟩, hd⟩ := again_ok u t e u01 t05
    exact ⟨d1, d2, d3, d4, Lib.hid (by rw [← HF.out]; exact hd)⟩
  have Hd : Hid (Right ⟨d1, d2, d3, d4⟩) := Lib.hid (enter_right HE.out)
  obtain ⟨u0, u1⟩ := u01
  obtain ⟨v0, v7⟩ := v07
  obtain ⟨t0, t5⟩ := t05
  clear ws0 wn0
  go_enter Try.func7, Try.ntmps7
  go_upto_region 1 with fail
  refine two_rows' w _ _ _ _ ?_
  intro w1 hr hr2 hb
  have B := Lib.hid (hb)
  have H_x := Lib.hid (show w1.heap[w.heap.size]? = some (.cells #[.int .i64 s, .int .i64 n, .int .i64 q, .int .i64 e] 23 (0, 0)) from hr)
  have H_y := Lib.hid (show w1.heap[(w.heap.size + 1)]? = some (.cells #[.int .i64 s2, .int .i64 n2, .int .i64 q2, .int .i64 e2] 23 (0, 0)) from hr2)
  clear hr hr2 hb
  go_wp2_with fail
  refine (shown_any _).mono ?_
  rintro r w2 ⟨rfl, hb⟩
  have hsz := (hb).size
  replace H_x := Lib.hid (row_below H_x.out hb)
  replace H_y := Lib.hid (row_below H_y.out hb)
  replace B := Lib.hid (below_only B.out hb)
  clear hb hsz
  obtain ⟨x_0, x_1, x_2, x_3, x_f0, x_f1, x_f2, x_f3⟩ := box4 H_x.out
  have z_x := lt_of_heap H_x.out
  go_upto_region 5 with fail
  clear x_0 x_1 x_2 x_3 x_f0 x_f1 x_f2 x_f3 z_x
  refine set_three w2 w.heap.size 0 2 1 _ _ _ _ _ H_x.out ?_
  intro w3 hr hK
  replace H_y := Lib.hid (hK.row H_y.out (by simp))
  replace B := Lib.hid (Keep.under B.out hK (by have := B.out.size; omega) (by simp))
  clear H_x
  have H_x := Lib.hid (show w3.heap[w.heap.size]? = some (.cells #[.int .i64 (1 + u), .int .i64 t, .int .i64 1, .int .i64 e] 23 (0, 0)) from by simpa using hr)
  clear hr hK
  obtain ⟨x_0, x_1, x_2, x_3, x_f0, x_f1, x_f2, x_f3⟩ := box4 H_x.out
  have z_x := lt_of_heap H_x.out
  go_wp2_with fail
  clear x_0 x_1 x_2 x_3 x_f0 x_f1 x_f2 x_f3 z_x
  refine (fit_as HF _).mono ?_
  rintro r w4 ⟨rfl, hb⟩
  have hsz := (hb).size
  replace H_x := Lib.hid (row_below H_x.out hb)
  replace H_y := Lib.hid (row_below H_y.out hb)
  replace B := Lib.hid (below_only B.out hb)
  clear hb hsz
  go_upto_region 6 with fail
  refine one_row w4 _ _ ?_
  intro w5 hr hb
  have hlB := B.out.size
  have hl_x := lt_of_heap H_x.out
  have hl_y := lt_of_heap H_y.out
  have hsz := (hb).size
  replace H_x := Lib.hid (row_below H_x.out hb)
  replace H_y := Lib.hid (row_below H_y.out hb)
  replace B := Lib.hid (below_only B.out hb)
  clear hb hsz
  have H_c := Lib.hid (show w5.heap[w4.heap.size]? = some (.cells #[.int .i64 f1, .int .i64 f2, .int .i64 f3, .int .i64 f4] 23 (0, 0)) from hr)
  clear hr
  obtain ⟨g_c, hg_c⟩ : ∃ x, x = w4.heap.size := ⟨_, rfl⟩
  rw [← hg_c] at H_c ⊢
  have M_x_c : Hid (w.heap.size ≠ g_c) := Lib.hid (by omega)
  have M_c_x : Hid (g_c ≠ w.heap.size) := Lib.hid (by omega)
  clear hl_x
  have M_y_c : Hid ((w.heap.size + 1) ≠ g_c) := Lib.hid (by omega)
  have M_c_y : Hid (g_c ≠ (w.heap.size + 1)) := Lib.hid (by omega)
  clear hl_y
  have L_c : Hid (w.heap.size ≤ g_c) := Lib.hid (by omega)
  clear hg_c hlB
  obtain ⟨y_0, y_1, y_2, y_3, y_f0, y_f1, y_f2, y_f3⟩ := box4 H_y.out
  have z_y := lt_of_heap H_y.out
  go_wp2_with fail
  clear y_0 y_1 y_2 y_3 y_f0 y_f1 y_f2 y_f3 z_y
  refine (fit_as HFB _).mono ?_
  rintro r w6 ⟨rfl, hb⟩
  have hsz := (hb).size
  replace H_x := Lib.hid (row_below H_x.out hb)
  replace H_y := Lib.hid (row_below H_y.out hb)
  replace H_c := Lib.hid (row_below H_c.out hb)
  replace B := Lib.hid (below_only B.out hb)
  clear hb hsz
  go_upto_region 7 with fail
  refine one_row w6 _ _ ?_
  intro w7 hr hb
  have hlB := B.out.size
  have hl_x := lt_of_heap H_x.out
  have hl_y := lt_of_heap H_y.out
  have hl_c := lt_of_heap H_c.out
  have hsz := (hb).size
  replace H_x := Lib.hid (row_below H_x.out hb)
  replace H_y := Lib.hid (row_below H_y.out hb)
  replace H_c := Lib.hid (row_below H_c.out hb)
  replace B := Lib.hid (below_only B.out hb)
  clear hb hsz
  have H_o := Lib.hid (show w7.heap[w6.heap.size]? = some (.cells #[.int .i64 b1, .int .i64 b2, .int .i64 b3, .int .i64 b4] 23 (0, 0)) from hr)
  clear hr
  obtain ⟨g_o, hg_o⟩ : ∃ x, x = w6.heap.size := ⟨_, rfl⟩
  rw [← hg_o] at H_o ⊢
  have M_x_o : Hid (w.heap.size ≠ g_o) := Lib.hid (by omega)
  have M_o_x : Hid (g_o ≠ w.heap.size) := Lib.hid (by omega)
  clear hl_x
  have M_y_o : Hid ((w.heap.size + 1) ≠ g_o) := Lib.hid (by omega)
  have M_o_y : Hid (g_o ≠ (w.heap.size + 1)) := Lib.hid (by omega)
  clear hl_y
  have M_c_o : Hid (g_c ≠ g_o) := Lib.hid (by omega)
  have M_o_c : Hid (g_o ≠ g_c) := Lib.hid (by omega)
  clear hl_c
  have L_o : Hid (w.heap.size ≤ g_o) := Lib.hid (by omega)
  clear hg_o hlB
  obtain ⟨c_0, c_1, c_2, c_3, c_f0, c_f1, c_f2, c_f3⟩ := box4 H_c.out
  have z_c := lt_of_heap H_c.out
  obtain ⟨o_0, o_1, o_2, o_3, o_f0, o_f1, o_f2, o_f3⟩ := box4 H_o.out
  have z_o := lt_of_heap H_o.out
  go_upto_if 37 with fail
  try simp only [Act.put]
  go_cut [] from 37 to 38 (fun wx => wx.heap[g_o]? = some (.cells #[.int .i64 o1, .int .i64 o2, .int .i64 o3, .int .i64 o4] 23 (0, 0)) ∧ Keep [g_o] w7 wx)
  case first =>
    have HKo : Hid (∀ a b c d : Value, Keep [g_o] w7 ((((w7.setCell ⟨g_o, 0, none⟩ a).setCell ⟨g_o, 1, none⟩ b).setCell ⟨g_o, 2, none⟩ c).setCell ⟨g_o, 3, none⟩ d)) := Lib.hid fun a b c d => ((((Keep.refl [g_o] w7).setCell (p := ⟨g_o, 0, none⟩) (.inl (by simp)) a).setCell (p := ⟨g_o, 1, none⟩) (.inl (by simp)) b).setCell (p := ⟨g_o, 2, none⟩) (.inl (by simp)) c).setCell (p := ⟨g_o, 3, none⟩) (.inl (by simp)) d
    cases z with
    | true =>
      go_wp2_with fail
      go_meet
      have hO := HO.out
      first | rw [if_pos rfl] at hO | rw [if_pos trivial] at hO
      injection hO with h1 h2 h3 h4
      subst h1; subst h2; subst h3; subst h4
      exact ⟨row_four H_o.out, HKo.out _ _ _ _⟩
    | false =>
      go_wp2_with fail
      go_meet
      have hO := HO.out
      first | rw [if_neg (by decide)] at hO | rw [if_neg (fun h => h)] at hO
      injection hO with h1 h2 h3 h4
      subst h1; subst h2; subst h3; subst h4
      exact ⟨H_o.out, Keep.refl _ _⟩
  case rest =>
    obtain ⟨hr, hK⟩ := hcut
    obtain ⟨w8, hwx⟩ : ∃ x, x = wc := ⟨_, rfl⟩
    subst hwx
    replace H_x := Lib.hid (hK.row H_x.out (by simpa using M_x_o.out))
    replace H_c := Lib.hid (hK.row H_c.out (by simpa using M_c_o.out))
    replace B := Lib.hid (Keep.under B.out hK (by have := B.out.size; omega) (by simp; exact L_o.out))
    clear H_o H_y
    clear c_0 c_1 c_2 c_3 c_f0 c_f1 c_f2 c_f3 z_c o_0 o_1 o_2 o_3 o_f0 o_f1 o_f2 o_f3 z_o
    have H_o := Lib.hid (show w8.heap[g_o]? = some (.cells #[.int .i64 o1, .int .i64 o2, .int .i64 o3, .int .i64 o4] 23 (0, 0)) from hr)
    clear hr hK
    obtain ⟨x_0, x_1, x_2, x_3, x_f0, x_f1, x_f2, x_f3⟩ := box4 H_x.out
    have z_x := lt_of_heap H_x.out
    go_wp2_with fail
    clear x_0 x_1 x_2 x_3 x_f0 x_f1 x_f2 x_f3 z_x
    refine (laid_any (1 + u) t 1 e (1 + u) t 1 e (1 + u) t 1 e _).mono ?_
    rintro r w9 ⟨p, b, X, qq, dd, rfl, hT, hb⟩
    rw [HWS.out] at hT
    have hl1 := lt_of_heap H_x.out
    have hl2 := lt_of_heap H_c.out
    have hl3 := lt_of_heap H_o.out
    have hB2 := B.out.size
    have hsz := (hb).size
    replace H_x := Lib.hid (row_below H_x.out hb)
    replace H_c := Lib.hid (row_below H_c.out hb)
    replace H_o := Lib.hid (row_below H_o.out hb)
    replace B := Lib.hid (below_only B.out hb)
    clear hb hsz
    have HA : Hid (Arn w9 p b WS) := Lib.hid hT.a
    have Hb : Hid (w.heap.size ≤ b) := Lib.hid (by have := hT.low.2.1; omega)
    have N_x : Hid (w.heap.size ≠ b) := Lib.hid (by have := hT.low.2.1; omega)
    have N_c : Hid (g_c ≠ b) := Lib.hid (by have := hT.low.2.1; omega)
    have N_o : Hid (g_o ≠ b) := Lib.hid (by have := hT.low.2.1; omega)
    clear hT hl1 hl2 hl3 hB2
    go_wp2_with fail
    refine (call_any 0 0 1 0 _ (by decide) (by decide) (by decide) (by decide)).mono ?_
    rintro r w10 ⟨kc, cA, rfl, ⟨hE, hnew⟩, hb⟩
    have F_ch : Hid (∀ z, 0 < [((0 : Int), true)].length → cA = some z → z.block ≠ b) := Lib.hid fun z _ hz => by have := hnew z hz; have := lt_of_heap HA.out.row; omega
    clear hnew
    have hsz := (hb).size
    replace H_x := Lib.hid (row_below H_x.out hb)
    replace H_c := Lib.hid (row_below H_c.out hb)
    replace H_o := Lib.hid (row_below H_o.out hb)
    replace HA := Lib.hid (HA.out.below hb)
    replace B := Lib.hid (below_only B.out hb)
    clear hb hsz
    have E_ch := Lib.hid hE
    clear hE
    go_upto_region 13 with (refine wpList_store_row rfl 40 (.tmp 12) (.tmp 53) rfl w10.heap.size (callRn 1 0 ⟨cA, 1, kc⟩).arr rfl rfl 40 ZRun (row_new _ _ _) infoRun rfl (Rn.one _) ?_)
    refine alloc_set' w10 _ _ _ ?_
    intro w11 hr hb
    have hlB := B.out.size
    have hlt := lt_of_heap HA.out.row
    have hlp := lt_of_heap HA.out.box
    have hl_x := lt_of_heap H_x.out
    have hl_c := lt_of_heap H_c.out
    have hl_o := lt_of_heap H_o.out
    have hf_ch := ents_far E_ch.out (Nat.le_refl w10.heap.size)
    have hsz := (hb).size
    replace H_x := Lib.hid (row_below H_x.out hb)
    replace H_c := Lib.hid (row_below H_c.out hb)
    replace H_o := Lib.hid (row_below H_o.out hb)
    replace E_ch := Lib.hid (Ents.below E_ch.out hb)
    replace HA := Lib.hid (HA.out.below hb)
    replace B := Lib.hid (below_only B.out hb)
    clear hb hsz
    have H_r := Lib.hid (show w11.heap[w10.heap.size]? = some (.cells (callRn 1 0 ⟨cA, 1, kc⟩).arr 40 (0, 0)) from hr)
    clear hr
    obtain ⟨g_r, hg_r⟩ : ∃ x, x = w10.heap.size := ⟨_, rfl⟩
    rw [← hg_r] at H_r ⊢
    have N_r : Hid (g_r ≠ b) := Lib.hid (by omega)
    have NP_r : Hid (p ≠ g_r) := Lib.hid (by omega)
    clear hlt hlp
    have M_x_r : Hid (w.heap.size ≠ g_r) := Lib.hid (by omega)
    have M_r_x : Hid (g_r ≠ w.heap.size) := Lib.hid (by omega)
    clear hl_x
    have M_c_r : Hid (g_c ≠ g_r) := Lib.hid (by omega)
    have M_r_c : Hid (g_r ≠ g_c) := Lib.hid (by omega)
    clear hl_c
    have M_o_r : Hid (g_o ≠ g_r) := Lib.hid (by omega)
    have M_r_o : Hid (g_r ≠ g_o) := Lib.hid (by omega)
    clear hl_o
    have F_ch_r : Hid (∀ z, 0 < ([((0 : Int), true)] : List Ent).length → cA = some z → z.block ≠ g_r) := Lib.hid (by rw [hg_r]; exact hf_ch)
    clear hf_ch
    have L_r : Hid (w.heap.size ≤ g_r) := Lib.hid (by omega)
    clear hg_r hlB
    have Hl : Hid (lookN ⟨f1, f2, f3, f4⟩ 1 0 ⟨cA, 1, kc⟩ = (wayR 1 0 ⟨cA, 1, kc⟩ (word ⟨f1, f2, f3, f4⟩) (word ⟨d1, d2, d3, d4⟩))) := Lib.hid (by unfold lookN; rw [HE.out]; rfl)
    try simp only [Act.put]
    go_cut [13, 14] from 13 to 60 (fun vd ve wx => ∃ gZ, vd = .pointer (some ⟨gZ, 0, none⟩) ∧ ve = .int .i64 0 ∧ gZ ≠ b ∧ wx.heap[gZ]? = some (.cells (wayR 1 0 ⟨cA, 1, kc⟩ (word ⟨f1, f2, f3, f4⟩) (word ⟨d1, d2, d3, d4⟩)).arr 40 (0, 0)) ∧ Arn wx p b WS ∧ Keep [b] w11 wx)
    case first =>
      refine wp_region_held_drew (S := fun W' => W'.heap[g_r]? = some (.cells (callRn 1 0 ⟨cA, 1, kc⟩).arr 40 (0, 0))) (by kernel_rfl) (show w11.drew.heap[g_r]? = _ from H_r.out) ?_
      intro hS
      have hA : Arn w11.drew p b WS := HA.out.drew
      have hK0 : Keep [b] w11 w11.drew := (Keep.refl _ _).drew
      generalize w11.drew = y0 at hS hA hK0 ⊢
      refine wpAnyH_take_at (i := 1) (v := ?v1x1) (some 56) rfl rfl (by kernel_rfl) (by kernel_rfl) (by kernel_rfl) (fun _ _ _ h => h) (Or.inl ⟨by kernel_rfl, ?h1x1⟩) (by assumption) ?r1x1
      case h1x1 => (intro w hSw; (try dsimp only at hSw); go_simp; first | done | (with_reducible rfl))
      try simp only [Act.put]
      try simp only [List.setIfInBounds_toArray]
      try simp only [List.set_cons_succ]
      try simp only [List.set_cons_zero]
      refine wpAnyH_take_at (i := 2) (v := .agg (callRn 1 0 ⟨cA, 1, kc⟩).arr) (some 57) rfl rfl (by kernel_rfl) (by kernel_rfl) (by kernel_rfl) (fun _ _ _ h => h) (yieldsIf_load_row (by kernel_rfl) 40 (.tmp 12) rfl g_r rfl (callRn 1 0 ⟨cA, 1, kc⟩).arr (fun W' hW' => hW') undRun rfl infoRun) (by assumption) ?_
      try simp only [Act.put]
      try simp only [List.setIfInBounds_toArray]
      try simp only [List.set_cons_succ]
      try simp only [List.set_cons_zero]
      refine wpAnyH_ready (rs := [0, 7]) (by kernel_rfl) (by simp) ?_
      refine AllReadyH.cons rfl (fun K hK => ?_) (AllReadyH.cons rfl (fun K hK => ?_) AllReadyH.nil)
      · skip
        go_simp
        refine (plan_any _).mono ?_
        rintro e' yP ⟨rfl, hb⟩
        go_simp
        replace hA := hA.below hb
        replace hK0 := hK0.call hb
        refine hK.out _ _ (row_below hS hb) (fun hS => ?_)
        clear hK K
        try simp only [Act.put]
        try simp only [List.setIfInBounds_toArray]
        try simp only [List.set_cons_succ]
        try simp only [List.set_cons_zero]
        refine wpAnyH_ready (rs := [3, 7]) (by kernel_rfl) (by simp) ?_
        refine AllReadyH.cons rfl (fun K hK => ?_) (AllReadyH.cons rfl (fun K hK => ?_) AllReadyH.nil)
        · skip
          go_simp
          refine ((stepLook_any p b 8 WS ⟨f1, f2, f3, f4⟩ 1 0 ⟨cA, 1, kc⟩ _ hA Hr.out Hk8.out (by decide) (by decide)).mono fun e w' h => by rw [Hl.out] at h; exact h).mono ?_
          rintro e' yS ⟨rfl, hA1, hK1⟩
          go_simp
          replace hK0 := hK0.trans hK1
          clear hA
          have hA := hA1
          clear hA1
          refine hK.out _ _ (hK1.row hS (by simpa using N_r.out)) (fun hS => ?_)
          clear hK K
          try simp only [Act.put]
          try simp only [List.setIfInBounds_toArray]
          try simp only [List.set_cons_succ]
          try simp only [List.set_cons_zero]
          refine wpAnyH_take_at (i := 4) (v := ?v4x2) (some 54) rfl rfl (by kernel_rfl) (by kernel_rfl) (by kernel_rfl) (fun _ _ _ h => h) (Or.inl ⟨by kernel_rfl, ?h4x2⟩) (by assumption) ?r4x2
          case h4x2 => (intro w hSw; (try dsimp only at hSw); go_simp; first | done | (with_reducible rfl))
          try simp only [Act.put]
          try simp only [List.setIfInBounds_toArray]
          try simp only [List.set_cons_succ]
          try simp only [List.set_cons_zero]
          refine wpAnyH_take_at (i := 5) (v := ?v5x3) (some 59) rfl rfl (by kernel_rfl) (by kernel_rfl) (by kernel_rfl) (fun _ _ _ h => h) (Or.inl ⟨by kernel_rfl, ?h5x3⟩) (by assumption) ?r5x3
          case h5x3 => (intro w hSw; (try dsimp only at hSw); go_simp; first | done | (with_reducible rfl))
          try simp only [Act.put]
          try simp only [List.setIfInBounds_toArray]
          try simp only [List.set_cons_succ]
          try simp only [List.set_cons_zero]
          refine wpAnyH_take_at (i := 6) (v := ?v6x4) (some 60) rfl rfl (by kernel_rfl) (by kernel_rfl) (by kernel_rfl) (fun _ _ _ h => h) (Or.inl ⟨by kernel_rfl, ?h6x4⟩) (by assumption) ?r6x4
          case h6x4 => (intro w hSw; (try dsimp only at hSw); go_simp; first | done | (with_reducible rfl))
          try simp only [Act.put]
          try simp only [List.setIfInBounds_toArray]
          try simp only [List.set_cons_succ]
          try simp only [List.set_cons_zero]
          refine wpAnyH_ready (rs := [7]) (by kernel_rfl) (by simp) ?_
          refine AllReadyH.cons rfl (fun K hK => ?_) AllReadyH.nil
          refine step_alloc_run (some 13) rfl rfl rfl ?_
          refine k_alloc (fun yZ hZ hb => ?_)
          have hz1 := lt_of_heap hA.box
          have hz2 := lt_of_heap hA.row
          have hz3 := lt_of_heap hS
          have hz4 := hK0.size
          obtain ⟨gZ, HgZ⟩ : ∃ x, x = yS.heap.size := ⟨_, rfl⟩
          rw [← HgZ] at hZ hz1 hz2 hz3 hz4 ⊢
          clear HgZ
          have hq1 : p ≠ gZ := by omega
          have hq2 : gZ ≠ b := by omega
          have hq3 : g_r ≠ gZ := by omega
          clear hz1 hz2 hz3
          replace hA := hA.below hb
          replace hK0 := hK0.call hb
          refine hK.out _ _ (row_below hS hb) (fun hS => ?_)
          clear hK K
          try simp only [Act.put]
          try simp only [List.setIfInBounds_toArray]
          try simp only [List.set_cons_succ]
          try simp only [List.set_cons_zero]
          refine wpAnyH_ready (rs := [8]) (by kernel_rfl) (by simp) ?_
          refine AllReadyH.cons rfl (fun K hK => ?_) AllReadyH.nil
          refine step_store_row none rfl rfl 40 (.tmp 13) (.tmp 59) rfl gZ (wayR 1 0 ⟨cA, 1, kc⟩ (word ⟨f1, f2, f3, f4⟩) (word ⟨d1, d2, d3, d4⟩)).arr rfl rfl 40 ZRun hZ infoRun rfl (Rn.one _) ?_
          refine hK.out _ _ ((setRow_other _ _ _ _ hq3).trans hS) (fun hS => ?_)
          clear hK K
          try simp only [Act.put]
          try simp only [List.setIfInBounds_toArray]
          try simp only [List.set_cons_succ]
          try simp only [List.set_cons_zero]
          refine wpAnyH_take_at (i := 9) (v := ?v9x5) (some 14) rfl rfl (by kernel_rfl) (by kernel_rfl) (by kernel_rfl) (fun _ _ _ h => h) (Or.inl ⟨by kernel_rfl, ?h9x5⟩) (by assumption) ?r9x5
          case h9x5 => (intro w hSw; (try dsimp only at hSw); go_simp; first | done | (with_reducible rfl))
          try simp only [Act.put]
          try simp only [List.setIfInBounds_toArray]
          try simp only [List.set_cons_succ]
          try simp only [List.set_cons_zero]
          refine wpAnyH_done (by kernel_rfl) ?_ _
          go_wp2_with fail
          go_meet
          have hks := (Keep.refl [gZ] yZ).setRow (g := gZ) (.inl (by simp)) (wayR 1 0 ⟨cA, 1, kc⟩ (word ⟨f1, f2, f3, f4⟩) (word ⟨d1, d2, d3, d4⟩)).arr
          exact ⟨gZ, rfl, rfl, hq2, setRow_heap _ _ _ _ _ _ hZ, hA.kept hks (by simpa using hq1) (by simpa using fun e => hq2 e.symm), hK0.setRow (.inr hz4) _⟩
        · skip
          refine step_alloc_run (some 13) rfl rfl rfl ?_
          refine k_alloc (fun yZ hZ hb => ?_)
          have hz1 := lt_of_heap hA.box
          have hz2 := lt_of_heap hA.row
          have hz3 := lt_of_heap hS
          have hz4 := hK0.size
          obtain ⟨gZ, HgZ⟩ : ∃ x, x = yP.heap.size := ⟨_, rfl⟩
          rw [← HgZ] at hZ hz1 hz2 hz3 hz4 ⊢
          clear HgZ
          have hq1 : p ≠ gZ := by omega
          have hq2 : gZ ≠ b := by omega
          have hq3 : g_r ≠ gZ := by omega
          clear hz1 hz2 hz3
          replace hA := hA.below hb
          replace hK0 := hK0.call hb
          refine hK.out _ _ (row_below hS hb) (fun hS => ?_)
          clear hK K
          try simp only [Act.put]
          try simp only [List.setIfInBounds_toArray]
          try simp only [List.set_cons_succ]
          try simp only [List.set_cons_zero]
          refine wpAnyH_ready (rs := [3]) (by kernel_rfl) (by simp) ?_
          refine AllReadyH.cons rfl (fun K hK => ?_) AllReadyH.nil
          go_simp
          refine ((stepLook_any p b 8 WS ⟨f1, f2, f3, f4⟩ 1 0 ⟨cA, 1, kc⟩ _ hA Hr.out Hk8.out (by decide) (by decide)).mono fun e w' h => by rw [Hl.out] at h; exact h).mono ?_
          rintro e' yS ⟨rfl, hA1, hK1⟩
          go_simp
          replace hK0 := hK0.trans hK1
          replace hZ := hK1.row hZ (by simpa using hq2)
          clear hA
          have hA := hA1
          clear hA1
          refine hK.out _ _ (hK1.row hS (by simpa using N_r.out)) (fun hS => ?_)
          clear hK K
          try simp only [Act.put]
          try simp only [List.setIfInBounds_toArray]
          try simp only [List.set_cons_succ]
          try simp only [List.set_cons_zero]
          refine wpAnyH_take_at (i := 4) (v := ?v4x6) (some 54) rfl rfl (by kernel_rfl) (by kernel_rfl) (by kernel_rfl) (fun _ _ _ h => h) (Or.inl ⟨by kernel_rfl, ?h4x6⟩) (by assumption) ?r4x6
          case h4x6 => (intro w hSw; (try dsimp only at hSw); go_simp; first | done | (with_reducible rfl))
          try simp only [Act.put]
          try simp only [List.setIfInBounds_toArray]
          try simp only [List.set_cons_succ]
          try simp only [List.set_cons_zero]
          refine wpAnyH_take_at (i := 5) (v := ?v5x7) (some 59) rfl rfl (by kernel_rfl) (by kernel_rfl) (by kernel_rfl) (fun _ _ _ h => h) (Or.inl ⟨by kernel_rfl, ?h5x7⟩) (by assumption) ?r5x7
          case h5x7 => (intro w hSw; (try dsimp only at hSw); go_simp; first | done | (with_reducible rfl))
          try simp only [Act.put]
          try simp only [List.setIfInBounds_toArray]
          try simp only [List.set_cons_succ]
          try simp only [List.set_cons_zero]
          refine wpAnyH_take_at (i := 6) (v := ?v6x8) (some 60) rfl rfl (by kernel_rfl) (by kernel_rfl) (by kernel_rfl) (fun _ _ _ h => h) (Or.inl ⟨by kernel_rfl, ?h6x8⟩) (by assumption) ?r6x8
          case h6x8 => (intro w hSw; (try dsimp only at hSw); go_simp; first | done | (with_reducible rfl))
          try simp only [Act.put]
          try simp only [List.setIfInBounds_toArray]
          try simp only [List.set_cons_succ]
          try simp only [List.set_cons_zero]
          refine wpAnyH_ready (rs := [8]) (by kernel_rfl) (by simp) ?_
          refine AllReadyH.cons rfl (fun K hK => ?_) AllReadyH.nil
          refine step_store_row none rfl rfl 40 (.tmp 13) (.tmp 59) rfl gZ (wayR 1 0 ⟨cA, 1, kc⟩ (word ⟨f1, f2, f3, f4⟩) (word ⟨d1, d2, d3, d4⟩)).arr rfl rfl 40 ZRun hZ infoRun rfl (Rn.one _) ?_
          refine hK.out _ _ ((setRow_other _ _ _ _ hq3).trans hS) (fun hS => ?_)
          clear hK K
          try simp only [Act.put]
          try simp only [List.setIfInBounds_toArray]
          try simp only [List.set_cons_succ]
          try simp only [List.set_cons_zero]
          refine wpAnyH_take_at (i := 9) (v := ?v9x9) (some 14) rfl rfl (by kernel_rfl) (by kernel_rfl) (by kernel_rfl) (fun _ _ _ h => h) (Or.inl ⟨by kernel_rfl, ?h9x9⟩) (by assumption) ?r9x9
          case h9x9 => (intro w hSw; (try dsimp only at hSw); go_simp; first | done | (with_reducible rfl))
          try simp only [Act.put]
          try simp only [List.setIfInBounds_toArray]
          try simp only [List.set_cons_succ]
          try simp only [List.set_cons_zero]
          refine wpAnyH_done (by kernel_rfl) ?_ _
          go_wp2_with fail
          go_meet
          have hks := (Keep.refl [gZ] yS).setRow (g := gZ) (.inl (by simp)) (wayR 1 0 ⟨cA, 1, kc⟩ (word ⟨f1, f2, f3, f4⟩) (word ⟨d1, d2, d3, d4⟩)).arr
          exact ⟨gZ, rfl, rfl, hq2, setRow_heap _ _ _ _ _ _ hZ, hA.kept hks (by simpa using hq1) (by simpa using fun e => hq2 e.symm), hK0.setRow (.inr hz4) _⟩
      · skip
        refine step_alloc_run (some 13) rfl rfl rfl ?_
        refine k_alloc (fun yZ hZ hb => ?_)
        have hz1 := lt_of_heap hA.box
        have hz2 := lt_of_heap hA.row
        have hz3 := lt_of_heap hS
        have hz4 := hK0.size
        obtain ⟨gZ, HgZ⟩ : ∃ x, x = y0.heap.size := ⟨_, rfl⟩
        rw [← HgZ] at hZ hz1 hz2 hz3 hz4 ⊢
        clear HgZ
        have hq1 : p ≠ gZ := by omega
        have hq2 : gZ ≠ b := by omega
        have hq3 : g_r ≠ gZ := by omega
        clear hz1 hz2 hz3
        replace hA := hA.below hb
        replace hK0 := hK0.call hb
        refine hK.out _ _ (row_below hS hb) (fun hS => ?_)
        clear hK K
        try simp only [Act.put]
        try simp only [List.setIfInBounds_toArray]
        try simp only [List.set_cons_succ]
        try simp only [List.set_cons_zero]
        refine wpAnyH_ready (rs := [0]) (by kernel_rfl) (by simp) ?_
        refine AllReadyH.cons rfl (fun K hK => ?_) AllReadyH.nil
        go_simp
        refine (plan_any _).mono ?_
        rintro e' yP ⟨rfl, hb⟩
        go_simp
        replace hA := hA.below hb
        replace hK0 := hK0.call hb
        replace hZ := row_below hZ hb
        refine hK.out _ _ (row_below hS hb) (fun hS => ?_)
        clear hK K
        try simp only [Act.put]
        try simp only [List.setIfInBounds_toArray]
        try simp only [List.set_cons_succ]
        try simp only [List.set_cons_zero]
        refine wpAnyH_ready (rs := [3]) (by kernel_rfl) (by simp) ?_
        refine AllReadyH.cons rfl (fun K hK => ?_) AllReadyH.nil
        go_simp
        refine ((stepLook_any p b 8 WS ⟨f1, f2, f3, f4⟩ 1 0 ⟨cA, 1, kc⟩ _ hA Hr.out Hk8.out (by decide) (by decide)).mono fun e w' h => by rw [Hl.out] at h; exact h).mono ?_
        rintro e' yS ⟨rfl, hA1, hK1⟩
        go_simp
        replace hK0 := hK0.trans hK1
        replace hZ := hK1.row hZ (by simpa using hq2)
        clear hA
        have hA := hA1
        clear hA1
        refine hK.out _ _ (hK1.row hS (by simpa using N_r.out)) (fun hS => ?_)
        clear hK K
        try simp only [Act.put]
        try simp only [List.setIfInBounds_toArray]
        try simp only [List.set_cons_succ]
        try simp only [List.set_cons_zero]
        refine wpAnyH_take_at (i := 4) (v := ?v4x10) (some 54) rfl rfl (by kernel_rfl) (by kernel_rfl) (by kernel_rfl) (fun _ _ _ h => h) (Or.inl ⟨by kernel_rfl, ?h4x10⟩) (by assumption) ?r4x10
        case h4x10 => (intro w hSw; (try dsimp only at hSw); go_simp; first | done | (with_reducible rfl))
        try simp only [Act.put]
        try simp only [List.setIfInBounds_toArray]
        try simp only [List.set_cons_succ]
        try simp only [List.set_cons_zero]
        refine wpAnyH_take_at (i := 5) (v := ?v5x11) (some 59) rfl rfl (by kernel_rfl) (by kernel_rfl) (by kernel_rfl) (fun _ _ _ h => h) (Or.inl ⟨by kernel_rfl, ?h5x11⟩) (by assumption) ?r5x11
        case h5x11 => (intro w hSw; (try dsimp only at hSw); go_simp; first | done | (with_reducible rfl))
        try simp only [Act.put]
        try simp only [List.setIfInBounds_toArray]
        try simp only [List.set_cons_succ]
        try simp only [List.set_cons_zero]
        refine wpAnyH_take_at (i := 6) (v := ?v6x12) (some 60) rfl rfl (by kernel_rfl) (by kernel_rfl) (by kernel_rfl) (fun _ _ _ h => h) (Or.inl ⟨by kernel_rfl, ?h6x12⟩) (by assumption) ?r6x12
        case h6x12 => (intro w hSw; (try dsimp only at hSw); go_simp; first | done | (with_reducible rfl))
        try simp only [Act.put]
        try simp only [List.setIfInBounds_toArray]
        try simp only [List.set_cons_succ]
        try simp only [List.set_cons_zero]
        refine wpAnyH_ready (rs := [8]) (by kernel_rfl) (by simp) ?_
        refine AllReadyH.cons rfl (fun K hK => ?_) AllReadyH.nil
        refine step_store_row none rfl rfl 40 (.tmp 13) (.tmp 59) rfl gZ (wayR 1 0 ⟨cA, 1, kc⟩ (word ⟨f1, f2, f3, f4⟩) (word ⟨d1, d2, d3, d4⟩)).arr rfl rfl 40 ZRun hZ infoRun rfl (Rn.one _) ?_
        refine hK.out _ _ ((setRow_other _ _ _ _ hq3).trans hS) (fun hS => ?_)
        clear hK K
        try simp only [Act.put]
        try simp only [List.setIfInBounds_toArray]
        try simp only [List.set_cons_succ]
        try simp only [List.set_cons_zero]
        refine wpAnyH_take_at (i := 9) (v := ?v9x13) (some 14) rfl rfl (by kernel_rfl) (by kernel_rfl) (by kernel_rfl) (fun _ _ _ h => h) (Or.inl ⟨by kernel_rfl, ?h9x13⟩) (by assumption) ?r9x13
        case h9x13 => (intro w hSw; (try dsimp only at hSw); go_simp; first | done | (with_reducible rfl))
        try simp only [Act.put]
        try simp only [List.setIfInBounds_toArray]
        try simp only [List.set_cons_succ]
        try simp only [List.set_cons_zero]
        refine wpAnyH_done (by kernel_rfl) ?_ _
        go_wp2_with fail
        go_meet
        have hks := (Keep.refl [gZ] yS).setRow (g := gZ) (.inl (by simp)) (wayR 1 0 ⟨cA, 1, kc⟩ (word ⟨f1, f2, f3, f4⟩) (word ⟨d1, d2, d3, d4⟩)).arr
        exact ⟨gZ, rfl, rfl, hq2, setRow_heap _ _ _ _ _ _ hZ, hA.kept hks (by simpa using hq1) (by simpa using fun e => hq2 e.symm), hK0.setRow (.inr hz4) _⟩
    case rest =>
      obtain ⟨g_k, rfl, rfl, hgb, hRr, hA, hK⟩ := hcut
      obtain ⟨w12, hwx⟩ : ∃ x, x = wc := ⟨_, rfl⟩
      subst hwx
      have N_k := Lib.hid hgb
      clear hgb
      replace H_x := Lib.hid (hK.row H_x.out (by simpa using N_x.out))
      replace H_c := Lib.hid (hK.row H_c.out (by simpa using N_c.out))
      replace H_o := Lib.hid (hK.row H_o.out (by simpa using N_o.out))
      replace H_r := Lib.hid (hK.row H_r.out (by simpa using N_r.out))
      replace E_ch := Lib.hid (ents_kept E_ch.out hK (by simpa using F_ch.out))
      replace HA := Lib.hid hA
      replace B := Lib.hid (Keep.under B.out hK (by have := B.out.size; omega) (by simp; exact Hb.out))
      clear hA hK
      have H_k := Lib.hid (show w12.heap[g_k]? = some (.cells (wayR 1 0 ⟨cA, 1, kc⟩ (word ⟨f1, f2, f3, f4⟩) (word ⟨d1, d2, d3, d4⟩)).arr 40 (0, 0)) from hRr)
      clear hRr
      have HPo := Lib.hid (pack_right Hro.out)
      have HYo := Lib.hid (word_bd Hro.out)
      obtain ⟨vo, Hvo⟩ : ∃ x, Hid (word ⟨o1, o2, o3, o4⟩ = x) := ⟨_, rfl⟩
      rw [Hvo.out] at HPo HYo
      obtain ⟨o_0, o_1, o_2, o_3, o_f0, o_f1, o_f2, o_f3⟩ := box4 H_o.out
      have z_o := lt_of_heap H_o.out
      go_wp2_with fail
      clear o_0 o_1 o_2 o_3 o_f0 o_f1 o_f2 o_f3 z_o
      refine (rpack_as HPo _).mono ?_
      rintro r w13 ⟨rfl, hb⟩
      have hsz := (hb).size
      replace H_x := Lib.hid (row_below H_x.out hb)
      replace H_c := Lib.hid (row_below H_c.out hb)
      replace H_o := Lib.hid (row_below H_o.out hb)
      replace H_r := Lib.hid (row_below H_r.out hb)
      replace H_k := Lib.hid (row_below H_k.out hb)
      replace E_ch := Lib.hid (Ents.below E_ch.out hb)
      replace HA := Lib.hid (HA.out.below hb)
      replace B := Lib.hid (below_only B.out hb)
      clear hb hsz
      go_wp2_with fail
      refine (rplanAt_any 0 1 _ (by decide) (by decide)).mono ?_
      rintro r w13' ⟨rfl, e2⟩
      rw [e2, show (64 * 1 + 8 * 0 : Int) = ((8 * 8 : Nat) : Int) by decide]
      clear e2 w13'
      go_wp2_with fail
      refine (arnPut_any p b WS 8 _ vo _ HA.out Hk8.out HYo.out).mono ?_
      rintro r w14 ⟨rfl, hA, hK⟩
      replace H_x := Lib.hid (hK.row H_x.out (by simpa using N_x.out))
      replace H_c := Lib.hid (hK.row H_c.out (by simpa using N_c.out))
      replace H_o := Lib.hid (hK.row H_o.out (by simpa using N_o.out))
      replace H_r := Lib.hid (hK.row H_r.out (by simpa using N_r.out))
      replace H_k := Lib.hid (hK.row H_k.out (by simpa using N_k.out))
      replace E_ch := Lib.hid (ents_kept E_ch.out hK (by simpa using F_ch.out))
      replace HA := Lib.hid hA
      replace B := Lib.hid (Keep.under B.out hK (by have := B.out.size; omega) (by simp; exact Hb.out))
      clear hA hK
      have Hk8b : Hid ((WS.set 8 vo)[8]? = some (word ⟨o1, o2, o3, o4⟩)) := Lib.hid (by rw [List.getElem?_set, if_pos rfl, if_pos (List.getElem?_eq_some_iff.1 Hk8.out).1, Hvo.out])
      have k_7 : w14.cell? ⟨g_k, 7, none⟩ = some (.int .i64 14) := by rw [row_cell H_k.out]; rfl
      go_upto_region 18 with fail
      clear k_7
      try simp only [Act.put]
      go_cut [17, 18] from 17 to 79 (fun vd ve wx => ∃ gZ, vd = .pointer (some ⟨gZ, 0, none⟩) ∧ ve = .int .i64 0 ∧ gZ ≠ b ∧ wx.heap[gZ]? = some (.cells (enterN (word ⟨o1, o2, o3, o4⟩) 1 0 ⟨cA, 1, kc⟩ (word ⟨f1, f2, f3, f4⟩) (word ⟨d1, d2, d3, d4⟩)).arr 40 (0, 0)) ∧ Arn wx p b ((WS.set 8 vo).set 8 (enterW (word ⟨o1, o2, o3, o4⟩) (word ⟨f1, f2, f3, f4⟩) (word ⟨d1, d2, d3, d4⟩))) ∧ Keep [b] w14 wx)
      case first =>
        refine wp_region_held_drew (S := fun W' => W'.heap[g_k]? = some (.cells (wayR 1 0 ⟨cA, 1, kc⟩ (word ⟨f1, f2, f3, f4⟩) (word ⟨d1, d2, d3, d4⟩)).arr 40 (0, 0))) (by kernel_rfl) (show w14.drew.heap[g_k]? = _ from H_k.out) ?_
        intro hS
        have hA : Arn w14.drew p b (WS.set 8 vo) := HA.out.drew
        have hK0 : Keep [b] w14 w14.drew := (Keep.refl _ _).drew
        generalize w14.drew = y0 at hS hA hK0 ⊢
        refine wpAnyH_take_at (i := 1) (v := ?v1x14) (some 75) rfl rfl (by kernel_rfl) (by kernel_rfl) (by kernel_rfl) (fun _ _ _ h => h) (Or.inl ⟨by kernel_rfl, ?h1x14⟩) (by assumption) ?r1x14
        case h1x14 => (intro w hSw; (try dsimp only at hSw); go_simp; first | done | (with_reducible rfl))
        try simp only [Act.put]
        try simp only [List.setIfInBounds_toArray]
        try simp only [List.set_cons_succ]
        try simp only [List.set_cons_zero]
        refine wpAnyH_take_at (i := 2) (v := .agg (wayR 1 0 ⟨cA, 1, kc⟩ (word ⟨f1, f2, f3, f4⟩) (word ⟨d1, d2, d3, d4⟩)).arr) (some 76) rfl rfl (by kernel_rfl) (by kernel_rfl) (by kernel_rfl) (fun _ _ _ h => h) (yieldsIf_load_row (by kernel_rfl) 40 (.tmp 13) rfl g_k rfl (wayR 1 0 ⟨cA, 1, kc⟩ (word ⟨f1, f2, f3, f4⟩) (word ⟨d1, d2, d3, d4⟩)).arr (fun W' hW' => hW') undRun rfl infoRun) (by assumption) ?_
        try simp only [Act.put]
        try simp only [List.setIfInBounds_toArray]
        try simp only [List.set_cons_succ]
        try simp only [List.set_cons_zero]
        refine wpAnyH_ready (rs := [0, 7]) (by kernel_rfl) (by simp) ?_
        refine AllReadyH.cons rfl (fun K hK => ?_) (AllReadyH.cons rfl (fun K hK => ?_) AllReadyH.nil)
        · skip
          go_simp
          refine (plan_any _).mono ?_
          rintro e' yP ⟨rfl, hb⟩
          go_simp
          replace hA := hA.below hb
          replace hK0 := hK0.call hb
          refine hK.out _ _ (row_below hS hb) (fun hS => ?_)
          clear hK K
          try simp only [Act.put]
          try simp only [List.setIfInBounds_toArray]
          try simp only [List.set_cons_succ]
          try simp only [List.set_cons_zero]
          refine wpAnyH_ready (rs := [3, 7]) (by kernel_rfl) (by simp) ?_
          refine AllReadyH.cons rfl (fun K hK => ?_) (AllReadyH.cons rfl (fun K hK => ?_) AllReadyH.nil)
          · skip
            go_simp
            refine (stepEnter_any p b 8 (WS.set 8 vo) ⟨o1, o2, o3, o4⟩ 1 0 ⟨cA, 1, kc⟩ (word ⟨f1, f2, f3, f4⟩) (word ⟨d1, d2, d3, d4⟩) _ hA Hro.out Hk8b.out (by decide) (by decide) (word_bd Hd.out)).mono ?_
            rintro e' yS ⟨rfl, hA1, hK1⟩
            go_simp
            replace hK0 := hK0.trans hK1
            clear hA
            have hA := hA1
            clear hA1
            refine hK.out _ _ (hK1.row hS (by simpa using N_k.out)) (fun hS => ?_)
            clear hK K
            try simp only [Act.put]
            try simp only [List.setIfInBounds_toArray]
            try simp only [List.set_cons_succ]
            try simp only [List.set_cons_zero]
            refine wpAnyH_take_at (i := 4) (v := ?v4x15) (some 73) rfl rfl (by kernel_rfl) (by kernel_rfl) (by kernel_rfl) (fun _ _ _ h => h) (Or.inl ⟨by kernel_rfl, ?h4x15⟩) (by assumption) ?r4x15
            case h4x15 => (intro w hSw; (try dsimp only at hSw); go_simp; first | done | (with_reducible rfl))
            try simp only [Act.put]
            try simp only [List.setIfInBounds_toArray]
            try simp only [List.set_cons_succ]
            try simp only [List.set_cons_zero]
            refine wpAnyH_take_at (i := 5) (v := ?v5x16) (some 78) rfl rfl (by kernel_rfl) (by kernel_rfl) (by kernel_rfl) (fun _ _ _ h => h) (Or.inl ⟨by kernel_rfl, ?h5x16⟩) (by assumption) ?r5x16
            case h5x16 => (intro w hSw; (try dsimp only at hSw); go_simp; first | done | (with_reducible rfl))
            try simp only [Act.put]
            try simp only [List.setIfInBounds_toArray]
            try simp only [List.set_cons_succ]
            try simp only [List.set_cons_zero]
            refine wpAnyH_take_at (i := 6) (v := ?v6x17) (some 79) rfl rfl (by kernel_rfl) (by kernel_rfl) (by kernel_rfl) (fun _ _ _ h => h) (Or.inl ⟨by kernel_rfl, ?h6x17⟩) (by assumption) ?r6x17
            case h6x17 => (intro w hSw; (try dsimp only at hSw); go_simp; first | done | (with_reducible rfl))
            try simp only [Act.put]
            try simp only [List.setIfInBounds_toArray]
            try simp only [List.set_cons_succ]
            try simp only [List.set_cons_zero]
            refine wpAnyH_ready (rs := [7]) (by kernel_rfl) (by simp) ?_
            refine AllReadyH.cons rfl (fun K hK => ?_) AllReadyH.nil
            refine step_alloc_run (some 17) rfl rfl rfl ?_
            refine k_alloc (fun yZ hZ hb => ?_)
            have hz1 := lt_of_heap hA.box
            have hz2 := lt_of_heap hA.row
            have hz3 := lt_of_heap hS
            have hz4 := hK0.size
            obtain ⟨gZ, HgZ⟩ : ∃ x, x = yS.heap.size := ⟨_, rfl⟩
            rw [← HgZ] at hZ hz1 hz2 hz3 hz4 ⊢
            clear HgZ
            have hq1 : p ≠ gZ := by omega
            have hq2 : gZ ≠ b := by omega
            have hq3 : g_k ≠ gZ := by omega
            clear hz1 hz2 hz3
            replace hA := hA.below hb
            replace hK0 := hK0.call hb
            refine hK.out _ _ (row_below hS hb) (fun hS => ?_)
            clear hK K
            try simp only [Act.put]
            try simp only [List.setIfInBounds_toArray]
            try simp only [List.set_cons_succ]
            try simp only [List.set_cons_zero]
            refine wpAnyH_ready (rs := [8]) (by kernel_rfl) (by simp) ?_
            refine AllReadyH.cons rfl (fun K hK => ?_) AllReadyH.nil
            refine step_store_row none rfl rfl 40 (.tmp 17) (.tmp 78) rfl gZ (enterN (word ⟨o1, o2, o3, o4⟩) 1 0 ⟨cA, 1, kc⟩ (word ⟨f1, f2, f3, f4⟩) (word ⟨d1, d2, d3, d4⟩)).arr rfl rfl 40 ZRun hZ infoRun rfl (Rn.one _) ?_
            refine hK.out _ _ ((setRow_other _ _ _ _ hq3).trans hS) (fun hS => ?_)
            clear hK K
            try simp only [Act.put]
            try simp only [List.setIfInBounds_toArray]
            try simp only [List.set_cons_succ]
            try simp only [List.set_cons_zero]
            refine wpAnyH_take_at (i := 9) (v := ?v9x18) (some 18) rfl rfl (by kernel_rfl) (by kernel_rfl) (by kernel_rfl) (fun _ _ _ h => h) (Or.inl ⟨by kernel_rfl, ?h9x18⟩) (by assumption) ?r9x18
            case h9x18 => (intro w hSw; (try dsimp only at hSw); go_simp; first | done | (with_reducible rfl))
            try simp only [Act.put]
            try simp only [List.setIfInBounds_toArray]
            try simp only [List.set_cons_succ]
            try simp only [List.set_cons_zero]
            refine wpAnyH_done (by kernel_rfl) ?_ _
            go_wp2_with fail
            go_meet
            have hks := (Keep.refl [gZ] yZ).setRow (g := gZ) (.inl (by simp)) (enterN (word ⟨o1, o2, o3, o4⟩) 1 0 ⟨cA, 1, kc⟩ (word ⟨f1, f2, f3, f4⟩) (word ⟨d1, d2, d3, d4⟩)).arr
            exact ⟨gZ, rfl, rfl, hq2, setRow_heap _ _ _ _ _ _ hZ, hA.kept hks (by simpa using hq1) (by simpa using fun e => hq2 e.symm), hK0.setRow (.inr hz4) _⟩
          · skip
            refine step_alloc_run (some 17) rfl rfl rfl ?_
            refine k_alloc (fun yZ hZ hb => ?_)
            have hz1 := lt_of_heap hA.box
            have hz2 := lt_of_heap hA.row
            have hz3 := lt_of_heap hS
            have hz4 := hK0.size
            obtain ⟨gZ, HgZ⟩ : ∃ x, x = yP.heap.size := ⟨_, rfl⟩
            rw [← HgZ] at hZ hz1 hz2 hz3 hz4 ⊢
            clear HgZ
            have hq1 : p ≠ gZ := by omega
            have hq2 : gZ ≠ b := by omega
            have hq3 : g_k ≠ gZ := by omega
            clear hz1 hz2 hz3
            replace hA := hA.below hb
            replace hK0 := hK0.call hb
            refine hK.out _ _ (row_below hS hb) (fun hS => ?_)
            clear hK K
            try simp only [Act.put]
            try simp only [List.setIfInBounds_toArray]
            try simp only [List.set_cons_succ]
            try simp only [List.set_cons_zero]
            refine wpAnyH_ready (rs := [3]) (by kernel_rfl) (by simp) ?_
            refine AllReadyH.cons rfl (fun K hK => ?_) AllReadyH.nil
            go_simp
            refine (stepEnter_any p b 8 (WS.set 8 vo) ⟨o1, o2, o3, o4⟩ 1 0 ⟨cA, 1, kc⟩ (word ⟨f1, f2, f3, f4⟩) (word ⟨d1, d2, d3, d4⟩) _ hA Hro.out Hk8b.out (by decide) (by decide) (word_bd Hd.out)).mono ?_
            rintro e' yS ⟨rfl, hA1, hK1⟩
            go_simp
            replace hK0 := hK0.trans hK1
            replace hZ := hK1.row hZ (by simpa using hq2)
            clear hA
            have hA := hA1
            clear hA1
            refine hK.out _ _ (hK1.row hS (by simpa using N_k.out)) (fun hS => ?_)
            clear hK K
            try simp only [Act.put]
            try simp only [List.setIfInBounds_toArray]
            try simp only [List.set_cons_succ]
            try simp only [List.set_cons_zero]
            refine wpAnyH_take_at (i := 4) (v := ?v4x19) (some 73) rfl rfl (by kernel_rfl) (by kernel_rfl) (by kernel_rfl) (fun _ _ _ h => h) (Or.inl ⟨by kernel_rfl, ?h4x19⟩) (by assumption) ?r4x19
            case h4x19 => (intro w hSw; (try dsimp only at hSw); go_simp; first | done | (with_reducible rfl))
            try simp only [Act.put]
            try simp only [List.setIfInBounds_toArray]
            try simp only [List.set_cons_succ]
            try simp only [List.set_cons_zero]
            refine wpAnyH_take_at (i := 5) (v := ?v5x20) (some 78) rfl rfl (by kernel_rfl) (by kernel_rfl) (by kernel_rfl) (fun _ _ _ h => h) (Or.inl ⟨by kernel_rfl, ?h5x20⟩) (by assumption) ?r5x20
            case h5x20 => (intro w hSw; (try dsimp only at hSw); go_simp; first | done | (with_reducible rfl))
            try simp only [Act.put]
            try simp only [List.setIfInBounds_toArray]
            try simp only [List.set_cons_succ]
            try simp only [List.set_cons_zero]
            refine wpAnyH_take_at (i := 6) (v := ?v6x21) (some 79) rfl rfl (by kernel_rfl) (by kernel_rfl) (by kernel_rfl) (fun _ _ _ h => h) (Or.inl ⟨by kernel_rfl, ?h6x21⟩) (by assumption) ?r6x21
            case h6x21 => (intro w hSw; (try dsimp only at hSw); go_simp; first | done | (with_reducible rfl))
            try simp only [Act.put]
            try simp only [List.setIfInBounds_toArray]
            try simp only [List.set_cons_succ]
            try simp only [List.set_cons_zero]
            refine wpAnyH_ready (rs := [8]) (by kernel_rfl) (by simp) ?_
            refine AllReadyH.cons rfl (fun K hK => ?_) AllReadyH.nil
            refine step_store_row none rfl rfl 40 (.tmp 17) (.tmp 78) rfl gZ (enterN (word ⟨o1, o2, o3, o4⟩) 1 0 ⟨cA, 1, kc⟩ (word ⟨f1, f2, f3, f4⟩) (word ⟨d1, d2, d3, d4⟩)).arr rfl rfl 40 ZRun hZ infoRun rfl (Rn.one _) ?_
            refine hK.out _ _ ((setRow_other _ _ _ _ hq3).trans hS) (fun hS => ?_)
            clear hK K
            try simp only [Act.put]
            try simp only [List.setIfInBounds_toArray]
            try simp only [List.set_cons_succ]
            try simp only [List.set_cons_zero]
            refine wpAnyH_take_at (i := 9) (v := ?v9x22) (some 18) rfl rfl (by kernel_rfl) (by kernel_rfl) (by kernel_rfl) (fun _ _ _ h => h) (Or.inl ⟨by kernel_rfl, ?h9x22⟩) (by assumption) ?r9x22
            case h9x22 => (intro w hSw; (try dsimp only at hSw); go_simp; first | done | (with_reducible rfl))
            try simp only [Act.put]
            try simp only [List.setIfInBounds_toArray]
            try simp only [List.set_cons_succ]
            try simp only [List.set_cons_zero]
            refine wpAnyH_done (by kernel_rfl) ?_ _
            go_wp2_with fail
            go_meet
            have hks := (Keep.refl [gZ] yS).setRow (g := gZ) (.inl (by simp)) (enterN (word ⟨o1, o2, o3, o4⟩) 1 0 ⟨cA, 1, kc⟩ (word ⟨f1, f2, f3, f4⟩) (word ⟨d1, d2, d3, d4⟩)).arr
            exact ⟨gZ, rfl, rfl, hq2, setRow_heap _ _ _ _ _ _ hZ, hA.kept hks (by simpa using hq1) (by simpa using fun e => hq2 e.symm), hK0.setRow (.inr hz4) _⟩
        · skip
          refine step_alloc_run (some 17) rfl rfl rfl ?_
          refine k_alloc (fun yZ hZ hb => ?_)
          have hz1 := lt_of_heap hA.box
          have hz2 := lt_of_heap hA.row
          have hz3 := lt_of_heap hS
          have hz4 := hK0.size
          obtain ⟨gZ, HgZ⟩ : ∃ x, x = y0.heap.size := ⟨_, rfl⟩
          rw [← HgZ] at hZ hz1 hz2 hz3 hz4 ⊢
          clear HgZ
          have hq1 : p ≠ gZ := by omega
          have hq2 : gZ ≠ b := by omega
          have hq3 : g_k ≠ gZ := by omega
          clear hz1 hz2 hz3
          replace hA := hA.below hb
          replace hK0 := hK0.call hb
          refine hK.out _ _ (row_below hS hb) (fun hS => ?_)
          clear hK K
          try simp only [Act.put]
          try simp only [List.setIfInBounds_toArray]
          try simp only [List.set_cons_succ]
          try simp only [List.set_cons_zero]
          refine wpAnyH_ready (rs := [0]) (by kernel_rfl) (by simp) ?_
          refine AllReadyH.cons rfl (fun K hK => ?_) AllReadyH.nil
          go_simp
          refine (plan_any _).mono ?_
          rintro e' yP ⟨rfl, hb⟩
          go_simp
          replace hA := hA.below hb
          replace hK0 := hK0.call hb
          replace hZ := row_below hZ hb
          refine hK.out _ _ (row_below hS hb) (fun hS => ?_)
          clear hK K
          try simp only [Act.put]
          try simp only [List.setIfInBounds_toArray]
          try simp only [List.set_cons_succ]
          try simp only [List.set_cons_zero]
          refine wpAnyH_ready (rs := [3]) (by kernel_rfl) (by simp) ?_
          refine AllReadyH.cons rfl (fun K hK => ?_) AllReadyH.nil
          go_simp
          refine (stepEnter_any p b 8 (WS.set 8 vo) ⟨o1, o2, o3, o4⟩ 1 0 ⟨cA, 1, kc⟩ (word ⟨f1, f2, f3, f4⟩) (word ⟨d1, d2, d3, d4⟩) _ hA Hro.out Hk8b.out (by decide) (by decide) (word_bd Hd.out)).mono ?_
          rintro e' yS ⟨rfl, hA1, hK1⟩
          go_simp
          replace hK0 := hK0.trans hK1
          replace hZ := hK1.row hZ (by simpa using hq2)
          clear hA
          have hA := hA1
          clear hA1
          refine hK.out _ _ (hK1.row hS (by simpa using N_k.out)) (fun hS => ?_)
          clear hK K
          try simp only [Act.put]
          try simp only [List.setIfInBounds_toArray]
          try simp only [List.set_cons_succ]
          try simp only [List.set_cons_zero]
          refine wpAnyH_take_at (i := 4) (v := ?v4x23) (some 73) rfl rfl (by kernel_rfl) (by kernel_rfl) (by kernel_rfl) (fun _ _ _ h => h) (Or.inl ⟨by kernel_rfl, ?h4x23⟩) (by assumption) ?r4x23
          case h4x23 => (intro w hSw; (try dsimp only at hSw); go_simp; first | done | (with_reducible rfl))
          try simp only [Act.put]
          try simp only [List.setIfInBounds_toArray]
          try simp only [List.set_cons_succ]
          try simp only [List.set_cons_zero]
          refine wpAnyH_take_at (i := 5) (v := ?v5x24) (some 78) rfl rfl (by kernel_rfl) (by kernel_rfl) (by kernel_rfl) (fun _ _ _ h => h) (Or.inl ⟨by kernel_rfl, ?h5x24⟩) (by assumption) ?r5x24
          case h5x24 => (intro w hSw; (try dsimp only at hSw); go_simp; first | done | (with_reducible rfl))
          try simp only [Act.put]
          try simp only [List.setIfInBounds_toArray]
          try simp only [List.set_cons_succ]
          try simp only [List.set_cons_zero]
          refine wpAnyH_take_at (i := 6) (v := ?v6x25) (some 79) rfl rfl (by kernel_rfl) (by kernel_rfl) (by kernel_rfl) (fun _ _ _ h => h) (Or.inl ⟨by kernel_rfl, ?h6x25⟩) (by assumption) ?r6x25
          case h6x25 => (intro w hSw; (try dsimp only at hSw); go_simp; first | done | (with_reducible rfl))
          try simp only [Act.put]
          try simp only [List.setIfInBounds_toArray]
          try simp only [List.set_cons_succ]
          try simp only [List.set_cons_zero]
          refine wpAnyH_ready (rs := [8]) (by kernel_rfl) (by simp) ?_
          refine AllReadyH.cons rfl (fun K hK => ?_) AllReadyH.nil
          refine step_store_row none rfl rfl 40 (.tmp 17) (.tmp 78) rfl gZ (enterN (word ⟨o1, o2, o3, o4⟩) 1 0 ⟨cA, 1, kc⟩ (word ⟨f1, f2, f3, f4⟩) (word ⟨d1, d2, d3, d4⟩)).arr rfl rfl 40 ZRun hZ infoRun rfl (Rn.one _) ?_
          refine hK.out _ _ ((setRow_other _ _ _ _ hq3).trans hS) (fun hS => ?_)
          clear hK K
          try simp only [Act.put]
          try simp only [List.setIfInBounds_toArray]
          try simp only [List.set_cons_succ]
          try simp only [List.set_cons_zero]
          refine wpAnyH_take_at (i := 9) (v := ?v9x26) (some 18) rfl rfl (by kernel_rfl) (by kernel_rfl) (by kernel_rfl) (fun _ _ _ h => h) (Or.inl ⟨by kernel_rfl, ?h9x26⟩) (by assumption) ?r9x26
          case h9x26 => (intro w hSw; (try dsimp only at hSw); go_simp; first | done | (with_reducible rfl))
          try simp only [Act.put]
          try simp only [List.setIfInBounds_toArray]
          try simp only [List.set_cons_succ]
          try simp only [List.set_cons_zero]
          refine wpAnyH_done (by kernel_rfl) ?_ _
          go_wp2_with fail
          go_meet
          have hks := (Keep.refl [gZ] yS).setRow (g := gZ) (.inl (by simp)) (enterN (word ⟨o1, o2, o3, o4⟩) 1 0 ⟨cA, 1, kc⟩ (word ⟨f1, f2, f3, f4⟩) (word ⟨d1, d2, d3, d4⟩)).arr
          exact ⟨gZ, rfl, rfl, hq2, setRow_heap _ _ _ _ _ _ hZ, hA.kept hks (by simpa using hq1) (by simpa using fun e => hq2 e.symm), hK0.setRow (.inr hz4) _⟩
      case rest =>
        obtain ⟨g_t, rfl, rfl, hgb, hRr, hA, hK⟩ := hcut
        obtain ⟨w15, hwx⟩ : ∃ x, x = wc := ⟨_, rfl⟩
        subst hwx
        have N_t := Lib.hid hgb
        clear hgb
        replace H_x := Lib.hid (hK.row H_x.out (by simpa using N_x.out))
        replace H_c := Lib.hid (hK.row H_c.out (by simpa using N_c.out))
        replace H_o := Lib.hid (hK.row H_o.out (by simpa using N_o.out))
        replace H_r := Lib.hid (hK.row H_r.out (by simpa using N_r.out))
        replace H_k := Lib.hid (hK.row H_k.out (by simpa using N_k.out))
        replace E_ch := Lib.hid (ents_kept E_ch.out hK (by simpa using F_ch.out))
        replace HA := Lib.hid hA
        replace B := Lib.hid (Keep.under B.out hK (by have := B.out.size; omega) (by simp; exact Hb.out))
        clear hA hK
        have H_t := Lib.hid (show w15.heap[g_t]? = some (.cells (enterN (word ⟨o1, o2, o3, o4⟩) 1 0 ⟨cA, 1, kc⟩ (word ⟨f1, f2, f3, f4⟩) (word ⟨d1, d2, d3, d4⟩)).arr 40 (0, 0)) from hRr)
        clear hRr
        by_cases hoc : (⟨o1, o2, o3, o4⟩ : Ctl) = ⟨f1, f2, f3, f4⟩
        · skip
          have Hl2 : Hid ((enterN (word ⟨o1, o2, o3, o4⟩) 1 0 ⟨cA, 1, kc⟩ (word ⟨f1, f2, f3, f4⟩) (word ⟨d1, d2, d3, d4⟩)) = (toldR (wayR 1 0 ⟨cA, 1, kc⟩ (word ⟨f1, f2, f3, f4⟩) (word ⟨d1, d2, d3, d4⟩)) 0 0 noS)) := Lib.hid (by unfold enterN; rw [hoc, if_pos rfl])
          rw [Hl2.out] at H_t
          have hq : ctlEq ⟨o1, o2, o3, o4⟩ ⟨f1, f2, f3, f4⟩ = true := (ctlEq_iff _ _).2 hoc
          clear hoc
          obtain ⟨o_0, o_1, o_2, o_3, o_f0, o_f1, o_f2, o_f3⟩ := box4 H_o.out
          have z_o := lt_of_heap H_o.out
          obtain ⟨c_0, c_1, c_2, c_3, c_f0, c_f1, c_f2, c_f3⟩ := box4 H_c.out
          have z_c := lt_of_heap H_c.out
          have t_21 : w15.cell? ⟨g_t, 21, none⟩ = some (.bool true) := by rw [row_cell H_t.out]; rfl
          have t_23 : w15.cell? ⟨g_t, 23, none⟩ = some (.int .i64 0) := by rw [row_cell H_t.out]; rfl
          have z_t := lt_of_heap H_t.out
          have B2 := B.out
          clear B
          go_wp2_with fail
          go_quiet (fail)
          go_wp2_with fail
          go_ret
          exact ⟨by first | rfl | simp, by first | exact B2 | (repeat (first | exact B2 | refine below_drewN ?_ _ | refine Below.drew ?_))⟩
        · skip
          have hne : word ⟨o1, o2, o3, o4⟩ ≠ word ⟨f1, f2, f3, f4⟩ := fun h => hoc (word_inj Hro.out Hr.out h)
          have Hl2 : Hid ((enterN (word ⟨o1, o2, o3, o4⟩) 1 0 ⟨cA, 1, kc⟩ (word ⟨f1, f2, f3, f4⟩) (word ⟨d1, d2, d3, d4⟩)) = (callRn 1 0 ⟨cA, 1, kc⟩)) := Lib.hid (by unfold enterN; rw [if_neg hne])
          rw [Hl2.out] at H_t
          have hws : ((WS.set 8 vo).set 8 (enterW (word ⟨o1, o2, o3, o4⟩) (word ⟨f1, f2, f3, f4⟩) (word ⟨d1, d2, d3, d4⟩))) = WS.set 8 vo := by unfold enterW; rw [if_neg hne]; exact set_same Hk8b.out
          rw [hws] at HA
          have hq : ctlEq ⟨o1, o2, o3, o4⟩ ⟨f1, f2, f3, f4⟩ = false := by
            cases hx : ctlEq ⟨o1, o2, o3, o4⟩ ⟨f1, f2, f3, f4⟩ with
            | true => exact absurd ((ctlEq_iff _ _).1 hx) hoc
            | false => rfl
          have Hv8 : Hid ((WS.set 8 vo)[8]? = some vo) := Lib.hid (Hk8b.out.trans (by rw [Hvo.out]))
          clear hoc hne hws
          obtain ⟨o_0, o_1, o_2, o_3, o_f0, o_f1, o_f2, o_f3⟩ := box4 H_o.out
          have z_o := lt_of_heap H_o.out
          obtain ⟨c_0, c_1, c_2, c_3, c_f0, c_f1, c_f2, c_f3⟩ := box4 H_c.out
          have z_c := lt_of_heap H_c.out
          have t_21 : w15.cell? ⟨g_t, 21, none⟩ = some (.bool false) := by rw [row_cell H_t.out]; rfl
          have z_t := lt_of_heap H_t.out
          go_wp2_with fail
          go_quiet (fail)
          go_wp2_with fail
          clear o_0 o_1 o_2 o_3 o_f0 o_f1 o_f2 o_f3 z_o c_0 c_1 c_2 c_3 c_f0 c_f1 c_f2 c_f3 z_c t_21 z_t
          have hb : Below w15.heap.size w15 (w15.drewN nq) := below_drewN (Below.refl _ _) _
          generalize w15.drewN nq = x1 at hb ⊢
          have hsz := (hb).size
          replace H_x := Lib.hid (row_below H_x.out hb)
          replace H_c := Lib.hid (row_below H_c.out hb)
          replace H_o := Lib.hid (row_below H_o.out hb)
          replace H_r := Lib.hid (row_below H_r.out hb)
          replace H_k := Lib.hid (row_below H_k.out hb)
          replace H_t := Lib.hid (row_below H_t.out hb)
          replace E_ch := Lib.hid (Ents.below E_ch.out hb)
          replace HA := Lib.hid (HA.out.below hb)
          replace B := Lib.hid (below_only B.out hb)
          clear hb hsz
          refine (rplanAt_any 0 1 _ (by decide) (by decide)).mono ?_
          rintro r xa ⟨rfl, e2⟩
          rw [e2, show (64 * 1 + 8 * 0 : Int) = ((8 * 8 : Nat) : Int) by decide]
          clear e2 xa
          go_wp2_with fail
          refine (arnWord_any p b (WS.set 8 vo) 8 vo _ HA.out Hv8.out).mono ?_
          rintro r x3 ⟨rfl, e2⟩
          rw [e2]
          clear e2 x3
          go_wp2_with (first | refine wpList_load_row_w (by rfl) 40 (.tmp 17) rfl g_t rfl 40 (callRn 1 0 ⟨cA, 1, kc⟩).arr (0, 0) _ H_t.out undRun rfl infoRun ?_ | refine wpList_load_row_w (by rfl) 40 (.tmp 12) rfl g_r rfl 40 (callRn 1 0 ⟨cA, 1, kc⟩).arr (0, 0) _ H_r.out undRun rfl infoRun ?_)
          refine (same_self (callRn 1 0 ⟨cA, 1, kc⟩) cA kc [((0 : Int), true)] _ rfl (by simp) E_ch.out rfl rfl rfl).mono ?_
          rintro r x4 ⟨rfl, hb⟩
          have hsz := (hb).size
          replace H_x := Lib.hid (row_below H_x.out hb)
          replace H_c := Lib.hid (row_below H_c.out hb)
          replace H_o := Lib.hid (row_below H_o.out hb)
          replace H_r := Lib.hid (row_below H_r.out hb)
          replace H_k := Lib.hid (row_below H_k.out hb)
          replace H_t := Lib.hid (row_below H_t.out hb)
          replace E_ch := Lib.hid (Ents.below E_ch.out hb)
          replace HA := Lib.hid (HA.out.below hb)
          replace B := Lib.hid (below_only B.out hb)
          clear hb hsz
          have B2 := B.out
          clear B
          go_wp2_with fail
          go_ret
          exact ⟨by first | rfl | simp, B2⟩

end Go.Proofs.Ytconieenkeajiaa
