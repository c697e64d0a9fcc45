/- Layer 17: the walk of EnterTouches. -/
import Derived.Test.YtconieenkeajiaaTouch
import Derived.Test.YtconieenkeajiaaEnterOpen
namespace Go.Proofs.Ytconieenkeajiaa
open Go.RowKit
set_option linter.unusedVariables false
set_option linter.unusedSimpArgs false

set_option maxRecDepth 100000 in
set_option maxHeartbeats 8000000 in
theorem enterTouches_walk (s1 n1 p1 e1 s2 n2 p2 e2 s3 n3 p3 e3 : Int) (A : Option Addr) (cp : Nat) (L : List Tn) (w : World) (hLk : L.length ≤ cp) (hkm : cp ≤ maxLen) (hL : Cells w A (L.flatMap tnCells)) (hq : ∀ t ∈ L, TnOk t) :
    Calls Try.prog 8 #[.agg #[.int .i64 s1, .int .i64 n1, .int .i64 p1, .int .i64 e1, .int .i64 s2, .int .i64 n2, .int .i64 p2, .int .i64 e2, .int .i64 s3, .int .i64 n3, .int .i64 p3, .int .i64 e3], .slice A L.length cp] w fun r w' => r = .returned (.bool true) ∧ Below w.heap.size w w' := by
  have hlm : L.length ≤ 9223372036854775807 := by unfold maxLen at hkm; omega
  have HL0 := Lib.hid hL
  have Hq := Lib.hid hq
  obtain ⟨WS, HWS⟩ : ∃ x, Hid (laidWs ⟨s1, n1, p1, e1⟩ ⟨s2, n2, p2, e2⟩ ⟨s3, n3, p3, e3⟩ = x) := ⟨_, rfl⟩
  clear hL hq hkm
  go_enter Try.func8, Try.ntmps8
  go_upto_region 1 with fail
  refine one_row w _ _ ?_
  intro w1 hr hb
  have B := Lib.hid (hb)
  have H_x := Lib.hid (show w1.heap[w.heap.size]? = some (.cells #[.int .i64 s1, .int .i64 n1, .int .i64 p1, .int .i64 e1, .int .i64 s2, .int .i64 n2, .int .i64 p2, .int .i64 e2, .int .i64 s3, .int .i64 n3, .int .i64 p3, .int .i64 e3] 24 (0, 0)) from hr)
  clear hr hb
  go_wp2_with fail
  refine (shown_any _).mono ?_
  rintro r w2 ⟨rfl, hb⟩
  have hsz := (hb).size
  replace H_x := Lib.hid (row_below H_x.out hb)
  replace B := Lib.hid (below_only B.out hb)
  clear hb hsz
  have x_0 : w2.cell? ⟨w.heap.size, 0, none⟩ = some (.int .i64 s1) := by rw [row_cell H_x.out]; rfl
  have x_1 : w2.cell? ⟨w.heap.size, 1, none⟩ = some (.int .i64 n1) := by rw [row_cell H_x.out]; rfl
  have x_2 : w2.cell? ⟨w.heap.size, 2, none⟩ = some (.int .i64 p1) := by rw [row_cell H_x.out]; rfl
  have x_3 : w2.cell? ⟨w.heap.size, 3, none⟩ = some (.int .i64 e1) := by rw [row_cell H_x.out]; rfl
  have x_4 : w2.cell? ⟨w.heap.size, 4, none⟩ = some (.int .i64 s2) := by rw [row_cell H_x.out]; rfl
  have x_5 : w2.cell? ⟨w.heap.size, 5, none⟩ = some (.int .i64 n2) := by rw [row_cell H_x.out]; rfl
  have x_6 : w2.cell? ⟨w.heap.size, 6, none⟩ = some (.int .i64 p2) := by rw [row_cell H_x.out]; rfl
  have x_7 : w2.cell? ⟨w.heap.size, 7, none⟩ = some (.int .i64 e2) := by rw [row_cell H_x.out]; rfl
  have x_8 : w2.cell? ⟨w.heap.size, 8, none⟩ = some (.int .i64 s3) := by rw [row_cell H_x.out]; rfl
  have x_9 : w2.cell? ⟨w.heap.size, 9, none⟩ = some (.int .i64 n3) := by rw [row_cell H_x.out]; rfl
  have x_10 : w2.cell? ⟨w.heap.size, 10, none⟩ = some (.int .i64 p3) := by rw [row_cell H_x.out]; rfl
  have x_11 : w2.cell? ⟨w.heap.size, 11, none⟩ = some (.int .i64 e3) := by rw [row_cell H_x.out]; rfl
  go_wp2_with fail
  clear x_0 x_1 x_2 x_3 x_4 x_5 x_6 x_7 x_8 x_9 x_10 x_11
  refine (laid_any s1 n1 p1 e1 s2 n2 p2 e2 s3 n3 p3 e3 _).mono ?_
  rintro r w3 ⟨p, b, X, qq, d, rfl, hT, hb⟩
  rw [HWS.out] at hT
  have HA : Hid (Arn w3 p b WS) := Lib.hid hT.a
  have Hb : Hid (w.heap.size ≤ b) := Lib.hid (by have := hT.low; have := B.out.size; omega)
  have HOk : Hid (Okw WS) := Lib.hid (by rw [← HWS.out]; exact okw_laid _ _ _)
  clear hT
  have hsz := (hb).size
  replace H_x := Lib.hid (row_below H_x.out hb)
  replace B := Lib.hid (below_only B.out hb)
  clear hb hsz
  clear H_x
  go_upto_region 6 with (first | (refine wpList_build_to rfl 40 _ rfl dRn.arr (by simp only [List.map_toArray, List.map_cons, List.map_nil]; exact built_d) ?_; (try simp only [Act.put]); (try simp only [List.setIfInBounds_toArray]); (try simp only [List.set_cons_succ]); (try simp only [List.set_cons_zero])) | (refine wpList_build_to rfl 41 _ rfl (runs4 [dRn, dRn, dRn, dRn]) (by simp only [List.map_toArray, List.map_cons, List.map_nil]; exact built_4 dRn dRn dRn dRn) ?_; (try simp only [Act.put]); (try simp only [List.setIfInBounds_toArray]); (try simp only [List.set_cons_succ]); (try simp only [List.set_cons_zero])) | (refine wpList_alloc_to rfl 41 rfl _ (alloc4 _) ?_; (try simp only [Act.put]); (try simp only [List.setIfInBounds_toArray]); (try simp only [List.set_cons_succ]); (try simp only [List.set_cons_zero])) | (refine wpList_store_row rfl 41 (.tmp 8) (.tmp 44) rfl w3.heap.size (runs4 [dRn, dRn, dRn, dRn]) rfl rfl 41 _ (row_new _ _ _) info4 rfl (runs_one _) ?_; (try simp only [Act.put]); (try simp only [List.setIfInBounds_toArray]); (try simp only [List.set_cons_succ]); (try simp only [List.set_cons_zero])))
  refine alloc_set' w3 _ _ _ ?_
  intro w4 hr hb
  have hlB := B.out.size
  have hlt := lt_of_heap HA.out.row
  have hlp := lt_of_heap HA.out.box
  have hsz := (hb).size
  replace HA := Lib.hid (HA.out.below hb)
  replace B := Lib.hid (below_only B.out hb)
  clear hb hsz
  have H_g := Lib.hid (show w4.heap[w3.heap.size]? = some (.cells (runs4 [dRn, dRn, dRn, dRn]) 41 (0, 0)) from hr)
  clear hr
  obtain ⟨g_g, hg_g⟩ : ∃ x, x = w3.heap.size := ⟨_, rfl⟩
  rw [← hg_g] at H_g ⊢
  have N_g : Hid (g_g ≠ b) := Lib.hid (by omega)
  have NP_g : Hid (p ≠ g_g) := Lib.hid (by omega)
  clear hlt hlp
  have L_g : Hid (w.heap.size ≤ g_g) := Lib.hid (by omega)
  clear hg_g hlB
  obtain ⟨FF, HFF⟩ : ∃ x, Hid (x = [b, g_g]) := ⟨_, Lib.hid rfl⟩
  have HAll : Hid (AllT w4 FF [dRn, dRn, dRn, dRn]) := Lib.hid ⟨rfl, fun r hr => .inl (by simp at hr; rw [hr]; rfl)⟩
  go_wp2_with fail
  go_loopw [9] (fun t wr => ∃ (i : Nat) (ws : List Int) (l : List Rn), i ≤ L.length ∧ i ≤ 100 ∧ t = .int .i64 i ∧ Okw ws ∧ AllT wr FF l ∧ Arn wr p b ws ∧ wr.heap[g_g]? = some (.cells (runs4 l) 41 (0, 0)) ∧ Below w.heap.size w wr) (fun t _ => (100 - intOf t).toNat)
  case atStart => exact ⟨0, WS, _, Nat.zero_le _, by omega, rfl, HOk.out, HAll.out, HA.out, H_g.out, B.out⟩
  case round =>
    clear HA H_g B HAll HOk
    obtain ⟨i, ws, l, hi, hi2, rfl, hok, hall, hA, hg, hB⟩ := hrel
    have HOk := Lib.hid hok
    have HAll := Lib.hid hall
    have HA := Lib.hid hA
    have H_g := Lib.hid hg
    have B := Lib.hid hB
    clear hok hall hA hg hB
    by_cases hlt : i < L.length ∧ i < 100
    · skip
      obtain ⟨hlt, hlt2⟩ := hlt
      obtain ⟨bA, off, rfl, hbA, hcA⟩ := tns_at HL0.out (by omega)
      obtain ⟨⟨tw, ts, tf, ⟨tc1, tc2, tc3, tc4⟩⟩, htn⟩ : ∃ t, L[i]? = some t := ⟨_, List.getElem?_eq_getElem hlt⟩
      obtain ⟨⟨tw0, tw1⟩, ⟨ts0, ts1⟩, ⟨tf0, tf1⟩⟩ := Hq.out _ (List.mem_of_getElem? htn)
      obtain ⟨k0, k1, k2, k3, k4, k5, k6⟩ := hcA i _ htn
      simp only at tw0 tw1 ts0 ts1 tf0 tf1 k0 k1 k2 k3 k4 k5 k6
      replace k0 := (B.out.cell (p := ⟨bA, off + i * 7, none⟩) hbA).trans k0
      replace k1 := (B.out.cell (p := ⟨bA, off + i * 7 + 1, none⟩) hbA).trans k1
      replace k2 := (B.out.cell (p := ⟨bA, off + i * 7 + 2, none⟩) hbA).trans k2
      replace k3 := (B.out.cell (p := ⟨bA, off + i * 7 + 3, none⟩) hbA).trans k3
      replace k4 := (B.out.cell (p := ⟨bA, off + i * 7 + 4, none⟩) hbA).trans k4
      replace k5 := (B.out.cell (p := ⟨bA, off + i * 7 + 5, none⟩) hbA).trans k5
      replace k6 := (B.out.cell (p := ⟨bA, off + i * 7 + 6, none⟩) hbA).trans k6
      have hbA2 : bA < wr.heap.size := Nat.lt_of_lt_of_le hbA B.out.size
      clear hcA htn
      obtain ⟨sn, hsn⟩ : ∃ sn : Nat, (sn : Int) = 1 + ts % 3 := ⟨(1 + ts % 3).toNat, by omega⟩
      obtain ⟨sc, hsc⟩ : ∃ sc : Int, sc = 1 + ts % 3 := ⟨_, rfl⟩
      have Hsn : Hid ((sn : Int) = sc ∧ 1 ≤ sn ∧ sn ≤ 3 ∧ (1 ≤ sc ∧ sc ≤ 3) ∧ sc = 1 + ts % 3) := Lib.hid (by omega)
      have es : 1 + ts.tmod 3 = sc := by rw [hsc, Int.tmod_eq_emod_of_nonneg ts0]
      have es' : 1 + ts % 3 = sc := hsc.symm
      clear hsn hsc
      obtain ⟨kn, hkn⟩ : ∃ kn : Nat, (kn : Int) = tw % 4 := ⟨(tw % 4).toNat, by omega⟩
      have ek : tw.tmod 4 = (kn : Int) := by rw [hkn, Int.tmod_eq_emod_of_nonneg tw0]
      have ek' : tw % 4 = (kn : Int) := hkn.symm
      have kn4 : kn < 4 := by omega
      have hkI : (kn : Int) < 4 := by omega
      have hkI0 : 0 ≤ (kn : Int) := by omega
      have Htf := Lib.hid (And.intro (And.intro ts0 ts1) (And.intro tf0 tf1))
      clear hkn
      go_upto_region 10 with fail
      refine one_row wr _ _ ?_
      intro x1 hr hb
      have hlB := B.out.size
      have hlt := lt_of_heap HA.out.row
      have hlp := lt_of_heap HA.out.box
      have hl_g := lt_of_heap H_g.out
      replace HAll := Lib.hid (HAll.out.below hb)
      have hsz := (hb).size
      replace H_g := Lib.hid (row_below H_g.out hb)
      replace HA := Lib.hid (HA.out.below hb)
      replace B := Lib.hid (below_only B.out hb)
      clear hb hsz
      have H_t := Lib.hid (show x1.heap[wr.heap.size]? = some (.cells #[.int .u8 tw, .int .u8 ts, .int .u8 tf, .int .i64 tc1, .int .i64 tc2, .int .i64 tc3, .int .i64 tc4] 43 (0, 0)) from hr)
      clear hr
      obtain ⟨g_t, hg_t⟩ : ∃ x, x = wr.heap.size := ⟨_, rfl⟩
      rw [← hg_t] at H_t ⊢
      have N_t : Hid (g_t ≠ b) := Lib.hid (by omega)
      have NP_t : Hid (p ≠ g_t) := Lib.hid (by omega)
      clear hlt hlp
      have M_g_t : Hid (g_g ≠ g_t) := Lib.hid (by omega)
      have M_t_g : Hid (g_t ≠ g_g) := Lib.hid (by omega)
      clear hl_g
      have L_t : Hid (w.heap.size ≤ g_t) := Lib.hid (by omega)
      clear hg_t hlB
      clear k0 k1 k2 k3 k4 k5 k6
      have t_0 : x1.cell? ⟨g_t, 0, none⟩ = some (.int .u8 tw) := by rw [row_cell H_t.out]; rfl
      have t_1 : x1.cell? ⟨g_t, 1, none⟩ = some (.int .u8 ts) := by rw [row_cell H_t.out]; rfl
      have t_2 : x1.cell? ⟨g_t, 2, none⟩ = some (.int .u8 tf) := by rw [row_cell H_t.out]; rfl
      have t_3 : x1.cell? ⟨g_t, 3, none⟩ = some (.int .i64 tc1) := by rw [row_cell H_t.out]; rfl
      have t_4 : x1.cell? ⟨g_t, 4, none⟩ = some (.int .i64 tc2) := by rw [row_cell H_t.out]; rfl
      have t_5 : x1.cell? ⟨g_t, 5, none⟩ = some (.int .i64 tc3) := by rw [row_cell H_t.out]; rfl
      have t_6 : x1.cell? ⟨g_t, 6, none⟩ = some (.int .i64 tc4) := by rw [row_cell H_t.out]; rfl
      have z_t := lt_of_heap H_t.out
      by_cases h7 : tw % 8 = 7
      · skip
        have q1 : (tw % 8 == 7) = true := by simpa using h7
        have q2 : (tw.tmod 8 == 7) = true := by rw [Int.tmod_eq_emod_of_nonneg tw0]; exact q1
        clear h7
        obtain ⟨f1, f2, f3, f4, HF⟩ : ∃ f1 f2 f3 f4, Hid (fit ⟨tc1, tc2, tc3, tc4⟩ = ⟨f1, f2, f3, f4⟩) := ⟨_, _, _, _, rfl⟩
        have Hr : Hid (Right ⟨f1, f2, f3, f4⟩) := Lib.hid (by rw [← HF.out]; exact fit_right _)
        have HP := Lib.hid (pack_right Hr.out)
        have HY := Lib.hid (word_bd Hr.out)
        obtain ⟨v, Hv⟩ : ∃ v, Hid (word ⟨f1, f2, f3, f4⟩ = v) := ⟨_, rfl⟩
        rw [Hv.out] at HP HY
        obtain ⟨co, hco, hko⟩ := HOk.out.c sn (by have := Hsn.out; omega)
        have Hko := Lib.hid hko
        clear hco hko
        have Hat : Hid (64 * sc + 8 * 0 = ((8 * sn * 8 : Nat) : Int)) := Lib.hid (by have := Hsn.out; omega)
        go_wp2_with fail
        refine (fit_as HF _).mono ?_
        rintro r x2 ⟨rfl, hb⟩
        clear t_0 t_1 t_2 t_3 t_4 t_5 t_6 z_t
        replace HAll := Lib.hid (HAll.out.below hb)
        have hsz := (hb).size
        replace H_g := Lib.hid (row_below H_g.out hb)
        replace H_t := Lib.hid (row_below H_t.out hb)
        replace HA := Lib.hid (HA.out.below hb)
        replace B := Lib.hid (below_only B.out hb)
        clear hb hsz
        go_wp2_with fail
        refine (rpack_as HP _).mono ?_
        rintro r x3 ⟨rfl, hb⟩
        replace HAll := Lib.hid (HAll.out.below hb)
        have hsz := (hb).size
        replace H_g := Lib.hid (row_below H_g.out hb)
        replace H_t := Lib.hid (row_below H_t.out hb)
        replace HA := Lib.hid (HA.out.below hb)
        replace B := Lib.hid (below_only B.out hb)
        clear hb hsz
        have t_1 : x3.cell? ⟨g_t, 1, none⟩ = some (.int .u8 ts) := by rw [row_cell H_t.out]; rfl
        have z_t := lt_of_heap H_t.out
        go_wp2_with fail
        refine (rplanAt_any 0 sc _ (by decide) (by have := Hsn.out; omega)).mono ?_
        rintro r xa ⟨rfl, e2⟩
        rw [e2, Hat.out]
        clear e2 xa
        go_wp2_with fail
        refine (arnPut_any p b _ (8 * sn) _ v _ HA.out Hko.out HY.out).mono ?_
        rintro r x4 ⟨rfl, hA, hK⟩
        clear t_1 z_t
        replace HAll := Lib.hid (HAll.out.kept hK (by rw [HFF.out]; simp))
        replace H_g := Lib.hid (hK.row H_g.out (by simpa using N_g.out))
        replace H_t := Lib.hid (hK.row H_t.out (by simpa using N_t.out))
        replace HA := Lib.hid hA
        replace B := Lib.hid (Keep.under B.out hK (by have := B.out.size; omega) (by simp; exact Hb.out))
        clear hA hK
        have HOk2 : Hid (Okw (ws.set (8 * sn) v)) := Lib.hid (by rw [← Hv.out]; exact HOk.out.set sn (by have := Hsn.out; omega) Hr.out)
        go_wp2_with fail
        go_roundw
        case rel => exact ⟨i + 1, _, l, by omega, by omega, by go_num, HOk2.out, HAll.out, HA.out, H_g.out, B.out⟩
        case measure => simp [intOf]; omega
      · skip
        have q1 : (tw % 8 == 7) = false := by simpa using h7
        have q2 : (tw.tmod 8 == 7) = false := by rw [Int.tmod_eq_emod_of_nonneg tw0]; exact q1
        clear h7
        obtain ⟨rk, hrk⟩ : ∃ r, l[kn]? = some r := ⟨_, List.getElem?_eq_getElem (by rw [HAll.out.1]; exact kn4)⟩
        have HRk := Lib.hid hrk
        clear hrk
        obtain ⟨dn, Hdn⟩ : ∃ x, Hid (rk.done = x) := ⟨_, Lib.hid rfl⟩
        have d8 : x1.cell? ⟨g_g, kn * 26 + 21, none⟩ = some (.bool dn) := runs_cell H_g.out HRk.out (by rw [← Hdn.out]; rfl)
        have z8 := lt_of_heap H_g.out
        go_upto_if 86 with fail
        clear t_0 t_1 t_2 t_3 t_4 t_5 t_6 z_t d8 z8
        try simp only [Act.put]
        go_cut [48, 49, 51, 52] from 86 to 93 (fun va vb vc vd wx => ∃ (l2 : List Rn) (r2 : Rn) (sx : Nat) (ax : Int) (cA : Option Addr) (kc : Nat), l2[kn]? = some r2 ∧ WayT r2 (sx : Int) ax ⟨cA, 1, kc⟩ ∧ (1 ≤ sx ∧ sx ≤ 3) ∧ (0 ≤ ax ∧ ax ≤ 3) ∧ Ents wx cA [(ax, true)] ∧ (∀ z, 0 < [(ax, true)].length → cA = some z → z.block ∉ FF) ∧ AllT wx FF l2 ∧ Arn wx p b ws ∧ wx.heap[g_g]? = some (.cells (runs4 l2) 41 (0, 0)) ∧ Below w.heap.size w wx)
        case first =>
          cases dn with
          | false =>
            go_wp2_with fail
            go_meet
            rcases HAll.out.2 rk (List.mem_of_getElem? HRk.out) with h | ⟨s, a, cA, kc, h1, h2, h3, h4, h5⟩
            · rw [Hdn.out] at h; cases h
            · obtain ⟨sx, rfl⟩ : ∃ sx : Nat, s = (sx : Int) := ⟨s.toNat, by omega⟩
              exact ⟨l, rk, sx, a, cA, kc, HRk.out, h5, by omega, h2, h3, h4, HAll.out, HA.out, H_g.out, B.out⟩
          | true =>
            have t_0 : x1.cell? ⟨g_t, 0, none⟩ = some (.int .u8 tw) := by rw [row_cell H_t.out]; rfl
            have t_1 : x1.cell? ⟨g_t, 1, none⟩ = some (.int .u8 ts) := by rw [row_cell H_t.out]; rfl
            have t_2 : x1.cell? ⟨g_t, 2, none⟩ = some (.int .u8 tf) := by rw [row_cell H_t.out]; rfl
            have t_3 : x1.cell? ⟨g_t, 3, none⟩ = some (.int .i64 tc1) := by rw [row_cell H_t.out]; rfl
            have t_4 : x1.cell? ⟨g_t, 4, none⟩ = some (.int .i64 tc2) := by rw [row_cell H_t.out]; rfl
            have t_5 : x1.cell? ⟨g_t, 5, none⟩ = some (.int .i64 tc3) := by rw [row_cell H_t.out]; rfl
            have t_6 : x1.cell? ⟨g_t, 6, none⟩ = some (.int .i64 tc4) := by rw [row_cell H_t.out]; rfl
            have z_t := lt_of_heap H_t.out
            go_wp2_with fail
            refine (call_any ts tf sc (tf % 4) _ Htf.out.1 Htf.out.2 Hsn.out.2.2.2.2 rfl).mono ?_
            rintro r x2 ⟨kc, cA, rfl, ⟨hE, hnew⟩, hb⟩
            have F_ch : Hid (∀ z, 0 < [(tf % 4, true)].length → cA = some z → z.block ∉ FF) := Lib.hid fun z _ hz => by have h0 := hnew z hz; have h1 := lt_of_heap HA.out.row; have h3 := lt_of_heap H_g.out; rw [HFF.out]; simp; omega
            have E_ch := Lib.hid hE
            clear hnew hE
            clear t_0 t_1 t_2 t_3 t_4 t_5 t_6 z_t
            replace HAll := Lib.hid (HAll.out.below hb)
            have hsz := (hb).size
            replace H_g := Lib.hid (row_below H_g.out hb)
            replace H_t := Lib.hid (row_below H_t.out hb)
            replace HA := Lib.hid (HA.out.below hb)
            replace B := Lib.hid (below_only B.out hb)
            clear hb hsz
            go_wp2_with (first | (refine wpList_store_sub rfl 40 (.tmp 93) (.tmp 92) rfl g_g (kn * 26) (callRn sc (tf % 4) ⟨cA, 1, kc⟩).arr rfl rfl 41 _ H_g.out infoRun (by rw [runs_size]; have := HAll.out.1; have : (callRn sc (tf % 4) ⟨cA, 1, kc⟩).arr.size = 26 := rfl; omega) (Rn.one _) ?_; (try simp only [Act.put]); (try simp only [List.setIfInBounds_toArray]); (try simp only [List.set_cons_succ]); (try simp only [List.set_cons_zero])))
            go_meet
            rw [runs_set (by have := HAll.out.1; omega) (callRn sc (tf % 4) ⟨cA, 1, kc⟩)]
            have hK := (Keep.refl [g_g] x2).setRow (g := g_g) (.inl (by simp)) (runs4 (l.set kn (callRn sc (tf % 4) ⟨cA, 1, kc⟩)))
            have hr : (x2.setRow g_g (runs4 (l.set kn (callRn sc (tf % 4) ⟨cA, 1, kc⟩)))).heap[g_g]? = some (.cells (runs4 (l.set kn (callRn sc (tf % 4) ⟨cA, 1, kc⟩))) 41 (0, 0)) := setRow_heap _ _ _ _ _ _ H_g.out
            generalize x2.setRow g_g (runs4 (l.set kn (callRn sc (tf % 4) ⟨cA, 1, kc⟩))) = x3 at hK hr ⊢
            replace H_t := Lib.hid (hK.row H_t.out (by simpa using M_t_g.out))
            replace HA := Lib.hid (HA.out.kept hK (by simpa using NP_g.out) (by simpa using fun e => N_g.out e.symm))
            replace HAll := Lib.hid (HAll.out.kept hK (by rw [HFF.out]; simp))
            replace E_ch := Lib.hid (ents_kept E_ch.out hK (fun z h0 hz hm => F_ch.out z h0 hz (by rw [HFF.out]; simp at hm; simp [hm])))
            replace B := Lib.hid (Keep.under B.out hK (by have := B.out.size; omega) (by simp; exact L_g.out))
            replace H_g := Lib.hid hr
            clear hr hK
            have Hk2 : Hid ((l.set kn (callRn sc (tf % 4) ⟨cA, 1, kc⟩))[kn]? = some (callRn sc (tf % 4) ⟨cA, 1, kc⟩)) := Lib.hid (by rw [List.getElem?_set, if_pos rfl, if_pos (by have := HAll.out.1; omega)])
            have hsc1 := Hsn.out
            have hrw : WayT (callRn sc (tf % 4) ⟨cA, 1, kc⟩) (sn : Int) (tf % 4) ⟨cA, 1, kc⟩ := .inl (by rw [hsc1.1])
            exact ⟨_, _, sn, tf % 4, cA, kc, Hk2.out, hrw, by omega, by omega, E_ch.out, F_ch.out, HAll.out.set kn (runT_way hsc1.2.2.2.1 (by omega) E_ch.out F_ch.out (.inr (.inl rfl))), HA.out, H_g.out, B.out⟩
        case rest =>
          obtain ⟨l2, r2, sx, ax, cA, kc, hk2, hw, hsx, hax, hE, hF, hall, hA, hg, hB⟩ := hcut
          obtain ⟨x5, hwx⟩ : ∃ x, x = wc := ⟨_, rfl⟩
          subst hwx
          clear HAll HA H_g B HRk Hdn H_t
          have HAll := Lib.hid hall
          have HA := Lib.hid hA
          have H_g := Lib.hid hg
          have B := Lib.hid hB
          have E_ch := Lib.hid hE
          have F_ch := Lib.hid hF
          have Hk2 := Lib.hid hk2
          have Hw := Lib.hid hw
          have Hsx : Hid ((1 ≤ (sx : Int) ∧ (sx : Int) ≤ 3) ∧ (0 ≤ ax ∧ ax ≤ 3) ∧ sx < 4 ∧ ((8 * sx : Nat) : Int) = 8 * (sx : Int)) := Lib.hid (by omega)
          obtain ⟨⟨c1, c2, c3, c4⟩, hco, hko⟩ := HOk.out.c sx (by omega)
          have Hco := Lib.hid hco
          have Hko := Lib.hid hko
          obtain ⟨hca, har⟩ := hw.area
          have Hca := Lib.hid hca
          have Har := Lib.hid har
          have G4 : x5.cell? ⟨g_g, kn * 26 + 4, none⟩ = some (.int .i64 (sx : Int)) := runs_cell hg hk2 (by rw [← hca]; rfl)
          have G8 : x5.cell? ⟨g_g, kn * 26 + 8, none⟩ = some (.int .i64 ax) := runs_cell hg hk2 (by rw [← har]; rfl)
          have zg := lt_of_heap hg
          clear hall hA hg hB hE hF hk2 hw hsx hax hco hko hca har
          go_wp2_with fail
          refine (words40_any p b _ _ HA.out HOk.out.len).mono ?_
          rintro r x6 ⟨b_u, o_u, cc_u, rfl, hW, hnb, hb⟩
          have G_u : Hid (b_u ≠ b ∧ b_u ≠ g_g) := Lib.hid (by have h1 := lt_of_heap HA.out.row; have h2 := lt_of_heap H_g.out; omega)
          replace E_ch := Lib.hid (Ents.below E_ch.out hb)
          clear G4 G8 zg
          replace HAll := Lib.hid (HAll.out.below hb)
          have hsz := (hb).size
          replace H_g := Lib.hid (row_below H_g.out hb)
          replace HA := Lib.hid (HA.out.below hb)
          replace B := Lib.hid (below_only B.out hb)
          clear hb hsz
          have W_u := Lib.hid hW
          clear hW hnb
          go_wp2_with fail
          refine (plan_any _).mono ?_
          rintro r x7 ⟨rfl, hb⟩
          replace E_ch := Lib.hid (Ents.below E_ch.out hb)
          replace HAll := Lib.hid (HAll.out.below hb)
          replace W_u := Lib.hid (fun n x hx => (hb.cell (lt_of_cell (W_u.out n x hx))).trans (W_u.out n x hx))
          have hsz := (hb).size
          replace H_g := Lib.hid (row_below H_g.out hb)
          replace HA := Lib.hid (HA.out.below hb)
          replace B := Lib.hid (below_only B.out hb)
          clear hb hsz
          go_wp2_with fail
          refine (foundCtl_any p b 4 4 0 64 _ (8 * sx) (sx : Int) ⟨c1, c2, c3, c4⟩ _ PL HA.out Hco.out Hko.out Hsx.out.2.2.2 (by have := Hsx.out; omega)).mono ?_
          rintro r x8 ⟨rfl, hb⟩
          replace E_ch := Lib.hid (Ents.below E_ch.out hb)
          replace HAll := Lib.hid (HAll.out.below hb)
          replace W_u := Lib.hid (fun n x hx => (hb.cell (lt_of_cell (W_u.out n x hx))).trans (W_u.out n x hx))
          have hsz := (hb).size
          replace H_g := Lib.hid (row_below H_g.out hb)
          replace HA := Lib.hid (HA.out.below hb)
          replace B := Lib.hid (below_only B.out hb)
          clear hb hsz
          go_upto_region 20 with fail
          refine one_row x8 _ _ ?_
          intro x9 hr hb
          have hlB := B.out.size
          have hlt := lt_of_heap HA.out.row
          have hlp := lt_of_heap HA.out.box
          have hl_g := lt_of_heap H_g.out
          replace E_ch := Lib.hid (Ents.below E_ch.out hb)
          replace HAll := Lib.hid (HAll.out.below hb)
          replace W_u := Lib.hid (fun n x hx => (hb.cell (lt_of_cell (W_u.out n x hx))).trans (W_u.out n x hx))
          have hsz := (hb).size
          replace H_g := Lib.hid (row_below H_g.out hb)
          replace HA := Lib.hid (HA.out.below hb)
          replace B := Lib.hid (below_only B.out hb)
          clear hb hsz
          have H_c := Lib.hid (show x9.heap[x8.heap.size]? = some (.cells #[.int .i64 c1, .int .i64 c2, .int .i64 c3, .int .i64 c4] 23 (0, 0)) from hr)
          clear hr
          obtain ⟨g_c, hg_c⟩ : ∃ x, x = x8.heap.size := ⟨_, rfl⟩
          rw [← hg_c] at H_c ⊢
          have N_c : Hid (g_c ≠ b) := Lib.hid (by omega)
          have NP_c : Hid (p ≠ g_c) := Lib.hid (by omega)
          clear hlt hlp
          have M_g_c : Hid (g_g ≠ g_c) := Lib.hid (by omega)
          have M_c_g : Hid (g_c ≠ g_g) := Lib.hid (by omega)
          clear hl_g
          have L_c : Hid (w.heap.size ≤ g_c) := Lib.hid (by omega)
          clear hg_c hlB
          try simp only [Act.put]
          go_cut [19, 20] from 112 to 120 (fun vd ve wx => ∃ gZ, vd = .pointer (some ⟨gZ, 0, none⟩) ∧ ve = .int .i64 0 ∧ x9.heap.size ≤ gZ ∧ wx.heap[gZ]? = some (.cells (stepR ⟨c1, c2, c3, c4⟩ r2).arr 40 (0, 0)) ∧ Arn wx p b (ws.set (8 * sx) (stepX ⟨c1, c2, c3, c4⟩ r2)) ∧ Keep [b] x9 wx)
          case first =>
            refine wp_region_held_drew (S := fun W' => W'.heap[g_g]? = some (.cells (runs4 l2) 41 (0, 0))) (by kernel_rfl) (show x9.drew.heap[g_g]? = _ from H_g.out) ?_
            intro hS
            have hA : Arn x9.drew p b ws := HA.out.drew
            have hK0 : Keep [b] x9 x9.drew := (Keep.refl _ _).drew
            generalize x9.drew = y0 at hS hA hK0 ⊢
            refine wpAnyH_take_at (i := 1) (v := ?v1x1) (some 114) rfl rfl (by kernel_rfl) (by kernel_rfl) (by kernel_rfl) (fun _ _ _ h => h) (Or.inl ⟨by kernel_rfl, ?h1x1⟩) (by assumption) ?r1x1
            case h1x1 => (intro w hSw; (try dsimp only at hSw); go_simp; first | done | (with_reducible rfl))
            try simp only [Act.put]
            try simp only [List.setIfInBounds_toArray]
            try simp only [List.set_cons_succ]
            try simp only [List.set_cons_zero]
            refine wpAnyH_take_at (i := 2) (v := ?v2x2) (some 115) rfl rfl (by kernel_rfl) (by kernel_rfl) (by kernel_rfl) (fun _ _ _ h => h) (Or.inl ⟨by kernel_rfl, ?h2x2⟩) (by assumption) ?r2x2
            case h2x2 => (intro w hSw; (try dsimp only at hSw); go_simp; first | done | (with_reducible rfl))
            try simp only [Act.put]
            try simp only [List.setIfInBounds_toArray]
            try simp only [List.set_cons_succ]
            try simp only [List.set_cons_zero]
            refine wpAnyH_take_at (i := 3) (v := ?v3x3) (some 116) rfl rfl (by kernel_rfl) (by kernel_rfl) (by kernel_rfl) (fun _ _ _ h => h) (Or.inl ⟨by kernel_rfl, ?h3x3⟩) (by assumption) ?r3x3
            case h3x3 => (intro w hSw; (try dsimp only at hSw); go_simp; first | done | (with_reducible rfl))
            try simp only [Act.put]
            try simp only [List.setIfInBounds_toArray]
            try simp only [List.set_cons_succ]
            try simp only [List.set_cons_zero]
            refine wpAnyH_take_at (i := 4) (v := .agg r2.arr) (some 117) rfl rfl (by kernel_rfl) (by kernel_rfl) (by kernel_rfl) (fun _ _ _ h => h) (yieldsIf_load_sub (by kernel_rfl) 40 (.tmp 116) rfl g_g (kn * 26) rfl (runs4 l2) r2.arr (fun W' hW' => hW') (fun j v h => runs_get Hk2.out h) undRun rfl infoRun) (by assumption) ?_
            try simp only [Act.put]
            try simp only [List.setIfInBounds_toArray]
            try simp only [List.set_cons_succ]
            try simp only [List.set_cons_zero]
            refine wpAnyH_ready (rs := [0, 9]) (by kernel_rfl) (by simp) ?_
            refine AllReadyH.cons rfl (fun K hK => ?_) (AllReadyH.cons rfl (fun K hK => ?_) AllReadyH.nil)
            · skip
              go_simp
              refine (plan_any _).mono ?_
              rintro e' yP ⟨rfl, hb⟩
              go_simp
              replace hA := hA.below hb
              replace hK0 := hK0.call hb
              refine hK.out _ _ (row_below hS hb) (fun hS => ?_)
              clear hK K
              try simp only [Act.put]
              try simp only [List.setIfInBounds_toArray]
              try simp only [List.set_cons_succ]
              try simp only [List.set_cons_zero]
              refine wpAnyH_ready (rs := [5, 9]) (by kernel_rfl) (by simp) ?_
              refine AllReadyH.cons rfl (fun K hK => ?_) (AllReadyH.cons rfl (fun K hK => ?_) AllReadyH.nil)
              · skip
                go_simp
                refine (wayStep_any p b (8 * sx) ws ⟨c1, c2, c3, c4⟩ (sx : Int) ax ⟨cA, 1, kc⟩ r2 _ Hw.out.way hA Hco.out Hko.out Hsx.out.1 Hsx.out.2.2.2).mono ?_
                rintro e' yS ⟨rfl, hA1, hK1⟩
                go_simp
                replace hK0 := hK0.trans hK1
                clear hA
                have hA := hA1
                clear hA1
                refine hK.out _ _ (hK1.row hS (by simpa using N_g.out)) (fun hS => ?_)
                clear hK K
                try simp only [Act.put]
                try simp only [List.setIfInBounds_toArray]
                try simp only [List.set_cons_succ]
                try simp only [List.set_cons_zero]
                refine wpAnyH_take_at (i := 6) (v := ?v6x4) (some 112) rfl rfl (by kernel_rfl) (by kernel_rfl) (by kernel_rfl) (fun _ _ _ h => h) (Or.inl ⟨by kernel_rfl, ?h6x4⟩) (by assumption) ?r6x4
                case h6x4 => (intro w hSw; (try dsimp only at hSw); go_simp; first | done | (with_reducible rfl))
                try simp only [Act.put]
                try simp only [List.setIfInBounds_toArray]
                try simp only [List.set_cons_succ]
                try simp only [List.set_cons_zero]
                refine wpAnyH_take_at (i := 7) (v := ?v7x5) (some 119) rfl rfl (by kernel_rfl) (by kernel_rfl) (by kernel_rfl) (fun _ _ _ h => h) (Or.inl ⟨by kernel_rfl, ?h7x5⟩) (by assumption) ?r7x5
                case h7x5 => (intro w hSw; (try dsimp only at hSw); go_simp; first | done | (with_reducible rfl))
                try simp only [Act.put]
                try simp only [List.setIfInBounds_toArray]
                try simp only [List.set_cons_succ]
                try simp only [List.set_cons_zero]
                refine wpAnyH_take_at (i := 8) (v := ?v8x6) (some 120) rfl rfl (by kernel_rfl) (by kernel_rfl) (by kernel_rfl) (fun _ _ _ h => h) (Or.inl ⟨by kernel_rfl, ?h8x6⟩) (by assumption) ?r8x6
                case h8x6 => (intro w hSw; (try dsimp only at hSw); go_simp; first | done | (with_reducible rfl))
                try simp only [Act.put]
                try simp only [List.setIfInBounds_toArray]
                try simp only [List.set_cons_succ]
                try simp only [List.set_cons_zero]
                refine wpAnyH_ready (rs := [9]) (by kernel_rfl) (by simp) ?_
                refine AllReadyH.cons rfl (fun K hK => ?_) AllReadyH.nil
                refine step_alloc_run (some 19) rfl rfl rfl ?_
                refine k_alloc (fun yZ hZ hb => ?_)
                have hz1 := lt_of_heap hA.box
                have hz2 := lt_of_heap hA.row
                have hz3 := lt_of_heap hS
                have hz4 := hK0.size
                obtain ⟨gZ, HgZ⟩ : ∃ x, x = yS.heap.size := ⟨_, rfl⟩
                rw [← HgZ] at hZ hz1 hz2 hz3 hz4 ⊢
                clear HgZ
                have hq1 : p ≠ gZ := by omega
                have hq2 : gZ ≠ b := by omega
                have hq3 : g_g ≠ gZ := by omega
                clear hz1 hz2 hz3
                replace hA := hA.below hb
                replace hK0 := hK0.call hb
                refine hK.out _ _ (row_below hS hb) (fun hS => ?_)
                clear hK K
                try simp only [Act.put]
                try simp only [List.setIfInBounds_toArray]
                try simp only [List.set_cons_succ]
                try simp only [List.set_cons_zero]
                refine wpAnyH_ready (rs := [10]) (by kernel_rfl) (by simp) ?_
                refine AllReadyH.cons rfl (fun K hK => ?_) AllReadyH.nil
                refine step_store_row none rfl rfl 40 (.tmp 19) (.tmp 119) rfl gZ (stepR ⟨c1, c2, c3, c4⟩ r2).arr rfl rfl 40 ZRun hZ infoRun rfl (Rn.one _) ?_
                refine hK.out _ _ ((setRow_other _ _ _ _ hq3).trans hS) (fun hS => ?_)
                clear hK K
                try simp only [Act.put]
                try simp only [List.setIfInBounds_toArray]
                try simp only [List.set_cons_succ]
                try simp only [List.set_cons_zero]
                refine wpAnyH_take_at (i := 11) (v := ?v11x7) (some 20) rfl rfl (by kernel_rfl) (by kernel_rfl) (by kernel_rfl) (fun _ _ _ h => h) (Or.inl ⟨by kernel_rfl, ?h11x7⟩) (by assumption) ?r11x7
                case h11x7 => (intro w hSw; (try dsimp only at hSw); go_simp; first | done | (with_reducible rfl))
                try simp only [Act.put]
                try simp only [List.setIfInBounds_toArray]
                try simp only [List.set_cons_succ]
                try simp only [List.set_cons_zero]
                refine wpAnyH_done (by kernel_rfl) ?_ _
                go_wp2_with fail
                go_meet
                have hks := (Keep.refl [gZ] yZ).setRow (g := gZ) (.inl (by simp)) (stepR ⟨c1, c2, c3, c4⟩ r2).arr
                exact ⟨gZ, rfl, rfl, hz4, setRow_heap _ _ _ _ _ _ hZ, hA.kept hks (by simpa using hq1) (by simpa using fun e => hq2 e.symm), hK0.setRow (.inr hz4) _⟩
              · skip
                refine step_alloc_run (some 19) rfl rfl rfl ?_
                refine k_alloc (fun yZ hZ hb => ?_)
                have hz1 := lt_of_heap hA.box
                have hz2 := lt_of_heap hA.row
                have hz3 := lt_of_heap hS
                have hz4 := hK0.size
                obtain ⟨gZ, HgZ⟩ : ∃ x, x = yP.heap.size := ⟨_, rfl⟩
                rw [← HgZ] at hZ hz1 hz2 hz3 hz4 ⊢
                clear HgZ
                have hq1 : p ≠ gZ := by omega
                have hq2 : gZ ≠ b := by omega
                have hq3 : g_g ≠ gZ := by omega
                clear hz1 hz2 hz3
                replace hA := hA.below hb
                replace hK0 := hK0.call hb
                refine hK.out _ _ (row_below hS hb) (fun hS => ?_)
                clear hK K
                try simp only [Act.put]
                try simp only [List.setIfInBounds_toArray]
                try simp only [List.set_cons_succ]
                try simp only [List.set_cons_zero]
                refine wpAnyH_ready (rs := [5]) (by kernel_rfl) (by simp) ?_
                refine AllReadyH.cons rfl (fun K hK => ?_) AllReadyH.nil
                go_simp
                refine (wayStep_any p b (8 * sx) ws ⟨c1, c2, c3, c4⟩ (sx : Int) ax ⟨cA, 1, kc⟩ r2 _ Hw.out.way hA Hco.out Hko.out Hsx.out.1 Hsx.out.2.2.2).mono ?_
                rintro e' yS ⟨rfl, hA1, hK1⟩
                go_simp
                replace hK0 := hK0.trans hK1
                replace hZ := hK1.row hZ (by simpa using hq2)
                clear hA
                have hA := hA1
                clear hA1
                refine hK.out _ _ (hK1.row hS (by simpa using N_g.out)) (fun hS => ?_)
                clear hK K
                try simp only [Act.put]
                try simp only [List.setIfInBounds_toArray]
                try simp only [List.set_cons_succ]
                try simp only [List.set_cons_zero]
                refine wpAnyH_take_at (i := 6) (v := ?v6x8) (some 112) rfl rfl (by kernel_rfl) (by kernel_rfl) (by kernel_rfl) (fun _ _ _ h => h) (Or.inl ⟨by kernel_rfl, ?h6x8⟩) (by assumption) ?r6x8
                case h6x8 => (intro w hSw; (try dsimp only at hSw); go_simp; first | done | (with_reducible rfl))
                try simp only [Act.put]
                try simp only [List.setIfInBounds_toArray]
                try simp only [List.set_cons_succ]
                try simp only [List.set_cons_zero]
                refine wpAnyH_take_at (i := 7) (v := ?v7x9) (some 119) rfl rfl (by kernel_rfl) (by kernel_rfl) (by kernel_rfl) (fun _ _ _ h => h) (Or.inl ⟨by kernel_rfl, ?h7x9⟩) (by assumption) ?r7x9
                case h7x9 => (intro w hSw; (try dsimp only at hSw); go_simp; first | done | (with_reducible rfl))
                try simp only [Act.put]
                try simp only [List.setIfInBounds_toArray]
                try simp only [List.set_cons_succ]
                try simp only [List.set_cons_zero]
                refine wpAnyH_take_at (i := 8) (v := ?v8x10) (some 120) rfl rfl (by kernel_rfl) (by kernel_rfl) (by kernel_rfl) (fun _ _ _ h => h) (Or.inl ⟨by kernel_rfl, ?h8x10⟩) (by assumption) ?r8x10
                case h8x10 => (intro w hSw; (try dsimp only at hSw); go_simp; first | done | (with_reducible rfl))
                try simp only [Act.put]
                try simp only [List.setIfInBounds_toArray]
                try simp only [List.set_cons_succ]
                try simp only [List.set_cons_zero]
                refine wpAnyH_ready (rs := [10]) (by kernel_rfl) (by simp) ?_
                refine AllReadyH.cons rfl (fun K hK => ?_) AllReadyH.nil
                refine step_store_row none rfl rfl 40 (.tmp 19) (.tmp 119) rfl gZ (stepR ⟨c1, c2, c3, c4⟩ r2).arr rfl rfl 40 ZRun hZ infoRun rfl (Rn.one _) ?_
                refine hK.out _ _ ((setRow_other _ _ _ _ hq3).trans hS) (fun hS => ?_)
                clear hK K
                try simp only [Act.put]
                try simp only [List.setIfInBounds_toArray]
                try simp only [List.set_cons_succ]
                try simp only [List.set_cons_zero]
                refine wpAnyH_take_at (i := 11) (v := ?v11x11) (some 20) rfl rfl (by kernel_rfl) (by kernel_rfl) (by kernel_rfl) (fun _ _ _ h => h) (Or.inl ⟨by kernel_rfl, ?h11x11⟩) (by assumption) ?r11x11
                case h11x11 => (intro w hSw; (try dsimp only at hSw); go_simp; first | done | (with_reducible rfl))
                try simp only [Act.put]
                try simp only [List.setIfInBounds_toArray]
                try simp only [List.set_cons_succ]
                try simp only [List.set_cons_zero]
                refine wpAnyH_done (by kernel_rfl) ?_ _
                go_wp2_with fail
                go_meet
                have hks := (Keep.refl [gZ] yS).setRow (g := gZ) (.inl (by simp)) (stepR ⟨c1, c2, c3, c4⟩ r2).arr
                exact ⟨gZ, rfl, rfl, hz4, setRow_heap _ _ _ _ _ _ hZ, hA.kept hks (by simpa using hq1) (by simpa using fun e => hq2 e.symm), hK0.setRow (.inr hz4) _⟩
            · skip
              refine step_alloc_run (some 19) rfl rfl rfl ?_
              refine k_alloc (fun yZ hZ hb => ?_)
              have hz1 := lt_of_heap hA.box
              have hz2 := lt_of_heap hA.row
              have hz3 := lt_of_heap hS
              have hz4 := hK0.size
              obtain ⟨gZ, HgZ⟩ : ∃ x, x = y0.heap.size := ⟨_, rfl⟩
              rw [← HgZ] at hZ hz1 hz2 hz3 hz4 ⊢
              clear HgZ
              have hq1 : p ≠ gZ := by omega
              have hq2 : gZ ≠ b := by omega
              have hq3 : g_g ≠ gZ := by omega
              clear hz1 hz2 hz3
              replace hA := hA.below hb
              replace hK0 := hK0.call hb
              refine hK.out _ _ (row_below hS hb) (fun hS => ?_)
              clear hK K
              try simp only [Act.put]
              try simp only [List.setIfInBounds_toArray]
              try simp only [List.set_cons_succ]
              try simp only [List.set_cons_zero]
              refine wpAnyH_ready (rs := [0]) (by kernel_rfl) (by simp) ?_
              refine AllReadyH.cons rfl (fun K hK => ?_) AllReadyH.nil
              go_simp
              refine (plan_any _).mono ?_
              rintro e' yP ⟨rfl, hb⟩
              go_simp
              replace hA := hA.below hb
              replace hK0 := hK0.call hb
              replace hZ := row_below hZ hb
              refine hK.out _ _ (row_below hS hb) (fun hS => ?_)
              clear hK K
              try simp only [Act.put]
              try simp only [List.setIfInBounds_toArray]
              try simp only [List.set_cons_succ]
              try simp only [List.set_cons_zero]
              refine wpAnyH_ready (rs := [5]) (by kernel_rfl) (by simp) ?_
              refine AllReadyH.cons rfl (fun K hK => ?_) AllReadyH.nil
              go_simp
              refine (wayStep_any p b (8 * sx) ws ⟨c1, c2, c3, c4⟩ (sx : Int) ax ⟨cA, 1, kc⟩ r2 _ Hw.out.way hA Hco.out Hko.out Hsx.out.1 Hsx.out.2.2.2).mono ?_
              rintro e' yS ⟨rfl, hA1, hK1⟩
              go_simp
              replace hK0 := hK0.trans hK1
              replace hZ := hK1.row hZ (by simpa using hq2)
              clear hA
              have hA := hA1
              clear hA1
              refine hK.out _ _ (hK1.row hS (by simpa using N_g.out)) (fun hS => ?_)
              clear hK K
              try simp only [Act.put]
              try simp only [List.setIfInBounds_toArray]
              try simp only [List.set_cons_succ]
              try simp only [List.set_cons_zero]
              refine wpAnyH_take_at (i := 6) (v := ?v6x12) (some 112) rfl rfl (by kernel_rfl) (by kernel_rfl) (by kernel_rfl) (fun _ _ _ h => h) (Or.inl ⟨by kernel_rfl, ?h6x12⟩) (by assumption) ?r6x12
              case h6x12 => (intro w hSw; (try dsimp only at hSw); go_simp; first | done | (with_reducible rfl))
              try simp only [Act.put]
              try simp only [List.setIfInBounds_toArray]
              try simp only [List.set_cons_succ]
              try simp only [List.set_cons_zero]
              refine wpAnyH_take_at (i := 7) (v := ?v7x13) (some 119) rfl rfl (by kernel_rfl) (by kernel_rfl) (by kernel_rfl) (fun _ _ _ h => h) (Or.inl ⟨by kernel_rfl, ?h7x13⟩) (by assumption) ?r7x13
              case h7x13 => (intro w hSw; (try dsimp only at hSw); go_simp; first | done | (with_reducible rfl))
              try simp only [Act.put]
              try simp only [List.setIfInBounds_toArray]
              try simp only [List.set_cons_succ]
              try simp only [List.set_cons_zero]
              refine wpAnyH_take_at (i := 8) (v := ?v8x14) (some 120) rfl rfl (by kernel_rfl) (by kernel_rfl) (by kernel_rfl) (fun _ _ _ h => h) (Or.inl ⟨by kernel_rfl, ?h8x14⟩) (by assumption) ?r8x14
              case h8x14 => (intro w hSw; (try dsimp only at hSw); go_simp; first | done | (with_reducible rfl))
              try simp only [Act.put]
              try simp only [List.setIfInBounds_toArray]
              try simp only [List.set_cons_succ]
              try simp only [List.set_cons_zero]
              refine wpAnyH_ready (rs := [10]) (by kernel_rfl) (by simp) ?_
              refine AllReadyH.cons rfl (fun K hK => ?_) AllReadyH.nil
              refine step_store_row none rfl rfl 40 (.tmp 19) (.tmp 119) rfl gZ (stepR ⟨c1, c2, c3, c4⟩ r2).arr rfl rfl 40 ZRun hZ infoRun rfl (Rn.one _) ?_
              refine hK.out _ _ ((setRow_other _ _ _ _ hq3).trans hS) (fun hS => ?_)
              clear hK K
              try simp only [Act.put]
              try simp only [List.setIfInBounds_toArray]
              try simp only [List.set_cons_succ]
              try simp only [List.set_cons_zero]
              refine wpAnyH_take_at (i := 11) (v := ?v11x15) (some 20) rfl rfl (by kernel_rfl) (by kernel_rfl) (by kernel_rfl) (fun _ _ _ h => h) (Or.inl ⟨by kernel_rfl, ?h11x15⟩) (by assumption) ?r11x15
              case h11x15 => (intro w hSw; (try dsimp only at hSw); go_simp; first | done | (with_reducible rfl))
              try simp only [Act.put]
              try simp only [List.setIfInBounds_toArray]
              try simp only [List.set_cons_succ]
              try simp only [List.set_cons_zero]
              refine wpAnyH_done (by kernel_rfl) ?_ _
              go_wp2_with fail
              go_meet
              have hks := (Keep.refl [gZ] yS).setRow (g := gZ) (.inl (by simp)) (stepR ⟨c1, c2, c3, c4⟩ r2).arr
              exact ⟨gZ, rfl, rfl, hz4, setRow_heap _ _ _ _ _ _ hZ, hA.kept hks (by simpa using hq1) (by simpa using fun e => hq2 e.symm), hK0.setRow (.inr hz4) _⟩
          case rest =>
            obtain ⟨g_o, rfl, rfl, hgo, hRo, hA, hK⟩ := hcut
            obtain ⟨x10, hwx⟩ : ∃ x, x = wc := ⟨_, rfl⟩
            subst hwx
            have zc := lt_of_heap H_c.out
            have zg := lt_of_heap H_g.out
            have zb := lt_of_heap HA.out.row
            have zs := B.out.size
            have M_o_g : Hid (g_o ≠ g_g) := Lib.hid (by omega)
            have M_o_c : Hid (g_o ≠ g_c) := Lib.hid (by omega)
            have N_o : Hid (g_o ≠ b) := Lib.hid (by omega)
            have L_o : Hid (w.heap.size ≤ g_o) := Lib.hid (by omega)
            clear zc zg zb zs
            replace E_ch := Lib.hid (ents_kept E_ch.out hK (fun z h0 hz hm => F_ch.out z h0 hz (by rw [HFF.out]; simp at hm; simp [hm])))
            replace HAll := Lib.hid (HAll.out.kept hK (by rw [HFF.out]; simp))
            replace W_u := Lib.hid (fun n x hx => hK.cell (W_u.out n x hx) (by simpa using G_u.out.1))
            replace H_g := Lib.hid (hK.row H_g.out (by simpa using N_g.out))
            replace H_c := Lib.hid (hK.row H_c.out (by simpa using N_c.out))
            replace HA := Lib.hid hA
            replace B := Lib.hid (Keep.under B.out hK (by have := B.out.size; omega) (by simp; exact Hb.out))
            clear hA hK
            have H_o := Lib.hid (show x10.heap[g_o]? = some (.cells (stepR ⟨c1, c2, c3, c4⟩ r2).arr 40 (0, 0)) from hRo)
            clear hRo hgo
            have HO := Lib.hid (way_out Hw.out Hco.out)
            go_upto_region 22 with (first | refine wpList_load_row rfl 40 (.tmp 19) rfl g_o rfl 40 (stepR ⟨c1, c2, c3, c4⟩ r2).arr (0, 0) _ H_o.out undRun rfl infoRun ?_ | (refine wpList_store_sub rfl 40 (.tmp 123) (.tmp 122) rfl g_g (kn * 26) (stepR ⟨c1, c2, c3, c4⟩ r2).arr rfl rfl 41 _ H_g.out infoRun (by rw [runs_size]; have := HAll.out.1; have : (stepR ⟨c1, c2, c3, c4⟩ r2).arr.size = 26 := rfl; omega) (Rn.one _) ?_; (try simp only [Act.put]); (try simp only [List.setIfInBounds_toArray]); (try simp only [List.set_cons_succ]); (try simp only [List.set_cons_zero])))
            rw [runs_set (by have := HAll.out.1; omega) (stepR ⟨c1, c2, c3, c4⟩ r2)]
            refine set_row' x10 g_g _ _ _ H_g.out ?_
            intro x11 hr hK
            replace H_c := Lib.hid (hK.row H_c.out (by simpa using M_c_g.out))
            replace H_o := Lib.hid (hK.row H_o.out (by simpa using M_o_g.out))
            replace HA := Lib.hid (HA.out.kept hK (by simpa using NP_g.out) (by simpa using fun e => N_g.out e.symm))
            replace HAll := Lib.hid (HAll.out.kept hK (by rw [HFF.out]; simp))
            replace W_u := Lib.hid (fun n x hx => hK.cell (W_u.out n x hx) (by simpa using G_u.out.2))
            replace E_ch := Lib.hid (ents_kept E_ch.out hK (fun z h0 hz hm => F_ch.out z h0 hz (by rw [HFF.out]; simp at hm; simp [hm])))
            replace B := Lib.hid (Keep.under B.out hK (by have := B.out.size; omega) (by simp; exact L_g.out))
            replace H_g := Lib.hid hr
            clear hr hK
            obtain ⟨⟨d1, d2, d3, d4⟩, hd, hX⟩ := way_stepX Hw.out.way Hco.out
            have Hd := Lib.hid hd
            have HX := Lib.hid hX
            have HOk2 : Hid (Okw (ws.set (8 * sx) (stepX ⟨c1, c2, c3, c4⟩ r2))) := Lib.hid (by rw [hX]; exact HOk.out.set sx Hsx.out.2.2.1 hd)
            have Hkd : Hid ((ws.set (8 * sx) (stepX ⟨c1, c2, c3, c4⟩ r2))[8 * sx]? = some (word ⟨d1, d2, d3, d4⟩)) := Lib.hid (by rw [List.getElem?_set, if_pos rfl, if_pos (by rw [HOk.out.len]; have := Hsx.out; omega), hX])
            have HAll3 : Hid (AllT x11 FF (l2.set kn (stepR ⟨c1, c2, c3, c4⟩ r2))) := Lib.hid (HAll.out.set kn (runT_way Hsx.out.1 Hsx.out.2.1 E_ch.out F_ch.out (by rcases HO.out with h | h | h; exact .inr h.2.2; exact .inl h.1; exact .inl h.1)))
            obtain ⟨W3, HW3⟩ : ∃ x, Hid ((ws.set (8 * sx) (stepX ⟨c1, c2, c3, c4⟩ r2)) = x) := ⟨_, Lib.hid rfl⟩
            rw [HW3.out] at HOk2 Hkd HA
            obtain ⟨l3, Hl3⟩ : ∃ x, Hid (l2.set kn (stepR ⟨c1, c2, c3, c4⟩ r2) = x) := ⟨_, Lib.hid rfl⟩
            rw [Hl3.out] at HAll3 H_g
            obtain ⟨dn3, Hdn3⟩ : ∃ x, Hid ((stepR ⟨c1, c2, c3, c4⟩ r2).done = x) := ⟨_, Lib.hid rfl⟩
            obtain ⟨cd3, Hcd3⟩ : ∃ x, Hid ((stepR ⟨c1, c2, c3, c4⟩ r2).code = x) := ⟨_, Lib.hid rfl⟩
            clear hd hX HAll
            have HAll := HAll3
            clear HAll3 E_ch F_ch Hk2
            go_wp2_with fail
            refine (plan_any _).mono ?_
            rintro r x12 ⟨rfl, hb⟩
            replace HAll := Lib.hid (HAll.out.below hb)
            replace W_u := Lib.hid (fun n x hx => (hb.cell (lt_of_cell (W_u.out n x hx))).trans (W_u.out n x hx))
            have hsz := (hb).size
            replace H_g := Lib.hid (row_below H_g.out hb)
            replace H_c := Lib.hid (row_below H_c.out hb)
            replace H_o := Lib.hid (row_below H_o.out hb)
            replace HA := Lib.hid (HA.out.below hb)
            replace B := Lib.hid (below_only B.out hb)
            clear hb hsz
            go_wp2_with fail
            refine (foundCtl_any p b 4 4 0 64 _ (8 * sx) (sx : Int) ⟨d1, d2, d3, d4⟩ _ PL HA.out Hd.out Hkd.out Hsx.out.2.2.2 (by have := Hsx.out; omega)).mono ?_
            rintro r x13 ⟨rfl, hb⟩
            replace HAll := Lib.hid (HAll.out.below hb)
            replace W_u := Lib.hid (fun n x hx => (hb.cell (lt_of_cell (W_u.out n x hx))).trans (W_u.out n x hx))
            have hsz := (hb).size
            replace H_g := Lib.hid (row_below H_g.out hb)
            replace H_c := Lib.hid (row_below H_c.out hb)
            replace H_o := Lib.hid (row_below H_o.out hb)
            replace HA := Lib.hid (HA.out.below hb)
            replace B := Lib.hid (below_only B.out hb)
            clear hb hsz
            go_upto_region 23 with fail
            refine one_row x13 _ _ ?_
            intro x14 hr hb
            have hlB := B.out.size
            have hlt := lt_of_heap HA.out.row
            have hlp := lt_of_heap HA.out.box
            have hl_g := lt_of_heap H_g.out
            have hl_c := lt_of_heap H_c.out
            have hl_o := lt_of_heap H_o.out
            replace HAll := Lib.hid (HAll.out.below hb)
            replace W_u := Lib.hid (fun n x hx => (hb.cell (lt_of_cell (W_u.out n x hx))).trans (W_u.out n x hx))
            have hsz := (hb).size
            replace H_g := Lib.hid (row_below H_g.out hb)
            replace H_c := Lib.hid (row_below H_c.out hb)
            replace H_o := Lib.hid (row_below H_o.out hb)
            replace HA := Lib.hid (HA.out.below hb)
            replace B := Lib.hid (below_only B.out hb)
            clear hb hsz
            have H_d := Lib.hid (show x14.heap[x13.heap.size]? = some (.cells #[.int .i64 d1, .int .i64 d2, .int .i64 d3, .int .i64 d4] 23 (0, 0)) from hr)
            clear hr
            obtain ⟨g_d, hg_d⟩ : ∃ x, x = x13.heap.size := ⟨_, rfl⟩
            rw [← hg_d] at H_d ⊢
            have N_d : Hid (g_d ≠ b) := Lib.hid (by omega)
            have NP_d : Hid (p ≠ g_d) := Lib.hid (by omega)
            clear hlt hlp
            have M_g_d : Hid (g_g ≠ g_d) := Lib.hid (by omega)
            have M_d_g : Hid (g_d ≠ g_g) := Lib.hid (by omega)
            clear hl_g
            have M_c_d : Hid (g_c ≠ g_d) := Lib.hid (by omega)
            have M_d_c : Hid (g_d ≠ g_c) := Lib.hid (by omega)
            clear hl_c
            have M_o_d : Hid (g_o ≠ g_d) := Lib.hid (by omega)
            have M_d_o : Hid (g_d ≠ g_o) := Lib.hid (by omega)
            clear hl_o
            have L_d : Hid (w.heap.size ≤ g_d) := Lib.hid (by omega)
            clear hg_d hlB
            go_wp2_with fail
            refine (words40_any p b _ _ HA.out HOk2.out.len).mono ?_
            rintro r x15 ⟨b_v, o_v, cc_v, rfl, hW, hnb, hb⟩
            have G_v : Hid (b_v ≠ b ∧ b_v ≠ g_g) := Lib.hid (by have h1 := lt_of_heap HA.out.row; have h2 := lt_of_heap H_g.out; omega)
            replace HAll := Lib.hid (HAll.out.below hb)
            replace W_u := Lib.hid (fun n x hx => (hb.cell (lt_of_cell (W_u.out n x hx))).trans (W_u.out n x hx))
            have hsz := (hb).size
            replace H_g := Lib.hid (row_below H_g.out hb)
            replace H_c := Lib.hid (row_below H_c.out hb)
            replace H_o := Lib.hid (row_below H_o.out hb)
            replace H_d := Lib.hid (row_below H_d.out hb)
            replace HA := Lib.hid (HA.out.below hb)
            replace B := Lib.hid (below_only B.out hb)
            clear hb hsz
            have W_v := Lib.hid hW
            clear hW hnb
            go_upto_region 26 with fail
            try simp only [Act.put]
            go_cut [24] from 142 to 149 (fun vd wx => ∃ bI : Bool, vd = .bool bI ∧ bI = (dn3 && cd3 == 0) ∧ x15 = wx)
            case first =>
              have o21 : x15.cell? ⟨g_o, 21, none⟩ = some (.bool dn3) := by rw [row_cell H_o.out, ← Hdn3.out]; rfl
              have o23 : x15.cell? ⟨g_o, 23, none⟩ = some (.int .i64 cd3) := by rw [row_cell H_o.out, ← Hcd3.out]; rfl
              have z_o := lt_of_heap H_o.out
              cases dn3 with
              | false =>
                go_wp2_with fail
                go_meet
                exact ⟨_, rfl, rfl, rfl⟩
              | true =>
                cases hcd : (cd3 == 0) with
                | false =>
                  go_wp2_with fail
                  go_meet
                  exact ⟨_, rfl, by simp [hcd], rfl⟩
                | true =>
                  go_wp2_with fail
                  go_meet
                  exact ⟨_, rfl, by simp [hcd], rfl⟩
            case rest =>
              obtain ⟨bI, rfl, hbI, hwx⟩ := hcut
              subst hwx
              have HbI := Lib.hid hbI
              clear hbI
              have HN : Hid (∀ (n : Nat) x y, ws[n]? = some x → W3[n]? = some y → y = x ∨ (¬ y = x ∧ bI = true ∧ n = 8 * sx)) := Lib.hid fun n x y hx hy => by
                by_cases e : y = x
                · exact .inl e
                · have hne : ¬ y = x := e
                  rw [← HW3.out, List.getElem?_set] at hy
                  split at hy
                  · rename_i e2
                    subst e2
                    split at hy
                    · injection hy with hy
                      have hxc : x = word ⟨c1, c2, c3, c4⟩ := by have := Hko.out; rw [hx] at this; injection this
                      rcases HO.out with h | h | h
                      · exact absurd (by rw [← hy, h.2.1, hxc]) e
                      · exact absurd (by rw [← hy, h.2.2.2.2, hxc]) e
                      · refine .inr ⟨hne, ?_, rfl⟩
                        rw [HbI.out, ← Hdn3.out, ← Hcd3.out, h.1, h.2.1]
                        rfl
                    · cases hy
                  · rw [hx] at hy
                    injection hy with hy
                    exact absurd hy.symm e
              go_wp2_with fail
              go_loopw [25] (fun t wz => ∃ n : Nat, n ≤ 40 ∧ t = .int .i64 n ∧ Below x15.heap.size x15 wz) (fun t _ => (40 - intOf t).toNat)
              case atStart => exact ⟨0, by omega, rfl, Below.refl _ _⟩
              case round =>
                obtain ⟨n, hn, rfl, hbz⟩ := hrel
                have HBz := Lib.hid hbz
                clear hbz
                by_cases hn4 : n < 40
                · skip
                  obtain ⟨u, hu⟩ : ∃ x, ws[n]? = some x := ⟨_, List.getElem?_eq_getElem (by rw [HOk.out.len]; exact hn4)⟩
                  obtain ⟨v, hv⟩ : ∃ x, W3[n]? = some x := ⟨_, List.getElem?_eq_getElem (by rw [HOk2.out.len]; exact hn4)⟩
                  have hNn := HN.out n u v hu hv
                  have cu : wr.cell? ⟨b_u, o_u + n, none⟩ = some (.int .u64 u) := (HBz.out.cell (lt_of_cell (W_u.out n u hu))).trans (W_u.out n u hu)
                  have cv : wr.cell? ⟨b_v, o_v + n, none⟩ = some (.int .u64 v) := (HBz.out.cell (lt_of_cell (W_v.out n v hv))).trans (W_v.out n v hv)
                  have zu := lt_of_cell cu
                  have zv := lt_of_cell cv
                  clear hu hv
                  go_upto_region 30 with fail
                  try simp only [Act.put]
                  go_cut [153, 175] from 156 to 175 (fun v0 vd wx => vd = .bool false ∧ Below wr.heap.size wr wx)
                  case first =>
                    have HNn := Lib.hid hNn
                    clear hNn
                    rcases HNn.out with hq | ⟨hq, hbt, hns⟩
                    · have hq2 : u = v := hq.symm
                      subst hq2
                      clear HNn hq
                      refine wp_region_held_drew (S := fun W' => W'.cell? ⟨b_u, o_u + n, none⟩ = some (.int .u64 u) ∧ W'.cell? ⟨b_v, o_v + n, none⟩ = some (.int .u64 u)) (by kernel_rfl) (by first | exact ⟨cu, cv⟩ | (dsimp only; exact ⟨cu, cv⟩)) ?_
                      intro hS
                      have hb0 : Below wr.heap.size wr wr.drew := Below.drew (Below.refl _ _)
                      clear cu cv
                      generalize wr.drew = v0 at hS hb0 ⊢
                      refine wpAnyH_take_at (i := 0) (v := ?v0x16) (some 156) rfl rfl (by kernel_rfl) (by kernel_rfl) (by kernel_rfl) (fun _ _ _ h => h) (Or.inl ⟨by kernel_rfl, ?h0x16⟩) (by assumption) ?r0x16
                      case h0x16 => (intro w hSw; obtain ⟨s0, s1⟩ := hSw; go_simp; first | done | (with_reducible rfl))
                      try simp only [Act.put]
                      try simp only [List.setIfInBounds_toArray]
                      try simp only [List.set_cons_succ]
                      try simp only [List.set_cons_zero]
                      refine wpAnyH_take_at (i := 1) (v := ?v1x17) (some 157) rfl rfl (by kernel_rfl) (by kernel_rfl) (by kernel_rfl) (fun _ _ _ h => h) (Or.inl ⟨by kernel_rfl, ?h1x17⟩) (by assumption) ?r1x17
                      case h1x17 => (intro w hSw; obtain ⟨s0, s1⟩ := hSw; go_simp; first | done | (with_reducible rfl))
                      try simp only [Act.put]
                      try simp only [List.setIfInBounds_toArray]
                      try simp only [List.set_cons_succ]
                      try simp only [List.set_cons_zero]
                      refine wpAnyH_take_at (i := 2) (v := ?v2x18) (some 158) rfl rfl (by kernel_rfl) (by kernel_rfl) (by kernel_rfl) (fun _ _ _ h => h) (Or.inl ⟨by kernel_rfl, ?h2x18⟩) (by assumption) ?r2x18
                      case h2x18 => (intro w hSw; obtain ⟨s0, s1⟩ := hSw; go_simp; first | done | (with_reducible rfl))
                      try simp only [Act.put]
                      try simp only [List.setIfInBounds_toArray]
                      try simp only [List.set_cons_succ]
                      try simp only [List.set_cons_zero]
                      refine wpAnyH_take_at (i := 3) (v := ?v3x19) (some 159) rfl rfl (by kernel_rfl) (by kernel_rfl) (by kernel_rfl) (fun _ _ _ h => h) (Or.inl ⟨by kernel_rfl, ?h3x19⟩) (by assumption) ?r3x19
                      case h3x19 => (intro w hSw; obtain ⟨s0, s1⟩ := hSw; go_simp; first | done | (with_reducible rfl))
                      try simp only [Act.put]
                      try simp only [List.setIfInBounds_toArray]
                      try simp only [List.set_cons_succ]
                      try simp only [List.set_cons_zero]
                      refine wpAnyH_take_at (i := 4) (v := ?v4x20) (some 160) rfl rfl (by kernel_rfl) (by kernel_rfl) (by kernel_rfl) (fun _ _ _ h => h) (Or.inl ⟨by kernel_rfl, ?h4x20⟩) (by assumption) ?r4x20
                      case h4x20 => (intro w hSw; obtain ⟨s0, s1⟩ := hSw; go_simp; first | done | (with_reducible rfl))
                      try simp only [Act.put]
                      try simp only [List.setIfInBounds_toArray]
                      try simp only [List.set_cons_succ]
                      try simp only [List.set_cons_zero]
                      refine wpAnyH_take_at (i := 5) (v := ?v5x21) (some 161) rfl rfl (by kernel_rfl) (by kernel_rfl) (by kernel_rfl) (fun _ _ _ h => h) (Or.inl ⟨by kernel_rfl, ?h5x21⟩) (by assumption) ?r5x21
                      case h5x21 => (intro w hSw; obtain ⟨s0, s1⟩ := hSw; go_simp; first | done | (with_reducible rfl))
                      try simp only [Act.put]
                      try simp only [List.setIfInBounds_toArray]
                      try simp only [List.set_cons_succ]
                      try simp only [List.set_cons_zero]
                      refine wpAnyH_take_at (i := 6) (v := ?v6x22) (some 162) rfl rfl (by kernel_rfl) (by kernel_rfl) (by kernel_rfl) (fun _ _ _ h => h) (Or.inl ⟨by kernel_rfl, ?h6x22⟩) (by assumption) ?r6x22
                      case h6x22 => (intro w hSw; obtain ⟨s0, s1⟩ := hSw; go_simp; first | done | (with_reducible rfl))
                      try simp only [Act.put]
                      try simp only [List.setIfInBounds_toArray]
                      try simp only [List.set_cons_succ]
                      try simp only [List.set_cons_zero]
                      refine wpAnyH_take_at (i := 7) (v := ?v7x23) (some 163) rfl rfl (by kernel_rfl) (by kernel_rfl) (by kernel_rfl) (fun _ _ _ h => h) (Or.inl ⟨by kernel_rfl, ?h7x23⟩) (by assumption) ?r7x23
                      case h7x23 => (intro w hSw; obtain ⟨s0, s1⟩ := hSw; go_simp; first | done | (with_reducible rfl))
                      try simp only [Act.put]
                      try simp only [List.setIfInBounds_toArray]
                      try simp only [List.set_cons_succ]
                      try simp only [List.set_cons_zero]
                      refine wpAnyH_take_at (i := 8) (v := ?v8x24) (some 164) rfl rfl (by kernel_rfl) (by kernel_rfl) (by kernel_rfl) (fun _ _ _ h => h) (Or.inl ⟨by kernel_rfl, ?h8x24⟩) (by assumption) ?r8x24
                      case h8x24 => (intro w hSw; obtain ⟨s0, s1⟩ := hSw; go_simp; first | done | (with_reducible rfl))
                      try simp only [Act.put]
                      try simp only [List.setIfInBounds_toArray]
                      try simp only [List.set_cons_succ]
                      try simp only [List.set_cons_zero]
                      refine wpAnyH_take_at (i := 9) (v := ?v9x25) (some 165) rfl rfl (by kernel_rfl) (by kernel_rfl) (by kernel_rfl) (fun _ _ _ h => h) (Or.inl ⟨by kernel_rfl, ?h9x25⟩) (by assumption) ?r9x25
                      case h9x25 => (intro w hSw; obtain ⟨s0, s1⟩ := hSw; go_simp; first | done | (with_reducible rfl))
                      try simp only [Act.put]
                      try simp only [List.setIfInBounds_toArray]
                      try simp only [List.set_cons_succ]
                      try simp only [List.set_cons_zero]
                      refine wpAnyH_take_at (i := 10) (v := undef) (some 166) rfl rfl (by kernel_rfl) (by kernel_rfl) (by kernel_rfl) (fun _ _ _ h => h) (Or.inr ⟨by kernel_rfl, rfl⟩) (by assumption) ?_
                      try simp only [Act.put]
                      try simp only [List.setIfInBounds_toArray]
                      try simp only [List.set_cons_succ]
                      try simp only [List.set_cons_zero]
                      refine wpAnyH_take_at (i := 11) (v := undef) (some 167) rfl rfl (by kernel_rfl) (by kernel_rfl) (by kernel_rfl) (fun _ _ _ h => h) (Or.inr ⟨by kernel_rfl, rfl⟩) (by assumption) ?_
                      try simp only [Act.put]
                      try simp only [List.setIfInBounds_toArray]
                      try simp only [List.set_cons_succ]
                      try simp only [List.set_cons_zero]
                      refine wpAnyH_take_at (i := 12) (v := undef) (some 168) rfl rfl (by kernel_rfl) (by kernel_rfl) (by kernel_rfl) (fun _ _ _ h => h) (Or.inr ⟨by kernel_rfl, rfl⟩) (by assumption) ?_
                      try simp only [Act.put]
                      try simp only [List.setIfInBounds_toArray]
                      try simp only [List.set_cons_succ]
                      try simp only [List.set_cons_zero]
                      refine wpAnyH_take_at (i := 13) (v := undef) (some 169) rfl rfl (by kernel_rfl) (by kernel_rfl) (by kernel_rfl) (fun _ _ _ h => h) (Or.inr ⟨by kernel_rfl, rfl⟩) (by assumption) ?_
                      try simp only [Act.put]
                      try simp only [List.setIfInBounds_toArray]
                      try simp only [List.set_cons_succ]
                      try simp only [List.set_cons_zero]
                      refine wpAnyH_take_at (i := 14) (v := undef) (some 170) rfl rfl (by kernel_rfl) (by kernel_rfl) (by kernel_rfl) (fun _ _ _ h => h) (Or.inr ⟨by kernel_rfl, rfl⟩) (by assumption) ?_
                      try simp only [Act.put]
                      try simp only [List.setIfInBounds_toArray]
                      try simp only [List.set_cons_succ]
                      try simp only [List.set_cons_zero]
                      refine wpAnyH_take_at (i := 15) (v := undef) (some 171) rfl rfl (by kernel_rfl) (by kernel_rfl) (by kernel_rfl) (fun _ _ _ h => h) (Or.inr ⟨by kernel_rfl, rfl⟩) (by assumption) ?_
                      try simp only [Act.put]
                      try simp only [List.setIfInBounds_toArray]
                      try simp only [List.set_cons_succ]
                      try simp only [List.set_cons_zero]
                      refine wpAnyH_take_at (i := 16) (v := undef) (some 172) rfl rfl (by kernel_rfl) (by kernel_rfl) (by kernel_rfl) (fun _ _ _ h => h) (Or.inr ⟨by kernel_rfl, rfl⟩) (by assumption) ?_
                      try simp only [Act.put]
                      try simp only [List.setIfInBounds_toArray]
                      try simp only [List.set_cons_succ]
                      try simp only [List.set_cons_zero]
                      refine wpAnyH_take_at (i := 17) (v := undef) (some 173) rfl rfl (by kernel_rfl) (by kernel_rfl) (by kernel_rfl) (fun _ _ _ h => h) (Or.inr ⟨by kernel_rfl, rfl⟩) (by assumption) ?_
                      try simp only [Act.put]
                      try simp only [List.setIfInBounds_toArray]
                      try simp only [List.set_cons_succ]
                      try simp only [List.set_cons_zero]
                      refine wpAnyH_take_at (i := 18) (v := undef) (some 174) rfl rfl (by kernel_rfl) (by kernel_rfl) (by kernel_rfl) (fun _ _ _ h => h) (Or.inr ⟨by kernel_rfl, rfl⟩) (by assumption) ?_
                      try simp only [Act.put]
                      try simp only [List.setIfInBounds_toArray]
                      try simp only [List.set_cons_succ]
                      try simp only [List.set_cons_zero]
                      refine wpAnyH_take_at (i := 19) (v := ?v19x26) (some 175) rfl rfl (by kernel_rfl) (by kernel_rfl) (by kernel_rfl) (fun _ _ _ h => h) (Or.inl ⟨by kernel_rfl, ?h19x26⟩) (by assumption) ?r19x26
                      case h19x26 => (intro w hSw; obtain ⟨s0, s1⟩ := hSw; go_simp; first | done | (with_reducible rfl))
                      try simp only [Act.put]
                      try simp only [List.setIfInBounds_toArray]
                      try simp only [List.set_cons_succ]
                      try simp only [List.set_cons_zero]
                      refine wpAnyH_done (by kernel_rfl) ?_ _
                      go_wp2_with fail
                      go_meet
                      exact ⟨by first | rfl | simp, hb0⟩
                    · subst hbt
                      have Hat : Hid (64 * (sx : Int) + 8 * 0 = 8 * (n : Int)) := Lib.hid (by omega)
                      have hqb : (v == u) = false := by simpa using hq
                      have hqd : decide (v = u) = false := decide_eq_false hq
                      have h8n : IntKind.i64.wrap (8 * (n : Int)) = 8 * (n : Int) := IntWalk.i64_in _ (by omega)
                      clear hns HNn
                      refine wp_region_held_drew (S := fun W' => W'.cell? ⟨b_u, o_u + n, none⟩ = some (.int .u64 u) ∧ W'.cell? ⟨b_v, o_v + n, none⟩ = some (.int .u64 v)) (by kernel_rfl) (by first | exact ⟨cu, cv⟩ | (dsimp only; exact ⟨cu, cv⟩)) ?_
                      intro hS
                      have hb0 : Below wr.heap.size wr wr.drew := Below.drew (Below.refl _ _)
                      clear cu cv
                      generalize wr.drew = v0 at hS hb0 ⊢
                      refine wpAnyH_take_at (i := 0) (v := ?v0x27) (some 156) rfl rfl (by kernel_rfl) (by kernel_rfl) (by kernel_rfl) (fun _ _ _ h => h) (Or.inl ⟨by kernel_rfl, ?h0x27⟩) (by assumption) ?r0x27
                      case h0x27 => (intro w hSw; obtain ⟨s0, s1⟩ := hSw; go_simp; first | done | (with_reducible rfl))
                      try simp only [Act.put]
                      try simp only [List.setIfInBounds_toArray]
                      try simp only [List.set_cons_succ]
                      try simp only [List.set_cons_zero]
                      refine wpAnyH_take_at (i := 1) (v := ?v1x28) (some 157) rfl rfl (by kernel_rfl) (by kernel_rfl) (by kernel_rfl) (fun _ _ _ h => h) (Or.inl ⟨by kernel_rfl, ?h1x28⟩) (by assumption) ?r1x28
                      case h1x28 => (intro w hSw; obtain ⟨s0, s1⟩ := hSw; go_simp; first | done | (with_reducible rfl))
                      try simp only [Act.put]
                      try simp only [List.setIfInBounds_toArray]
                      try simp only [List.set_cons_succ]
                      try simp only [List.set_cons_zero]
                      refine wpAnyH_take_at (i := 2) (v := ?v2x29) (some 158) rfl rfl (by kernel_rfl) (by kernel_rfl) (by kernel_rfl) (fun _ _ _ h => h) (Or.inl ⟨by kernel_rfl, ?h2x29⟩) (by assumption) ?r2x29
                      case h2x29 => (intro w hSw; obtain ⟨s0, s1⟩ := hSw; go_simp; first | done | (with_reducible rfl))
                      try simp only [Act.put]
                      try simp only [List.setIfInBounds_toArray]
                      try simp only [List.set_cons_succ]
                      try simp only [List.set_cons_zero]
                      refine wpAnyH_take_at (i := 3) (v := ?v3x30) (some 159) rfl rfl (by kernel_rfl) (by kernel_rfl) (by kernel_rfl) (fun _ _ _ h => h) (Or.inl ⟨by kernel_rfl, ?h3x30⟩) (by assumption) ?r3x30
                      case h3x30 => (intro w hSw; obtain ⟨s0, s1⟩ := hSw; go_simp; first | done | (with_reducible rfl))
                      try simp only [Act.put]
                      try simp only [List.setIfInBounds_toArray]
                      try simp only [List.set_cons_succ]
                      try simp only [List.set_cons_zero]
                      refine wpAnyH_take_at (i := 4) (v := ?v4x31) (some 160) rfl rfl (by kernel_rfl) (by kernel_rfl) (by kernel_rfl) (fun _ _ _ h => h) (Or.inl ⟨by kernel_rfl, ?h4x31⟩) (by assumption) ?r4x31
                      case h4x31 => (intro w hSw; obtain ⟨s0, s1⟩ := hSw; go_simp; first | done | (with_reducible rfl))
                      try simp only [Act.put]
                      try simp only [List.setIfInBounds_toArray]
                      try simp only [List.set_cons_succ]
                      try simp only [List.set_cons_zero]
                      refine wpAnyH_take_at (i := 5) (v := ?v5x32) (some 161) rfl rfl (by kernel_rfl) (by kernel_rfl) (by kernel_rfl) (fun _ _ _ h => h) (Or.inl ⟨by kernel_rfl, ?h5x32⟩) (by assumption) ?r5x32
                      case h5x32 => (intro w hSw; obtain ⟨s0, s1⟩ := hSw; go_simp; first | done | (with_reducible rfl))
                      try simp only [Act.put]
                      try simp only [List.setIfInBounds_toArray]
                      try simp only [List.set_cons_succ]
                      try simp only [List.set_cons_zero]
                      refine wpAnyH_take_at (i := 6) (v := ?v6x33) (some 162) rfl rfl (by kernel_rfl) (by kernel_rfl) (by kernel_rfl) (fun _ _ _ h => h) (Or.inl ⟨by kernel_rfl, ?h6x33⟩) (by assumption) ?r6x33
                      case h6x33 => (intro w hSw; obtain ⟨s0, s1⟩ := hSw; go_simp; first | done | (with_reducible rfl))
                      try simp only [Act.put]
                      try simp only [List.setIfInBounds_toArray]
                      try simp only [List.set_cons_succ]
                      try simp only [List.set_cons_zero]
                      refine wpAnyH_take_at (i := 7) (v := ?v7x34) (some 163) rfl rfl (by kernel_rfl) (by kernel_rfl) (by kernel_rfl) (fun _ _ _ h => h) (Or.inl ⟨by kernel_rfl, ?h7x34⟩) (by assumption) ?r7x34
                      case h7x34 => (intro w hSw; obtain ⟨s0, s1⟩ := hSw; go_simp; first | done | (with_reducible rfl))
                      try simp only [Act.put]
                      try simp only [List.setIfInBounds_toArray]
                      try simp only [List.set_cons_succ]
                      try simp only [List.set_cons_zero]
                      refine wpAnyH_take_at (i := 8) (v := .bool true) (some 164) rfl rfl (by kernel_rfl) (by kernel_rfl) (by kernel_rfl) (fun _ _ _ h => h) (Or.inl ⟨by kernel_rfl, ?h8q⟩) (by assumption) ?r8q
                      case h8q => (intro w hSw; obtain ⟨s0, s1⟩ := hSw; go_simp; first | done | (with_reducible rfl) | (simp [hq]; done) | (simp [hqb]; done))
                      try simp only [Act.put]
                      try simp only [List.setIfInBounds_toArray]
                      try simp only [List.set_cons_succ]
                      try simp only [List.set_cons_zero]
                      refine wpAnyH_take_at (i := 9) (v := ?v9x35) (some 165) rfl rfl (by kernel_rfl) (by kernel_rfl) (by kernel_rfl) (fun _ _ _ h => h) (Or.inl ⟨by kernel_rfl, ?h9x35⟩) (by assumption) ?r9x35
                      case h9x35 => (intro w hSw; obtain ⟨s0, s1⟩ := hSw; go_simp; first | done | (with_reducible rfl))
                      try simp only [Act.put]
                      try simp only [List.setIfInBounds_toArray]
                      try simp only [List.set_cons_succ]
                      try simp only [List.set_cons_zero]
                      refine wpAnyH_take_at (i := 10) (v := ?v10x36) (some 166) rfl rfl (by kernel_rfl) (by kernel_rfl) (by kernel_rfl) (fun _ _ _ h => h) (Or.inl ⟨by kernel_rfl, ?h10x36⟩) (by assumption) ?r10x36
                      case h10x36 => (intro w hSw; obtain ⟨s0, s1⟩ := hSw; go_simp; first | done | (with_reducible rfl))
                      try simp only [Act.put]
                      try simp only [List.setIfInBounds_toArray]
                      try simp only [List.set_cons_succ]
                      try simp only [List.set_cons_zero]
                      refine wpAnyH_take_at (i := 11) (v := ?v11x37) (some 167) rfl rfl (by kernel_rfl) (by kernel_rfl) (by kernel_rfl) (fun _ _ _ h => h) (Or.inl ⟨by kernel_rfl, ?h11x37⟩) (by assumption) ?r11x37
                      case h11x37 => (intro w hSw; obtain ⟨s0, s1⟩ := hSw; go_simp; first | done | (with_reducible rfl))
                      try simp only [Act.put]
                      try simp only [List.setIfInBounds_toArray]
                      try simp only [List.set_cons_succ]
                      try simp only [List.set_cons_zero]
                      refine wpAnyH_take_at (i := 12) (v := ?v12x38) (some 168) rfl rfl (by kernel_rfl) (by kernel_rfl) (by kernel_rfl) (fun _ _ _ h => h) (Or.inl ⟨by kernel_rfl, ?h12x38⟩) (by assumption) ?r12x38
                      case h12x38 => (intro w hSw; obtain ⟨s0, s1⟩ := hSw; go_simp; first | done | (with_reducible rfl))
                      try simp only [Act.put]
                      try simp only [List.setIfInBounds_toArray]
                      try simp only [List.set_cons_succ]
                      try simp only [List.set_cons_zero]
                      refine wpAnyH_take_at (i := 13) (v := ?v13x39) (some 169) rfl rfl (by kernel_rfl) (by kernel_rfl) (by kernel_rfl) (fun _ _ _ h => h) (Or.inl ⟨by kernel_rfl, ?h13x39⟩) (by assumption) ?r13x39
                      case h13x39 => (intro w hSw; obtain ⟨s0, s1⟩ := hSw; go_simp; first | done | (with_reducible rfl))
                      try simp only [Act.put]
                      try simp only [List.setIfInBounds_toArray]
                      try simp only [List.set_cons_succ]
                      try simp only [List.set_cons_zero]
                      refine wpAnyH_take_at (i := 14) (v := ?v14x40) (some 170) rfl rfl (by kernel_rfl) (by kernel_rfl) (by kernel_rfl) (fun _ _ _ h => h) (Or.inl ⟨by kernel_rfl, ?h14x40⟩) (by assumption) ?r14x40
                      case h14x40 => (intro w hSw; obtain ⟨s0, s1⟩ := hSw; go_simp; first | done | (with_reducible rfl))
                      try simp only [Act.put]
                      try simp only [List.setIfInBounds_toArray]
                      try simp only [List.set_cons_succ]
                      try simp only [List.set_cons_zero]
                      refine wpAnyH_take_at (i := 15) (v := ?v15x41) (some 171) rfl rfl (by kernel_rfl) (by kernel_rfl) (by kernel_rfl) (fun _ _ _ h => h) (Or.inl ⟨by kernel_rfl, ?h15x41⟩) (by assumption) ?r15x41
                      case h15x41 => (intro w hSw; obtain ⟨s0, s1⟩ := hSw; go_simp; first | done | (with_reducible rfl))
                      try simp only [Act.put]
                      try simp only [List.setIfInBounds_toArray]
                      try simp only [List.set_cons_succ]
                      try simp only [List.set_cons_zero]
                      refine wpAnyH_ready (rs := [16]) (by kernel_rfl) (by simp) ?_
                      refine AllReadyH.cons rfl (fun K hK => ?_) AllReadyH.nil
                      go_simp
                      refine (rplanAt_any 0 (sx : Int) _ (by decide) (by have := Hsx.out; omega)).mono ?_
                      rintro e' v1 ⟨rfl, hv1⟩
                      subst hv1
                      rw [Hat.out]
                      go_simp
                      refine hK.out _ _ (hS) (fun hS => ?_)
                      clear hK K
                      try simp only [Act.put]
                      try simp only [List.setIfInBounds_toArray]
                      try simp only [List.set_cons_succ]
                      try simp only [List.set_cons_zero]
                      refine wpAnyH_take_at (i := 17) (v := ?v17x42) (some 173) rfl rfl (by kernel_rfl) (by kernel_rfl) (by kernel_rfl) (fun _ _ _ h => h) (Or.inl ⟨by kernel_rfl, ?h17x42⟩) (by assumption) ?r17x42
                      case h17x42 => (intro w hSw; obtain ⟨s0, s1⟩ := hSw; go_simp; first | done | (with_reducible rfl))
                      try simp only [Act.put]
                      try simp only [List.setIfInBounds_toArray]
                      try simp only [List.set_cons_succ]
                      try simp only [List.set_cons_zero]
                      refine wpAnyH_take_at (i := 18) (v := ?v18x43) (some 174) rfl rfl (by kernel_rfl) (by kernel_rfl) (by kernel_rfl) (fun _ _ _ h => h) (Or.inl ⟨by kernel_rfl, ?h18x43⟩) (by assumption) ?r18x43
                      case h18x43 => (intro w hSw; obtain ⟨s0, s1⟩ := hSw; go_simp; first | done | (with_reducible rfl))
                      try simp only [Act.put]
                      try simp only [List.setIfInBounds_toArray]
                      try simp only [List.set_cons_succ]
                      try simp only [List.set_cons_zero]
                      refine wpAnyH_take_at (i := 19) (v := ?v19x44) (some 175) rfl rfl (by kernel_rfl) (by kernel_rfl) (by kernel_rfl) (fun _ _ _ h => h) (Or.inl ⟨by kernel_rfl, ?h19x44⟩) (by assumption) ?r19x44
                      case h19x44 => (intro w hSw; obtain ⟨s0, s1⟩ := hSw; go_simp; first | done | (with_reducible rfl))
                      try simp only [Act.put]
                      try simp only [List.setIfInBounds_toArray]
                      try simp only [List.set_cons_succ]
                      try simp only [List.set_cons_zero]
                      refine wpAnyH_done (by kernel_rfl) ?_ _
                      go_wp2_with fail
                      go_meet
                      exact ⟨by first | rfl | simp, hb0⟩
                  case rest =>
                    obtain ⟨rfl, hb⟩ := hcut
                    obtain ⟨z4, hwx⟩ : ∃ x, x = wc := ⟨_, rfl⟩
                    subst hwx
                    have HB4 := Lib.hid (below_only HBz.out hb)
                    clear hb cu cv zu zv hNn
                    go_wp2_with fail
                    go_roundw
                    case rel => exact ⟨n + 1, by omega, by go_num, HB4.out⟩
                    case measure => simp [intOf]; omega
                · skip
                  obtain rfl : n = 40 := by omega
                  clear HN W_u W_v
                  have hb := HBz.out
                  clear HBz
                  replace HAll := Lib.hid (HAll.out.below hb)
                  have hsz := (hb).size
                  replace H_g := Lib.hid (row_below H_g.out hb)
                  replace H_c := Lib.hid (row_below H_c.out hb)
                  replace H_o := Lib.hid (row_below H_o.out hb)
                  replace H_d := Lib.hid (row_below H_d.out hb)
                  replace HA := Lib.hid (HA.out.below hb)
                  replace B := Lib.hid (below_only B.out hb)
                  clear hb hsz
                  have o21 : wr.cell? ⟨g_o, 21, none⟩ = some (.bool dn3) := by rw [row_cell H_o.out, ← Hdn3.out]; rfl
                  have o23 : wr.cell? ⟨g_o, 23, none⟩ = some (.int .i64 cd3) := by rw [row_cell H_o.out, ← Hcd3.out]; rfl
                  have z_o := lt_of_heap H_o.out
                  obtain ⟨c_0, c_1, c_2, c_3, c_f0, c_f1, c_f2, c_f3⟩ := box4 H_c.out
                  have z_c := lt_of_heap H_c.out
                  obtain ⟨d_0, d_1, d_2, d_3, d_f0, d_f1, d_f2, d_f3⟩ := box4 H_d.out
                  have z_d := lt_of_heap H_d.out
                  have hdn := Hdn3.out
                  have hcd := Hcd3.out
                  have hbI := HbI.out
                  clear Hdn3 Hcd3 HbI
                  rcases HO.out with ⟨h1, h2, h3⟩ | ⟨h1, h2, h3, h4, h5⟩ | ⟨h1, h2, h3, h4, h5⟩
                  · skip
                    obtain rfl : dn3 = false := by rw [← hdn, h1]
                    obtain rfl : bI = false := by rw [hbI]; rfl
                    clear h1 h2 h3 hdn hcd hbI HO
                    go_wp2_with fail
                    go_roundw
                    case rel => exact ⟨i + 1, W3, l3, by omega, by omega, by go_num, HOk2.out, HAll.out, HA.out, H_g.out, B.out⟩
                    case measure => simp [intOf]; omega
                  · skip
                    obtain rfl : dn3 = true := by rw [← hdn, h1]
                    have ecd : (enter ⟨c1, c2, c3, c4⟩ ax).2 = cd3 := by rw [← hcd, h2]
                    rw [ecd] at h3 h4
                    obtain rfl : bI = false := by rw [hbI]; simp [h3]
                    obtain ⟨m1, m2, m3, m4, hm⟩ : ∃ m1 m2 m3 m4, (enter ⟨c1, c2, c3, c4⟩ ax).1 = ⟨m1, m2, m3, m4⟩ := ⟨_, _, _, _, rfl⟩
                    have HE : Hid (enter ⟨c1, c2, c3, c4⟩ ax = (⟨m1, m2, m3, m4⟩, cd3)) := Lib.hid (by rw [← hm, ← ecd])
                    have q10 : (cd3 == 10) = false := by simpa using h4
                    have Hcd := Lib.hid hcd
                    clear h1 h2 h3 h4 h5 hdn hcd hbI HO ecd hm
                    go_wp2_with fail
                    refine (renter_as HE _).mono ?_
                    rintro r y1 ⟨rfl, hb⟩
                    clear o21 o23 z_o c_0 c_1 c_2 c_3 c_f0 c_f1 c_f2 c_f3 z_c d_0 d_1 d_2 d_3 d_f0 d_f1 d_f2 d_f3 z_d
                    replace HAll := Lib.hid (HAll.out.below hb)
                    have hsz := (hb).size
                    replace H_g := Lib.hid (row_below H_g.out hb)
                    replace H_c := Lib.hid (row_below H_c.out hb)
                    replace H_o := Lib.hid (row_below H_o.out hb)
                    replace H_d := Lib.hid (row_below H_d.out hb)
                    replace HA := Lib.hid (HA.out.below hb)
                    replace B := Lib.hid (below_only B.out hb)
                    clear hb hsz
                    go_upto_region 36 with fail
                    refine one_row y1 _ _ ?_
                    intro y2 hr hb
                    have hlB := B.out.size
                    have hlt := lt_of_heap HA.out.row
                    have hlp := lt_of_heap HA.out.box
                    have hl_g := lt_of_heap H_g.out
                    have hl_c := lt_of_heap H_c.out
                    have hl_o := lt_of_heap H_o.out
                    have hl_d := lt_of_heap H_d.out
                    replace HAll := Lib.hid (HAll.out.below hb)
                    have hsz := (hb).size
                    replace H_g := Lib.hid (row_below H_g.out hb)
                    replace H_c := Lib.hid (row_below H_c.out hb)
                    replace H_o := Lib.hid (row_below H_o.out hb)
                    replace H_d := Lib.hid (row_below H_d.out hb)
                    replace HA := Lib.hid (HA.out.below hb)
                    replace B := Lib.hid (below_only B.out hb)
                    clear hb hsz
                    have H_m := Lib.hid (show y2.heap[y1.heap.size]? = some (.cells #[.int .i64 m1, .int .i64 m2, .int .i64 m3, .int .i64 m4] 23 (0, 0)) from hr)
                    clear hr
                    obtain ⟨g_m, hg_m⟩ : ∃ x, x = y1.heap.size := ⟨_, rfl⟩
                    rw [← hg_m] at H_m ⊢
                    have N_m : Hid (g_m ≠ b) := Lib.hid (by omega)
                    have NP_m : Hid (p ≠ g_m) := Lib.hid (by omega)
                    clear hlt hlp
                    have M_g_m : Hid (g_g ≠ g_m) := Lib.hid (by omega)
                    have M_m_g : Hid (g_m ≠ g_g) := Lib.hid (by omega)
                    clear hl_g
                    have M_c_m : Hid (g_c ≠ g_m) := Lib.hid (by omega)
                    have M_m_c : Hid (g_m ≠ g_c) := Lib.hid (by omega)
                    clear hl_c
                    have M_o_m : Hid (g_o ≠ g_m) := Lib.hid (by omega)
                    have M_m_o : Hid (g_m ≠ g_o) := Lib.hid (by omega)
                    clear hl_o
                    have M_d_m : Hid (g_d ≠ g_m) := Lib.hid (by omega)
                    have M_m_d : Hid (g_m ≠ g_d) := Lib.hid (by omega)
                    clear hl_d
                    have L_m : Hid (w.heap.size ≤ g_m) := Lib.hid (by omega)
                    clear hg_m hlB
                    have o23 : y2.cell? ⟨g_o, 23, none⟩ = some (.int .i64 cd3) := by rw [row_cell H_o.out]; simp [← Hcd.out]
                    have z_o := lt_of_heap H_o.out
                    go_wp2_with fail
                    go_roundw
                    case rel => exact ⟨i + 1, W3, l3, by omega, by omega, by go_num, HOk2.out, HAll.out, HA.out, H_g.out, B.out⟩
                    case measure => simp [intOf]; omega
                  · skip
                    obtain rfl : dn3 = true := by rw [← hdn, h1]
                    obtain rfl : cd3 = 0 := by rw [← hcd, h2]
                    obtain rfl : bI = true := by rw [hbI]; rfl
                    have hdd : (⟨d1, d2, d3, d4⟩ : Ctl) = ⟨2, c2 + 1, ax, c4⟩ := word_inj Hd.out h4 (by rw [← HX.out, h5])
                    injection hdd with e1 e2 e3 e4
                    subst e1 e2 e3 e4
                    have hc2 : 0 ≤ c2 ∧ c2 ≤ 7 := by have h := Hco.out.2.2; simp only at h; omega
                    obtain ⟨hc20, hc27⟩ := hc2
                    have hw2 : IntKind.i64.wrap (c2 + 1) = c2 + 1 := IntWalk.i64_in _ (by omega)
                    clear h1 h2 h4 h5 hdn hcd hbI HO
                    rcases h3 with h3 | ⟨h3, h3'⟩
                    · simp only at h3
                      subst h3
                      go_wp2_with fail
                      go_roundw
                      case rel => exact ⟨i + 1, W3, l3, by omega, by omega, by go_num, HOk2.out, HAll.out, HA.out, H_g.out, B.out⟩
                      case measure => simp [intOf]; omega
                    · simp only at h3 h3'
                      subst h3 h3'
                      go_wp2_with fail
                      go_roundw
                      case rel => exact ⟨i + 1, W3, l3, by omega, by omega, by go_num, HOk2.out, HAll.out, HA.out, H_g.out, B.out⟩
                      case measure => simp [intOf]; omega
    · by_cases hl : i < L.length
      · have h100 : ¬ i < 100 := fun h => hlt ⟨hl, h⟩
        have B2 := B.out
        clear B hlt
        go_wp2_with fail
        go_ret
        exact ⟨rfl, B2⟩
      · have B2 := B.out
        clear B hlt
        go_wp2_with fail
        go_ret
        exact ⟨rfl, B2⟩

end Go.Proofs.Ytconieenkeajiaa
