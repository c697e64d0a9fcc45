/- Layer 17: the walk of EnterPlays. -/
import Derived.Test.YtconieenkeajiaaWay
import Derived.Test.YtconieenkeajiaaEnterOpen
namespace Go.Proofs.Ytconieenkeajiaa
open Go.RowKit
set_option linter.unusedVariables false
set_option linter.unusedSimpArgs false

set_option maxRecDepth 100000 in
set_option maxHeartbeats 8000000 in
theorem enterPlays_walk (s1 n1 p1 e1 s2 n2 p2 e2 s3 n3 p3 e3 : Int) (A : Option Addr) (cp : Nat) (L : List Tn) (w : World) (hLk : L.length ≤ cp) (hkm : cp ≤ maxLen) (hL : Cells w A (L.flatMap tnCells)) (hq : ∀ t ∈ L, TnOk t) :
    Calls Try.prog 3 #[.agg #[.int .i64 s1, .int .i64 n1, .int .i64 p1, .int .i64 e1, .int .i64 s2, .int .i64 n2, .int .i64 p2, .int .i64 e2, .int .i64 s3, .int .i64 n3, .int .i64 p3, .int .i64 e3], .slice A L.length cp] w fun r w' => r = .returned (.bool true) ∧ Below w.heap.size w w' := by
  have hlm : L.length ≤ 9223372036854775807 := by unfold maxLen at hkm; omega
  have HL0 := Lib.hid hL
  have Hq := Lib.hid hq
  obtain ⟨WS, HWS⟩ : ∃ x, Hid (laidWs ⟨s1, n1, p1, e1⟩ ⟨s2, n2, p2, e2⟩ ⟨s3, n3, p3, e3⟩ = x) := ⟨_, rfl⟩
  clear hL hq hkm
  go_enter Try.func3, Try.ntmps3
  go_upto_region 1 with fail
  refine one_row w _ _ ?_
  intro w1 hr hb
  have B := Lib.hid (hb)
  have H_x := Lib.hid (show w1.heap[w.heap.size]? = some (.cells #[.int .i64 s1, .int .i64 n1, .int .i64 p1, .int .i64 e1, .int .i64 s2, .int .i64 n2, .int .i64 p2, .int .i64 e2, .int .i64 s3, .int .i64 n3, .int .i64 p3, .int .i64 e3] 24 (0, 0)) from hr)
  clear hr hb
  go_wp2_with fail
  refine (shown_any _).mono ?_
  rintro r w2 ⟨rfl, hb⟩
  have hsz := (hb).size
  replace H_x := Lib.hid (row_below H_x.out hb)
  replace B := Lib.hid (below_only B.out hb)
  clear hb hsz
  have x_0 : w2.cell? ⟨w.heap.size, 0, none⟩ = some (.int .i64 s1) := by rw [row_cell H_x.out]; rfl
  have x_1 : w2.cell? ⟨w.heap.size, 1, none⟩ = some (.int .i64 n1) := by rw [row_cell H_x.out]; rfl
  have x_2 : w2.cell? ⟨w.heap.size, 2, none⟩ = some (.int .i64 p1) := by rw [row_cell H_x.out]; rfl
  have x_3 : w2.cell? ⟨w.heap.size, 3, none⟩ = some (.int .i64 e1) := by rw [row_cell H_x.out]; rfl
  have x_4 : w2.cell? ⟨w.heap.size, 4, none⟩ = some (.int .i64 s2) := by rw [row_cell H_x.out]; rfl
  have x_5 : w2.cell? ⟨w.heap.size, 5, none⟩ = some (.int .i64 n2) := by rw [row_cell H_x.out]; rfl
  have x_6 : w2.cell? ⟨w.heap.size, 6, none⟩ = some (.int .i64 p2) := by rw [row_cell H_x.out]; rfl
  have x_7 : w2.cell? ⟨w.heap.size, 7, none⟩ = some (.int .i64 e2) := by rw [row_cell H_x.out]; rfl
  have x_8 : w2.cell? ⟨w.heap.size, 8, none⟩ = some (.int .i64 s3) := by rw [row_cell H_x.out]; rfl
  have x_9 : w2.cell? ⟨w.heap.size, 9, none⟩ = some (.int .i64 n3) := by rw [row_cell H_x.out]; rfl
  have x_10 : w2.cell? ⟨w.heap.size, 10, none⟩ = some (.int .i64 p3) := by rw [row_cell H_x.out]; rfl
  have x_11 : w2.cell? ⟨w.heap.size, 11, none⟩ = some (.int .i64 e3) := by rw [row_cell H_x.out]; rfl
  go_wp2_with fail
  clear x_0 x_1 x_2 x_3 x_4 x_5 x_6 x_7 x_8 x_9 x_10 x_11
  refine (laid_any s1 n1 p1 e1 s2 n2 p2 e2 s3 n3 p3 e3 _).mono ?_
  rintro r w3 ⟨p, b, X, qq, d, rfl, hT, hb⟩
  rw [HWS.out] at hT
  have HT := Lib.hid hT
  have Hlw : Hid (w.heap.size ≤ p ∧ w.heap.size ≤ b ∧ w.heap.size ≤ X ∧ w.heap.size ≤ qq ∧ w.heap.size ≤ d) := Lib.hid (by have := hT.low; have := B.out.size; omega)
  have HOk : Hid (Okw WS) := Lib.hid (by rw [← HWS.out]; exact okw_laid _ _ _)
  clear hT
  have hsz := (hb).size
  replace H_x := Lib.hid (row_below H_x.out hb)
  replace B := Lib.hid (below_only B.out hb)
  clear hb hsz
  clear H_x
  go_upto_region 6 with (first | (refine wpList_build_to rfl 40 _ rfl dRn.arr (by simp only [List.map_toArray, List.map_cons, List.map_nil]; exact built_d) ?_; (try simp only [Act.put]); (try simp only [List.setIfInBounds_toArray]); (try simp only [List.set_cons_succ]); (try simp only [List.set_cons_zero])) | (refine wpList_build_to rfl 41 _ rfl (runs4 [dRn, dRn, dRn, dRn]) (by simp only [List.map_toArray, List.map_cons, List.map_nil]; exact built_4 dRn dRn dRn dRn) ?_; (try simp only [Act.put]); (try simp only [List.setIfInBounds_toArray]); (try simp only [List.set_cons_succ]); (try simp only [List.set_cons_zero])) | (refine wpList_alloc_to rfl 41 rfl _ (alloc4 _) ?_; (try simp only [Act.put]); (try simp only [List.setIfInBounds_toArray]); (try simp only [List.set_cons_succ]); (try simp only [List.set_cons_zero])) | (refine wpList_store_row rfl 41 (.tmp 8) (.tmp 40) rfl w3.heap.size (runs4 [dRn, dRn, dRn, dRn]) rfl rfl 41 _ (row_new _ _ _) info4 rfl (runs_one _) ?_; (try simp only [Act.put]); (try simp only [List.setIfInBounds_toArray]); (try simp only [List.set_cons_succ]); (try simp only [List.set_cons_zero])))
  have HA := Lib.hid HT.out.a
  have Hb := Lib.hid Hlw.out.2.1
  replace HT := Lib.hid (HT.out.below (Below.refl _ _))
  refine alloc_set' w3 _ _ _ ?_
  intro w4 hr hb
  have hlx := HT.out.a.row
  have hl1 := lt_of_heap HT.out.a.box
  have hl2 := lt_of_heap HT.out.a.row
  have hl3 := lt_of_heap HT.out.x.arn.box
  have hl4 := lt_of_heap HT.out.x.arn.row
  have hl5 : X < w3.heap.size := by obtain ⟨gp, h⟩ := HT.out.x.box; exact lt_of_heap h
  have hB3 := B.out.size
  have hsz := hb.size
  obtain ⟨g8, hg8⟩ : ∃ x, x = w3.heap.size := ⟨_, rfl⟩
  rw [← hg8] at hr ⊢
  replace HT := Lib.hid (HT.out.below hb)
  replace B := Lib.hid (below_only B.out hb)
  have H_8 : Hid (w4.heap[g8]? = some (.cells (runs4 [dRn, dRn, dRn, dRn]) 41 (0, 0))) := Lib.hid hr
  have hz8 := lt_of_heap hr
  clear hr hb HA Hb
  go_upto_region 7 with (first | (refine wpList_load_row rfl 41 (.tmp 8) rfl g8 rfl 41 (runs4 [dRn, dRn, dRn, dRn]) (0, 0) _ H_8.out und4 rfl info4 ?_; (try simp only [Act.put]); (try simp only [List.setIfInBounds_toArray]); (try simp only [List.set_cons_succ]); (try simp only [List.set_cons_zero])) | (refine wpList_alloc_to rfl 41 rfl _ (alloc4 _) ?_; (try simp only [Act.put]); (try simp only [List.setIfInBounds_toArray]); (try simp only [List.set_cons_succ]); (try simp only [List.set_cons_zero])) | (refine wpList_store_row rfl 41 (.tmp 9) (.tmp 41) rfl w4.heap.size (runs4 [dRn, dRn, dRn, dRn]) rfl rfl 41 _ (row_new _ _ _) info4 rfl (runs_one _) ?_; (try simp only [Act.put]); (try simp only [List.setIfInBounds_toArray]); (try simp only [List.set_cons_succ]); (try simp only [List.set_cons_zero])))
  refine alloc_set' w4 _ _ _ ?_
  intro w5 hr hb
  obtain ⟨g9, hg9⟩ : ∃ x, x = w4.heap.size := ⟨_, rfl⟩
  rw [← hg9] at hr ⊢
  replace HT := Lib.hid (HT.out.below hb)
  replace B := Lib.hid (below_only B.out hb)
  replace H_8 := Lib.hid (row_below H_8.out hb)
  have H_9 : Hid (w5.heap[g9]? = some (.cells (runs4 [dRn, dRn, dRn, dRn]) 41 (0, 0))) := Lib.hid hr
  have HF8 : Hid (g8 ≠ g9 ∧ g8 ≠ p ∧ g8 ≠ b ∧ g8 ≠ X ∧ g8 ≠ qq ∧ g8 ≠ d ∧ g9 ≠ p ∧ g9 ≠ b ∧ g9 ≠ X ∧ g9 ≠ qq ∧ g9 ≠ d ∧ w.heap.size ≤ g8 ∧ w.heap.size ≤ g9) := Lib.hid (by omega)
  clear hr hb hl1 hl2 hl3 hl4 hl5 hlx hB3 hsz hg8 hg9 hz8
  obtain ⟨FF, HFF⟩ : ∃ x, Hid (x = [b, d, g8, g9]) := ⟨_, Lib.hid rfl⟩
  have HAll : Hid (AllOk w5 FF [dRn, dRn, dRn, dRn]) := Lib.hid ⟨rfl, fun r hr => .inl (by simp at hr; rw [hr]; rfl)⟩
  go_wp2_with fail
  go_loopw [10] (fun t wr => ∃ (i : Nat) (ws : List Int) (l : List Rn), i ≤ L.length ∧ i ≤ 100 ∧ t = .int .i64 i ∧ Okw ws ∧ AllOk wr FF l ∧ Two wr w.heap.size p b X qq d ws ∧ wr.heap[g8]? = some (.cells (runs4 l) 41 (0, 0)) ∧ wr.heap[g9]? = some (.cells (runs4 l) 41 (0, 0)) ∧ Below w.heap.size w wr) (fun t _ => (100 - intOf t).toNat)
  case atStart => exact ⟨0, WS, _, Nat.zero_le _, by omega, rfl, HOk.out, HAll.out, ⟨HT.out.a, HT.out.x, by have := Hlw.out; omega, HT.out.ne, HT.out.nd⟩, H_8.out, H_9.out, B.out⟩
  case round =>
    clear HT H_8 H_9 B HAll HOk
    obtain ⟨i, ws, l, hi, hi2, rfl, hok, hall, hT, h8, h9, hB⟩ := hrel
    have HOk := Lib.hid hok
    have HAll := Lib.hid hall
    have HT := Lib.hid hT
    have H_8 := Lib.hid h8
    have H_9 := Lib.hid h9
    have B := Lib.hid hB
    clear hok hall hT h8 h9 hB
    by_cases hlt : i < L.length ∧ i < 100
    · skip
      obtain ⟨hlt, hlt2⟩ := hlt
      obtain ⟨bA, off, rfl, hbA, hcA⟩ := tns_at HL0.out (by omega)
      obtain ⟨⟨tw, ts, tf, ⟨tc1, tc2, tc3, tc4⟩⟩, htn⟩ : ∃ t, L[i]? = some t := ⟨_, List.getElem?_eq_getElem hlt⟩
      obtain ⟨⟨tw0, tw1⟩, ⟨ts0, ts1⟩, ⟨tf0, tf1⟩⟩ := Hq.out _ (List.mem_of_getElem? htn)
      obtain ⟨k0, k1, k2, k3, k4, k5, k6⟩ := hcA i _ htn
      simp only at tw0 tw1 ts0 ts1 tf0 tf1 k0 k1 k2 k3 k4 k5 k6
      replace k0 := (B.out.cell (p := ⟨bA, off + i * 7, none⟩) hbA).trans k0
      replace k1 := (B.out.cell (p := ⟨bA, off + i * 7 + 1, none⟩) hbA).trans k1
      replace k2 := (B.out.cell (p := ⟨bA, off + i * 7 + 2, none⟩) hbA).trans k2
      replace k3 := (B.out.cell (p := ⟨bA, off + i * 7 + 3, none⟩) hbA).trans k3
      replace k4 := (B.out.cell (p := ⟨bA, off + i * 7 + 4, none⟩) hbA).trans k4
      replace k5 := (B.out.cell (p := ⟨bA, off + i * 7 + 5, none⟩) hbA).trans k5
      replace k6 := (B.out.cell (p := ⟨bA, off + i * 7 + 6, none⟩) hbA).trans k6
      have hbA2 : bA < wr.heap.size := Nat.lt_of_lt_of_le hbA B.out.size
      clear hcA htn
      obtain ⟨sn, hsn⟩ : ∃ sn : Nat, (sn : Int) = 1 + ts % 3 := ⟨(1 + ts % 3).toNat, by omega⟩
      obtain ⟨sc, hsc⟩ : ∃ sc : Int, sc = 1 + ts % 3 := ⟨_, rfl⟩
      have Hsn : Hid ((sn : Int) = sc ∧ 1 ≤ sn ∧ sn ≤ 3 ∧ (1 ≤ sc ∧ sc ≤ 3) ∧ sc = 1 + ts % 3) := Lib.hid (by omega)
      have es : 1 + ts.tmod 3 = sc := by rw [hsc, Int.tmod_eq_emod_of_nonneg ts0]
      have es' : 1 + ts % 3 = sc := hsc.symm
      clear hsn hsc
      obtain ⟨kn, hkn⟩ : ∃ kn : Nat, (kn : Int) = tw % 4 := ⟨(tw % 4).toNat, by omega⟩
      have ek : tw.tmod 4 = (kn : Int) := by rw [hkn, Int.tmod_eq_emod_of_nonneg tw0]
      have ek' : tw % 4 = (kn : Int) := hkn.symm
      have kn4 : kn < 4 := by omega
      have hkI : (kn : Int) < 4 := by omega
      have hkI0 : 0 ≤ (kn : Int) := by omega
      have Htf := Lib.hid (And.intro (And.intro ts0 ts1) (And.intro tf0 tf1))
      clear hkn
      go_upto_region 11 with fail
      refine one_row wr _ _ ?_
      intro x1 hr hb
      obtain ⟨g_t, hg_t⟩ : ∃ x, x = wr.heap.size := ⟨_, rfl⟩
      rw [← hg_t] at hr ⊢
      have Ht : Hid (w.heap.size ≤ g_t ∧ g_t ≠ b ∧ g_t ≠ d ∧ g_t ≠ g8 ∧ g_t ≠ g9) := Lib.hid (by have h1 := lt_of_heap HT.out.a.row; have h2 := lt_of_heap HT.out.x.arn.row; have h3 := lt_of_heap H_8.out; have h4 := lt_of_heap H_9.out; have h5 := B.out.size; omega)
      clear hg_t k0 k1 k2 k3 k4 k5 k6
      replace HT := Lib.hid (HT.out.below hb)
      replace HAll := Lib.hid (HAll.out.below hb)
      have hsz := (hb).size
      replace H_8 := Lib.hid (row_below H_8.out hb)
      replace H_9 := Lib.hid (row_below H_9.out hb)
      replace B := Lib.hid (below_only B.out hb)
      clear hb hsz
      have H_t := Lib.hid (show x1.heap[g_t]? = some (.cells #[.int .u8 tw, .int .u8 ts, .int .u8 tf, .int .i64 tc1, .int .i64 tc2, .int .i64 tc3, .int .i64 tc4] 43 (0, 0)) from hr)
      clear hr
      have t_0 : x1.cell? ⟨g_t, 0, none⟩ = some (.int .u8 tw) := by rw [row_cell H_t.out]; rfl
      have t_1 : x1.cell? ⟨g_t, 1, none⟩ = some (.int .u8 ts) := by rw [row_cell H_t.out]; rfl
      have t_2 : x1.cell? ⟨g_t, 2, none⟩ = some (.int .u8 tf) := by rw [row_cell H_t.out]; rfl
      have t_3 : x1.cell? ⟨g_t, 3, none⟩ = some (.int .i64 tc1) := by rw [row_cell H_t.out]; rfl
      have t_4 : x1.cell? ⟨g_t, 4, none⟩ = some (.int .i64 tc2) := by rw [row_cell H_t.out]; rfl
      have t_5 : x1.cell? ⟨g_t, 5, none⟩ = some (.int .i64 tc3) := by rw [row_cell H_t.out]; rfl
      have t_6 : x1.cell? ⟨g_t, 6, none⟩ = some (.int .i64 tc4) := by rw [row_cell H_t.out]; rfl
      have z_t := lt_of_heap H_t.out
      go_upto_region 12 with fail
      by_cases h7 : tw % 8 = 7
      · skip
        have q1 : (tw % 8 == 7) = true := by simpa using h7
        have q2 : (tw.tmod 8 == 7) = true := by rw [Int.tmod_eq_emod_of_nonneg tw0]; exact q1
        clear h7
        obtain ⟨f1, f2, f3, f4, HF⟩ : ∃ f1 f2 f3 f4, Hid (fit ⟨tc1, tc2, tc3, tc4⟩ = ⟨f1, f2, f3, f4⟩) := ⟨_, _, _, _, rfl⟩
        have Hr : Hid (Right ⟨f1, f2, f3, f4⟩) := Lib.hid (by rw [← HF.out]; exact fit_right _)
        have HP := Lib.hid (pack_right Hr.out)
        have HY := Lib.hid (word_bd Hr.out)
        obtain ⟨v, Hv⟩ : ∃ v, Hid (word ⟨f1, f2, f3, f4⟩ = v) := ⟨_, rfl⟩
        rw [Hv.out] at HP HY
        obtain ⟨co, hco, hko⟩ := HOk.out.c sn (by have := Hsn.out; omega)
        have Hko := Lib.hid hko
        clear hco hko
        have Hat : Hid (64 * sc + 8 * 0 = ((8 * sn * 8 : Nat) : Int)) := Lib.hid (by have := Hsn.out; omega)
        go_wp2_with fail
        clear t_0 t_1 t_2 t_3 t_4 t_5 t_6 z_t
        refine (fit_as HF _).mono ?_
        rintro r x2 ⟨rfl, hb⟩
        replace HT := Lib.hid (HT.out.below hb)
        replace HAll := Lib.hid (HAll.out.below hb)
        have hsz := (hb).size
        replace H_8 := Lib.hid (row_below H_8.out hb)
        replace H_9 := Lib.hid (row_below H_9.out hb)
        replace H_t := Lib.hid (row_below H_t.out hb)
        replace B := Lib.hid (below_only B.out hb)
        clear hb hsz
        go_wp2_with fail
        refine (rpack_as HP _).mono ?_
        rintro r x3 ⟨rfl, hb⟩
        replace HT := Lib.hid (HT.out.below hb)
        replace HAll := Lib.hid (HAll.out.below hb)
        have hsz := (hb).size
        replace H_8 := Lib.hid (row_below H_8.out hb)
        replace H_9 := Lib.hid (row_below H_9.out hb)
        replace H_t := Lib.hid (row_below H_t.out hb)
        replace B := Lib.hid (below_only B.out hb)
        clear hb hsz
        go_wp2_with fail
        refine (rplanAt_any 0 sc _ (by decide) (by have := Hsn.out; omega)).mono ?_
        rintro r xa ⟨rfl, e2⟩
        rw [e2, Hat.out]
        clear e2 xa
        go_wp2_with fail
        refine (arnPut_any p b _ (8 * sn) _ v _ HT.out.a Hko.out HY.out).mono ?_
        rintro r x4 ⟨rfl, hA, hK⟩
        have HI := Lib.hid (HT.out.putA hA hK)
        replace H_8 := Lib.hid (hK.row H_8.out (by simpa using HF8.out.2.2.1))
        replace H_9 := Lib.hid (hK.row H_9.out (by simpa using HF8.out.2.2.2.2.2.2.2.1))
        replace HAll := Lib.hid (HAll.out.kept hK (by rw [HFF.out]; simp))
        replace B := Lib.hid (Keep.under B.out hK (by have := B.out.size; omega) (by simp; exact HT.out.low.2.1))
        clear hA hK H_t
        go_wp2_with fail
        refine (rallPut_any X qq d 4 4 0 64 _ (8 * sn) _ v 0 sc _ HI.out.2 Hko.out (by have := Hsn.out; omega) (by decide) (by have := Hsn.out; omega) HY.out).mono ?_
        rintro r x5 ⟨rfl, hX, hK⟩
        have HT2 : Hid (Two x5 w.heap.size p b X qq d (ws.set (8 * sn) v)) := Lib.hid ⟨HI.out.1.kept hK (by simpa using HT.out.nd) (by simpa using fun e => HT.out.ne.2.2 e.symm), hX, HT.out.low, HT.out.ne, HT.out.nd⟩
        replace H_8 := Lib.hid (hK.row H_8.out (by simpa using HF8.out.2.2.2.2.2.1))
        replace H_9 := Lib.hid (hK.row H_9.out (by simpa using HF8.out.2.2.2.2.2.2.2.2.2.2.1))
        replace HAll := Lib.hid (HAll.out.kept hK (by rw [HFF.out]; simp))
        replace B := Lib.hid (Keep.under B.out hK (by have := B.out.size; omega) (by simp; exact HT.out.low.2.2.2.2))
        have HOk2 : Hid (Okw (ws.set (8 * sn) v)) := Lib.hid (by rw [← Hv.out]; exact HOk.out.set sn (by have := Hsn.out; omega) Hr.out)
        clear hX hK HT HI HOk
        go_wp2_with fail
        go_roundw
        case rel => exact ⟨i + 1, _, l, by omega, by omega, by go_num, HOk2.out, HAll.out, HT2.out, H_8.out, H_9.out, B.out⟩
        case measure => simp [intOf]; omega
      · skip
        have q1 : (tw % 8 == 7) = false := by simpa using h7
        have q2 : (tw.tmod 8 == 7) = false := by rw [Int.tmod_eq_emod_of_nonneg tw0]; exact q1
        clear h7
        obtain ⟨rk, hrk⟩ : ∃ r, l[kn]? = some r := ⟨_, List.getElem?_eq_getElem (by rw [HAll.out.1]; exact kn4)⟩
        have HRk := Lib.hid hrk
        clear hrk
        obtain ⟨dn, Hdn⟩ : ∃ x, Hid (rk.done = x) := ⟨_, Lib.hid rfl⟩
        have d8 : x1.cell? ⟨g8, kn * 26 + 21, none⟩ = some (.bool dn) := runs_cell H_8.out HRk.out (by rw [← Hdn.out]; rfl)
        have z8 := lt_of_heap H_8.out
        go_upto_if 88 with fail
        clear t_0 t_1 t_2 t_3 t_4 t_5 t_6 z_t d8 z8
        try simp only [Act.put]
        go_cut [48, 49] from 88 to 100 (fun va vb wx => ∃ (l2 : List Rn) (r2 : Rn) (sx : Nat) (ax : Int) (cA : Option Addr) (kc : Nat), l2[kn]? = some r2 ∧ Way r2 (sx : Int) ax ⟨cA, 1, kc⟩ ∧ (1 ≤ sx ∧ sx ≤ 3) ∧ (0 ≤ ax ∧ ax ≤ 3) ∧ Ents wx cA [(ax, true)] ∧ (∀ z, 0 < [(ax, true)].length → cA = some z → z.block ∉ FF) ∧ AllOk wx FF l2 ∧ Two wx w.heap.size p b X qq d ws ∧ wx.heap[g8]? = some (.cells (runs4 l2) 41 (0, 0)) ∧ wx.heap[g9]? = some (.cells (runs4 l2) 41 (0, 0)) ∧ Below w.heap.size w wx)
        case first =>
          cases dn with
          | false =>
            go_wp2_with fail
            go_meet
            rcases HAll.out.2 rk (List.mem_of_getElem? HRk.out) with h | ⟨s, a, cA, kc, h1, h2, h3, h4, h5⟩
            · rw [Hdn.out] at h; cases h
            · obtain ⟨sx, rfl⟩ : ∃ sx : Nat, s = (sx : Int) := ⟨s.toNat, by omega⟩
              exact ⟨l, rk, sx, a, cA, kc, HRk.out, h5, by omega, h2, h3, h4, HAll.out, HT.out, H_8.out, H_9.out, B.out⟩
          | true =>
            have t_0 : x1.cell? ⟨g_t, 0, none⟩ = some (.int .u8 tw) := by rw [row_cell H_t.out]; rfl
            have t_1 : x1.cell? ⟨g_t, 1, none⟩ = some (.int .u8 ts) := by rw [row_cell H_t.out]; rfl
            have t_2 : x1.cell? ⟨g_t, 2, none⟩ = some (.int .u8 tf) := by rw [row_cell H_t.out]; rfl
            have t_3 : x1.cell? ⟨g_t, 3, none⟩ = some (.int .i64 tc1) := by rw [row_cell H_t.out]; rfl
            have t_4 : x1.cell? ⟨g_t, 4, none⟩ = some (.int .i64 tc2) := by rw [row_cell H_t.out]; rfl
            have t_5 : x1.cell? ⟨g_t, 5, none⟩ = some (.int .i64 tc3) := by rw [row_cell H_t.out]; rfl
            have t_6 : x1.cell? ⟨g_t, 6, none⟩ = some (.int .i64 tc4) := by rw [row_cell H_t.out]; rfl
            have z_t := lt_of_heap H_t.out
            go_wp2_with fail
            clear t_0 t_1 t_2 t_3 t_4 t_5 t_6 z_t
            refine (call_any ts tf sc (tf % 4) _ Htf.out.1 Htf.out.2 Hsn.out.2.2.2.2 rfl).mono ?_
            rintro r x2 ⟨kc, cA, rfl, ⟨hE, hnew⟩, hb⟩
            have F_ch : Hid (∀ z, 0 < [(tf % 4, true)].length → cA = some z → z.block ∉ FF) := Lib.hid fun z _ hz => by have h0 := hnew z hz; have h1 := lt_of_heap HT.out.a.row; have h2 := lt_of_heap HT.out.x.arn.row; have h3 := lt_of_heap H_8.out; have h4 := lt_of_heap H_9.out; rw [HFF.out]; simp; omega
            have E_ch := Lib.hid hE
            clear hnew hE
            replace HT := Lib.hid (HT.out.below hb)
            replace HAll := Lib.hid (HAll.out.below hb)
            have hsz := (hb).size
            replace H_8 := Lib.hid (row_below H_8.out hb)
            replace H_9 := Lib.hid (row_below H_9.out hb)
            replace H_t := Lib.hid (row_below H_t.out hb)
            replace B := Lib.hid (below_only B.out hb)
            clear hb hsz
            go_upto_region 19 with (first | (refine wpList_store_sub rfl 40 (.tmp 95) (.tmp 94) rfl g9 (kn * 26) (callRn sc (tf % 4) ⟨cA, 1, kc⟩).arr rfl rfl 41 _ H_9.out infoRun (by rw [runs_size]; have := HAll.out.1; have : (callRn sc (tf % 4) ⟨cA, 1, kc⟩).arr.size = 26 := rfl; omega) (Rn.one _) ?_; (try simp only [Act.put]); (try simp only [List.setIfInBounds_toArray]); (try simp only [List.set_cons_succ]); (try simp only [List.set_cons_zero])))
            rw [runs_set (by have := HAll.out.1; omega) (callRn sc (tf % 4) ⟨cA, 1, kc⟩)]
            have hK := (Keep.refl [g9] x2).setRow (g := g9) (.inl (by simp)) (runs4 (l.set kn (callRn sc (tf % 4) ⟨cA, 1, kc⟩)))
            have hr : (x2.setRow g9 (runs4 (l.set kn (callRn sc (tf % 4) ⟨cA, 1, kc⟩)))).heap[g9]? = some (.cells (runs4 (l.set kn (callRn sc (tf % 4) ⟨cA, 1, kc⟩))) 41 (0, 0)) := setRow_heap _ _ _ _ _ _ H_9.out
            generalize x2.setRow g9 (runs4 (l.set kn (callRn sc (tf % 4) ⟨cA, 1, kc⟩))) = x3 at hK hr ⊢
            replace H_t := Lib.hid (hK.row H_t.out (by simpa using Ht.out.2.2.2.2))
            replace HT := Lib.hid (show Two x3 w.heap.size p b X qq d _ from ⟨HT.out.a.kept hK (by simpa using fun e => HF8.out.2.2.2.2.2.2.1 e.symm) (by simpa using fun e => HF8.out.2.2.2.2.2.2.2.1 e.symm), HT.out.x.kept hK (by simpa using fun e => HF8.out.2.2.2.2.2.2.2.2.1 e.symm) (by simpa using fun e => HF8.out.2.2.2.2.2.2.2.2.2.1 e.symm) (by simpa using fun e => HF8.out.2.2.2.2.2.2.2.2.2.2.1 e.symm), HT.out.low, HT.out.ne, HT.out.nd⟩)
            replace H_8 := Lib.hid (hK.row H_8.out (by simpa using HF8.out.1))
            replace HAll := Lib.hid (HAll.out.kept hK (by rw [HFF.out]; simp))
            replace E_ch := Lib.hid (ents_kept E_ch.out hK (fun z h0 hz hm => F_ch.out z h0 hz (by rw [HFF.out]; simp at hm; simp [hm])))
            replace B := Lib.hid (Keep.under B.out hK (by have := B.out.size; omega) (by simp; have := HF8.out; omega))
            replace H_9 := Lib.hid hr
            clear hr hK
            have Hk2 : Hid ((l.set kn (callRn sc (tf % 4) ⟨cA, 1, kc⟩))[kn]? = some (callRn sc (tf % 4) ⟨cA, 1, kc⟩)) := Lib.hid (by rw [List.getElem?_set, if_pos rfl, if_pos (by have := HAll.out.1; omega)])
            go_wp2_with (first | (refine wpList_load_sub rfl 40 (.tmp 98) rfl g9 (kn * 26) rfl 41 (runs4 (l.set kn (callRn sc (tf % 4) ⟨cA, 1, kc⟩))) (callRn sc (tf % 4) ⟨cA, 1, kc⟩).arr (0, 0) _ H_9.out (fun j v h => runs_get Hk2.out h) undRun rfl infoRun ?_; (try simp only [Act.put]); (try simp only [List.setIfInBounds_toArray]); (try simp only [List.set_cons_succ]); (try simp only [List.set_cons_zero])) | (refine wpList_store_sub rfl 40 (.tmp 100) (.tmp 99) rfl g8 (kn * 26) (callRn sc (tf % 4) ⟨cA, 1, kc⟩).arr rfl rfl 41 _ H_8.out infoRun (by rw [runs_size]; have := HAll.out.1; have : (callRn sc (tf % 4) ⟨cA, 1, kc⟩).arr.size = 26 := rfl; omega) (Rn.one _) ?_; (try simp only [Act.put]); (try simp only [List.setIfInBounds_toArray]); (try simp only [List.set_cons_succ]); (try simp only [List.set_cons_zero])))
            go_meet
            rw [runs_set (by have := HAll.out.1; omega) (callRn sc (tf % 4) ⟨cA, 1, kc⟩)]
            have hK := (Keep.refl [g8] x3).setRow (g := g8) (.inl (by simp)) (runs4 (l.set kn (callRn sc (tf % 4) ⟨cA, 1, kc⟩)))
            have hr : (x3.setRow g8 (runs4 (l.set kn (callRn sc (tf % 4) ⟨cA, 1, kc⟩)))).heap[g8]? = some (.cells (runs4 (l.set kn (callRn sc (tf % 4) ⟨cA, 1, kc⟩))) 41 (0, 0)) := setRow_heap _ _ _ _ _ _ H_8.out
            generalize x3.setRow g8 (runs4 (l.set kn (callRn sc (tf % 4) ⟨cA, 1, kc⟩))) = x4 at hK hr ⊢
            replace HT := Lib.hid (show Two x4 w.heap.size p b X qq d _ from ⟨HT.out.a.kept hK (by simpa using fun e => HF8.out.2.1 e.symm) (by simpa using fun e => HF8.out.2.2.1 e.symm), HT.out.x.kept hK (by simpa using fun e => HF8.out.2.2.2.1 e.symm) (by simpa using fun e => HF8.out.2.2.2.2.1 e.symm) (by simpa using fun e => HF8.out.2.2.2.2.2.1 e.symm), HT.out.low, HT.out.ne, HT.out.nd⟩)
            replace H_9 := Lib.hid (hK.row H_9.out (by simpa using fun e => HF8.out.1 e.symm))
            replace HAll := Lib.hid (HAll.out.kept hK (by rw [HFF.out]; simp))
            replace E_ch := Lib.hid (ents_kept E_ch.out hK (fun z h0 hz hm => F_ch.out z h0 hz (by rw [HFF.out]; simp at hm; simp [hm])))
            replace B := Lib.hid (Keep.under B.out hK (by have := B.out.size; omega) (by simp; have := HF8.out; omega))
            replace H_8 := Lib.hid hr
            clear hr hK
            have hsc1 := Hsn.out
            have hrw : Way (callRn sc (tf % 4) ⟨cA, 1, kc⟩) (sn : Int) (tf % 4) ⟨cA, 1, kc⟩ := .inl (by rw [hsc1.1])
            exact ⟨_, _, sn, tf % 4, cA, kc, Hk2.out, hrw, by omega, by omega, E_ch.out, F_ch.out, HAll.out.set kn (runOk_way hsc1.2.2.2.1 (by omega) E_ch.out F_ch.out (.inr (.inl rfl))), HT.out, H_8.out, H_9.out, B.out⟩
        case rest =>
          obtain ⟨l2, r2, sx, ax, cA, kc, hk2, hw, hsx, hax, hE, hF, hall, hT, h8, h9, hB⟩ := hcut
          obtain ⟨x5, hwx⟩ : ∃ x, x = wc := ⟨_, rfl⟩
          subst hwx
          clear HAll HT H_8 H_9 B HRk Hdn H_t Ht
          have HAll := Lib.hid hall
          have HT := Lib.hid hT
          have H_8 := Lib.hid h8
          have H_9 := Lib.hid h9
          have B := Lib.hid hB
          have E_ch := Lib.hid hE
          have F_ch := Lib.hid hF
          have Hk2 := Lib.hid hk2
          have Hw := Lib.hid hw
          have Hsx : Hid ((1 ≤ (sx : Int) ∧ (sx : Int) ≤ 3) ∧ (0 ≤ ax ∧ ax ≤ 3) ∧ sx < 4 ∧ ((8 * sx : Nat) : Int) = 8 * (sx : Int)) := Lib.hid (by omega)
          obtain ⟨co, hco, hko⟩ := HOk.out.c sx (by omega)
          have Hco := Lib.hid hco
          have Hko := Lib.hid hko
          have Hln := Lib.hid (show kn < l2.length by have := hall.1; omega)
          clear hall hT h8 h9 hB hE hF hk2 hw hsx hax hco hko
          go_upto_region 20 with fail
          try simp only [Act.put]
          go_cut [16, 17] from 101 to 109 (fun vd ve wx => ∃ gZ, vd = .pointer (some ⟨gZ, 0, none⟩) ∧ ve = .int .i64 0 ∧ x5.heap.size ≤ gZ ∧ wx.heap[gZ]? = some (.cells (stepR co r2).arr 40 (0, 0)) ∧ Arn wx p b (ws.set (8 * sx) (stepX co r2)) ∧ Keep [b] x5 wx)
          case first =>
            refine wp_region_held_drew (S := fun W' => W'.heap[g8]? = some (.cells (runs4 l2) 41 (0, 0))) (by kernel_rfl) (show x5.drew.heap[g8]? = _ from H_8.out) ?_
            intro hS
            have hA : Arn x5.drew p b ws := HT.out.a.drew
            have hK0 : Keep [b] x5 x5.drew := (Keep.refl _ _).drew
            generalize x5.drew = y0 at hS hA hK0 ⊢
            refine wpAnyH_take_at (i := 1) (v := ?v1x1) (some 103) rfl rfl (by kernel_rfl) (by kernel_rfl) (by kernel_rfl) (fun _ _ _ h => h) (Or.inl ⟨by kernel_rfl, ?h1x1⟩) (by assumption) ?r1x1
            case h1x1 => (intro w hSw; (try dsimp only at hSw); go_simp; first | done | (with_reducible rfl))
            try simp only [Act.put]
            try simp only [List.setIfInBounds_toArray]
            try simp only [List.set_cons_succ]
            try simp only [List.set_cons_zero]
            refine wpAnyH_take_at (i := 2) (v := ?v2x2) (some 104) rfl rfl (by kernel_rfl) (by kernel_rfl) (by kernel_rfl) (fun _ _ _ h => h) (Or.inl ⟨by kernel_rfl, ?h2x2⟩) (by assumption) ?r2x2
            case h2x2 => (intro w hSw; (try dsimp only at hSw); go_simp; first | done | (with_reducible rfl))
            try simp only [Act.put]
            try simp only [List.setIfInBounds_toArray]
            try simp only [List.set_cons_succ]
            try simp only [List.set_cons_zero]
            refine wpAnyH_take_at (i := 3) (v := ?v3x3) (some 105) rfl rfl (by kernel_rfl) (by kernel_rfl) (by kernel_rfl) (fun _ _ _ h => h) (Or.inl ⟨by kernel_rfl, ?h3x3⟩) (by assumption) ?r3x3
            case h3x3 => (intro w hSw; (try dsimp only at hSw); go_simp; first | done | (with_reducible rfl))
            try simp only [Act.put]
            try simp only [List.setIfInBounds_toArray]
            try simp only [List.set_cons_succ]
            try simp only [List.set_cons_zero]
            refine wpAnyH_take_at (i := 4) (v := .agg r2.arr) (some 106) rfl rfl (by kernel_rfl) (by kernel_rfl) (by kernel_rfl) (fun _ _ _ h => h) (yieldsIf_load_sub (by kernel_rfl) 40 (.tmp 105) rfl g8 (kn * 26) rfl (runs4 l2) r2.arr (fun W' hW' => hW') (fun j v h => runs_get Hk2.out h) undRun rfl infoRun) (by assumption) ?_
            try simp only [Act.put]
            try simp only [List.setIfInBounds_toArray]
            try simp only [List.set_cons_succ]
            try simp only [List.set_cons_zero]
            refine wpAnyH_ready (rs := [0, 9]) (by kernel_rfl) (by simp) ?_
            refine AllReadyH.cons rfl (fun K hK => ?_) (AllReadyH.cons rfl (fun K hK => ?_) AllReadyH.nil)
            · skip
              go_simp
              refine (plan_any _).mono ?_
              rintro e' yP ⟨rfl, hb⟩
              go_simp
              replace hA := hA.below hb
              replace hK0 := hK0.call hb
              refine hK.out _ _ (row_below hS hb) (fun hS => ?_)
              clear hK K
              try simp only [Act.put]
              try simp only [List.setIfInBounds_toArray]
              try simp only [List.set_cons_succ]
              try simp only [List.set_cons_zero]
              refine wpAnyH_ready (rs := [5, 9]) (by kernel_rfl) (by simp) ?_
              refine AllReadyH.cons rfl (fun K hK => ?_) (AllReadyH.cons rfl (fun K hK => ?_) AllReadyH.nil)
              · skip
                go_simp
                refine (wayStep_any p b (8 * sx) ws co (sx : Int) ax ⟨cA, 1, kc⟩ r2 _ Hw.out hA Hco.out Hko.out Hsx.out.1 Hsx.out.2.2.2).mono ?_
                rintro e' yS ⟨rfl, hA1, hK1⟩
                go_simp
                replace hK0 := hK0.trans hK1
                clear hA
                have hA := hA1
                clear hA1
                refine hK.out _ _ (hK1.row hS (by simpa using HF8.out.2.2.1)) (fun hS => ?_)
                clear hK K
                try simp only [Act.put]
                try simp only [List.setIfInBounds_toArray]
                try simp only [List.set_cons_succ]
                try simp only [List.set_cons_zero]
                refine wpAnyH_take_at (i := 6) (v := ?v6x4) (some 101) rfl rfl (by kernel_rfl) (by kernel_rfl) (by kernel_rfl) (fun _ _ _ h => h) (Or.inl ⟨by kernel_rfl, ?h6x4⟩) (by assumption) ?r6x4
                case h6x4 => (intro w hSw; (try dsimp only at hSw); go_simp; first | done | (with_reducible rfl))
                try simp only [Act.put]
                try simp only [List.setIfInBounds_toArray]
                try simp only [List.set_cons_succ]
                try simp only [List.set_cons_zero]
                refine wpAnyH_take_at (i := 7) (v := ?v7x5) (some 108) rfl rfl (by kernel_rfl) (by kernel_rfl) (by kernel_rfl) (fun _ _ _ h => h) (Or.inl ⟨by kernel_rfl, ?h7x5⟩) (by assumption) ?r7x5
                case h7x5 => (intro w hSw; (try dsimp only at hSw); go_simp; first | done | (with_reducible rfl))
                try simp only [Act.put]
                try simp only [List.setIfInBounds_toArray]
                try simp only [List.set_cons_succ]
                try simp only [List.set_cons_zero]
                refine wpAnyH_take_at (i := 8) (v := ?v8x6) (some 109) rfl rfl (by kernel_rfl) (by kernel_rfl) (by kernel_rfl) (fun _ _ _ h => h) (Or.inl ⟨by kernel_rfl, ?h8x6⟩) (by assumption) ?r8x6
                case h8x6 => (intro w hSw; (try dsimp only at hSw); go_simp; first | done | (with_reducible rfl))
                try simp only [Act.put]
                try simp only [List.setIfInBounds_toArray]
                try simp only [List.set_cons_succ]
                try simp only [List.set_cons_zero]
                refine wpAnyH_ready (rs := [9]) (by kernel_rfl) (by simp) ?_
                refine AllReadyH.cons rfl (fun K hK => ?_) AllReadyH.nil
                refine step_alloc_run (some 16) rfl rfl rfl ?_
                refine k_alloc (fun yZ hZ hb => ?_)
                have hz1 := lt_of_heap hA.box
                have hz2 := lt_of_heap hA.row
                have hz3 := lt_of_heap hS
                have hz4 := hK0.size
                obtain ⟨gZ, HgZ⟩ : ∃ x, x = yS.heap.size := ⟨_, rfl⟩
                rw [← HgZ] at hZ hz1 hz2 hz3 hz4 ⊢
                clear HgZ
                have hq1 : p ≠ gZ := by omega
                have hq2 : gZ ≠ b := by omega
                have hq3 : g8 ≠ gZ := by omega
                clear hz1 hz2 hz3
                replace hA := hA.below hb
                replace hK0 := hK0.call hb
                refine hK.out _ _ (row_below hS hb) (fun hS => ?_)
                clear hK K
                try simp only [Act.put]
                try simp only [List.setIfInBounds_toArray]
                try simp only [List.set_cons_succ]
                try simp only [List.set_cons_zero]
                refine wpAnyH_ready (rs := [10]) (by kernel_rfl) (by simp) ?_
                refine AllReadyH.cons rfl (fun K hK => ?_) AllReadyH.nil
                refine step_store_row none rfl rfl 40 (.tmp 16) (.tmp 108) rfl gZ (stepR co r2).arr rfl rfl 40 ZRun hZ infoRun rfl (Rn.one _) ?_
                refine hK.out _ _ ((setRow_other _ _ _ _ hq3).trans hS) (fun hS => ?_)
                clear hK K
                try simp only [Act.put]
                try simp only [List.setIfInBounds_toArray]
                try simp only [List.set_cons_succ]
                try simp only [List.set_cons_zero]
                refine wpAnyH_take_at (i := 11) (v := ?v11x7) (some 17) rfl rfl (by kernel_rfl) (by kernel_rfl) (by kernel_rfl) (fun _ _ _ h => h) (Or.inl ⟨by kernel_rfl, ?h11x7⟩) (by assumption) ?r11x7
                case h11x7 => (intro w hSw; (try dsimp only at hSw); go_simp; first | done | (with_reducible rfl))
                try simp only [Act.put]
                try simp only [List.setIfInBounds_toArray]
                try simp only [List.set_cons_succ]
                try simp only [List.set_cons_zero]
                refine wpAnyH_done (by kernel_rfl) ?_ _
                go_wp2_with fail
                go_meet
                have hks := (Keep.refl [gZ] yZ).setRow (g := gZ) (.inl (by simp)) (stepR co r2).arr
                exact ⟨gZ, rfl, rfl, hz4, setRow_heap _ _ _ _ _ _ hZ, hA.kept hks (by simpa using hq1) (by simpa using fun e => hq2 e.symm), hK0.setRow (.inr hz4) _⟩
              · skip
                refine step_alloc_run (some 16) rfl rfl rfl ?_
                refine k_alloc (fun yZ hZ hb => ?_)
                have hz1 := lt_of_heap hA.box
                have hz2 := lt_of_heap hA.row
                have hz3 := lt_of_heap hS
                have hz4 := hK0.size
                obtain ⟨gZ, HgZ⟩ : ∃ x, x = yP.heap.size := ⟨_, rfl⟩
                rw [← HgZ] at hZ hz1 hz2 hz3 hz4 ⊢
                clear HgZ
                have hq1 : p ≠ gZ := by omega
                have hq2 : gZ ≠ b := by omega
                have hq3 : g8 ≠ gZ := by omega
                clear hz1 hz2 hz3
                replace hA := hA.below hb
                replace hK0 := hK0.call hb
                refine hK.out _ _ (row_below hS hb) (fun hS => ?_)
                clear hK K
                try simp only [Act.put]
                try simp only [List.setIfInBounds_toArray]
                try simp only [List.set_cons_succ]
                try simp only [List.set_cons_zero]
                refine wpAnyH_ready (rs := [5]) (by kernel_rfl) (by simp) ?_
                refine AllReadyH.cons rfl (fun K hK => ?_) AllReadyH.nil
                go_simp
                refine (wayStep_any p b (8 * sx) ws co (sx : Int) ax ⟨cA, 1, kc⟩ r2 _ Hw.out hA Hco.out Hko.out Hsx.out.1 Hsx.out.2.2.2).mono ?_
                rintro e' yS ⟨rfl, hA1, hK1⟩
                go_simp
                replace hK0 := hK0.trans hK1
                replace hZ := hK1.row hZ (by simpa using hq2)
                clear hA
                have hA := hA1
                clear hA1
                refine hK.out _ _ (hK1.row hS (by simpa using HF8.out.2.2.1)) (fun hS => ?_)
                clear hK K
                try simp only [Act.put]
                try simp only [List.setIfInBounds_toArray]
                try simp only [List.set_cons_succ]
                try simp only [List.set_cons_zero]
                refine wpAnyH_take_at (i := 6) (v := ?v6x8) (some 101) rfl rfl (by kernel_rfl) (by kernel_rfl) (by kernel_rfl) (fun _ _ _ h => h) (Or.inl ⟨by kernel_rfl, ?h6x8⟩) (by assumption) ?r6x8
                case h6x8 => (intro w hSw; (try dsimp only at hSw); go_simp; first | done | (with_reducible rfl))
                try simp only [Act.put]
                try simp only [List.setIfInBounds_toArray]
                try simp only [List.set_cons_succ]
                try simp only [List.set_cons_zero]
                refine wpAnyH_take_at (i := 7) (v := ?v7x9) (some 108) rfl rfl (by kernel_rfl) (by kernel_rfl) (by kernel_rfl) (fun _ _ _ h => h) (Or.inl ⟨by kernel_rfl, ?h7x9⟩) (by assumption) ?r7x9
                case h7x9 => (intro w hSw; (try dsimp only at hSw); go_simp; first | done | (with_reducible rfl))
                try simp only [Act.put]
                try simp only [List.setIfInBounds_toArray]
                try simp only [List.set_cons_succ]
                try simp only [List.set_cons_zero]
                refine wpAnyH_take_at (i := 8) (v := ?v8x10) (some 109) rfl rfl (by kernel_rfl) (by kernel_rfl) (by kernel_rfl) (fun _ _ _ h => h) (Or.inl ⟨by kernel_rfl, ?h8x10⟩) (by assumption) ?r8x10
                case h8x10 => (intro w hSw; (try dsimp only at hSw); go_simp; first | done | (with_reducible rfl))
                try simp only [Act.put]
                try simp only [List.setIfInBounds_toArray]
                try simp only [List.set_cons_succ]
                try simp only [List.set_cons_zero]
                refine wpAnyH_ready (rs := [10]) (by kernel_rfl) (by simp) ?_
                refine AllReadyH.cons rfl (fun K hK => ?_) AllReadyH.nil
                refine step_store_row none rfl rfl 40 (.tmp 16) (.tmp 108) rfl gZ (stepR co r2).arr rfl rfl 40 ZRun hZ infoRun rfl (Rn.one _) ?_
                refine hK.out _ _ ((setRow_other _ _ _ _ hq3).trans hS) (fun hS => ?_)
                clear hK K
                try simp only [Act.put]
                try simp only [List.setIfInBounds_toArray]
                try simp only [List.set_cons_succ]
                try simp only [List.set_cons_zero]
                refine wpAnyH_take_at (i := 11) (v := ?v11x11) (some 17) rfl rfl (by kernel_rfl) (by kernel_rfl) (by kernel_rfl) (fun _ _ _ h => h) (Or.inl ⟨by kernel_rfl, ?h11x11⟩) (by assumption) ?r11x11
                case h11x11 => (intro w hSw; (try dsimp only at hSw); go_simp; first | done | (with_reducible rfl))
                try simp only [Act.put]
                try simp only [List.setIfInBounds_toArray]
                try simp only [List.set_cons_succ]
                try simp only [List.set_cons_zero]
                refine wpAnyH_done (by kernel_rfl) ?_ _
                go_wp2_with fail
                go_meet
                have hks := (Keep.refl [gZ] yS).setRow (g := gZ) (.inl (by simp)) (stepR co r2).arr
                exact ⟨gZ, rfl, rfl, hz4, setRow_heap _ _ _ _ _ _ hZ, hA.kept hks (by simpa using hq1) (by simpa using fun e => hq2 e.symm), hK0.setRow (.inr hz4) _⟩
            · skip
              refine step_alloc_run (some 16) rfl rfl rfl ?_
              refine k_alloc (fun yZ hZ hb => ?_)
              have hz1 := lt_of_heap hA.box
              have hz2 := lt_of_heap hA.row
              have hz3 := lt_of_heap hS
              have hz4 := hK0.size
              obtain ⟨gZ, HgZ⟩ : ∃ x, x = y0.heap.size := ⟨_, rfl⟩
              rw [← HgZ] at hZ hz1 hz2 hz3 hz4 ⊢
              clear HgZ
              have hq1 : p ≠ gZ := by omega
              have hq2 : gZ ≠ b := by omega
              have hq3 : g8 ≠ gZ := by omega
              clear hz1 hz2 hz3
              replace hA := hA.below hb
              replace hK0 := hK0.call hb
              refine hK.out _ _ (row_below hS hb) (fun hS => ?_)
              clear hK K
              try simp only [Act.put]
              try simp only [List.setIfInBounds_toArray]
              try simp only [List.set_cons_succ]
              try simp only [List.set_cons_zero]
              refine wpAnyH_ready (rs := [0]) (by kernel_rfl) (by simp) ?_
              refine AllReadyH.cons rfl (fun K hK => ?_) AllReadyH.nil
              go_simp
              refine (plan_any _).mono ?_
              rintro e' yP ⟨rfl, hb⟩
              go_simp
              replace hA := hA.below hb
              replace hK0 := hK0.call hb
              replace hZ := row_below hZ hb
              refine hK.out _ _ (row_below hS hb) (fun hS => ?_)
              clear hK K
              try simp only [Act.put]
              try simp only [List.setIfInBounds_toArray]
              try simp only [List.set_cons_succ]
              try simp only [List.set_cons_zero]
              refine wpAnyH_ready (rs := [5]) (by kernel_rfl) (by simp) ?_
              refine AllReadyH.cons rfl (fun K hK => ?_) AllReadyH.nil
              go_simp
              refine (wayStep_any p b (8 * sx) ws co (sx : Int) ax ⟨cA, 1, kc⟩ r2 _ Hw.out hA Hco.out Hko.out Hsx.out.1 Hsx.out.2.2.2).mono ?_
              rintro e' yS ⟨rfl, hA1, hK1⟩
              go_simp
              replace hK0 := hK0.trans hK1
              replace hZ := hK1.row hZ (by simpa using hq2)
              clear hA
              have hA := hA1
              clear hA1
              refine hK.out _ _ (hK1.row hS (by simpa using HF8.out.2.2.1)) (fun hS => ?_)
              clear hK K
              try simp only [Act.put]
              try simp only [List.setIfInBounds_toArray]
              try simp only [List.set_cons_succ]
              try simp only [List.set_cons_zero]
              refine wpAnyH_take_at (i := 6) (v := ?v6x12) (some 101) rfl rfl (by kernel_rfl) (by kernel_rfl) (by kernel_rfl) (fun _ _ _ h => h) (Or.inl ⟨by kernel_rfl, ?h6x12⟩) (by assumption) ?r6x12
              case h6x12 => (intro w hSw; (try dsimp only at hSw); go_simp; first | done | (with_reducible rfl))
              try simp only [Act.put]
              try simp only [List.setIfInBounds_toArray]
              try simp only [List.set_cons_succ]
              try simp only [List.set_cons_zero]
              refine wpAnyH_take_at (i := 7) (v := ?v7x13) (some 108) rfl rfl (by kernel_rfl) (by kernel_rfl) (by kernel_rfl) (fun _ _ _ h => h) (Or.inl ⟨by kernel_rfl, ?h7x13⟩) (by assumption) ?r7x13
              case h7x13 => (intro w hSw; (try dsimp only at hSw); go_simp; first | done | (with_reducible rfl))
              try simp only [Act.put]
              try simp only [List.setIfInBounds_toArray]
              try simp only [List.set_cons_succ]
              try simp only [List.set_cons_zero]
              refine wpAnyH_take_at (i := 8) (v := ?v8x14) (some 109) rfl rfl (by kernel_rfl) (by kernel_rfl) (by kernel_rfl) (fun _ _ _ h => h) (Or.inl ⟨by kernel_rfl, ?h8x14⟩) (by assumption) ?r8x14
              case h8x14 => (intro w hSw; (try dsimp only at hSw); go_simp; first | done | (with_reducible rfl))
              try simp only [Act.put]
              try simp only [List.setIfInBounds_toArray]
              try simp only [List.set_cons_succ]
              try simp only [List.set_cons_zero]
              refine wpAnyH_ready (rs := [10]) (by kernel_rfl) (by simp) ?_
              refine AllReadyH.cons rfl (fun K hK => ?_) AllReadyH.nil
              refine step_store_row none rfl rfl 40 (.tmp 16) (.tmp 108) rfl gZ (stepR co r2).arr rfl rfl 40 ZRun hZ infoRun rfl (Rn.one _) ?_
              refine hK.out _ _ ((setRow_other _ _ _ _ hq3).trans hS) (fun hS => ?_)
              clear hK K
              try simp only [Act.put]
              try simp only [List.setIfInBounds_toArray]
              try simp only [List.set_cons_succ]
              try simp only [List.set_cons_zero]
              refine wpAnyH_take_at (i := 11) (v := ?v11x15) (some 17) rfl rfl (by kernel_rfl) (by kernel_rfl) (by kernel_rfl) (fun _ _ _ h => h) (Or.inl ⟨by kernel_rfl, ?h11x15⟩) (by assumption) ?r11x15
              case h11x15 => (intro w hSw; (try dsimp only at hSw); go_simp; first | done | (with_reducible rfl))
              try simp only [Act.put]
              try simp only [List.setIfInBounds_toArray]
              try simp only [List.set_cons_succ]
              try simp only [List.set_cons_zero]
              refine wpAnyH_done (by kernel_rfl) ?_ _
              go_wp2_with fail
              go_meet
              have hks := (Keep.refl [gZ] yS).setRow (g := gZ) (.inl (by simp)) (stepR co r2).arr
              exact ⟨gZ, rfl, rfl, hz4, setRow_heap _ _ _ _ _ _ hZ, hA.kept hks (by simpa using hq1) (by simpa using fun e => hq2 e.symm), hK0.setRow (.inr hz4) _⟩
          case rest =>
            obtain ⟨g_o, rfl, rfl, hgo, hRo, hA, hK⟩ := hcut
            obtain ⟨x6, hwx⟩ : ∃ x, x = wc := ⟨_, rfl⟩
            subst hwx
            have Hgo : Hid (g_o ≠ b ∧ g_o ≠ d ∧ g_o ≠ g8 ∧ g_o ≠ g9 ∧ w.heap.size ≤ g_o ∧ g_o ≠ p) := Lib.hid (by have h1 := lt_of_heap HT.out.a.row; have h2 := lt_of_heap HT.out.x.arn.row; have h3 := lt_of_heap H_8.out; have h4 := lt_of_heap H_9.out; have h5 := B.out.size; have h6 := lt_of_heap HT.out.a.box; omega)
            have HI := Lib.hid (HT.out.putA hA hK)
            have HTl := Lib.hid (And.intro HT.out.low (And.intro HT.out.ne HT.out.nd))
            replace H_8 := Lib.hid (hK.row H_8.out (by simpa using HF8.out.2.2.1))
            replace H_9 := Lib.hid (hK.row H_9.out (by simpa using HF8.out.2.2.2.2.2.2.2.1))
            replace HAll := Lib.hid (HAll.out.kept hK (by rw [HFF.out]; simp))
            replace E_ch := Lib.hid (ents_kept E_ch.out hK (fun z h0 hz hm => F_ch.out z h0 hz (by rw [HFF.out]; simp at hm; simp [hm])))
            replace B := Lib.hid (Keep.under B.out hK (by have := B.out.size; omega) (by simp; exact HTl.out.1.2.1))
            have H_o : Hid (x6.heap[g_o]? = some (.cells (stepR co r2).arr 40 (0, 0))) := Lib.hid hRo
            obtain ⟨hst, hst2⟩ := way_stepR Hw.out Hco.out
            have Hst := Lib.hid hst
            have Hst2 := Lib.hid hst2
            clear hgo hRo hA hK HT hst hst2
            go_wp2_with (first | (refine wpList_load_sub rfl 40 (.tmp 113) rfl g9 (kn * 26) rfl 41 (runs4 l2) r2.arr (0, 0) _ H_9.out (fun j v h => runs_get Hk2.out h) undRun rfl infoRun ?_; (try simp only [Act.put]); (try simp only [List.setIfInBounds_toArray]); (try simp only [List.set_cons_succ]); (try simp only [List.set_cons_zero])))
            refine (wayRStep_any X qq d (8 * sx) ws co (sx : Int) ax ⟨cA, 1, kc⟩ r2 _ Hw.out HI.out.2 Hco.out Hko.out Hsx.out.1 Hsx.out.2.2.2).mono ?_
            rintro r x7 ⟨rfl, hX, hK⟩
            have HT : Hid (Two x7 w.heap.size p b X qq d (ws.set (8 * sx) (stepX co r2))) := Lib.hid ⟨HI.out.1.kept hK (by simpa using HTl.out.2.2) (by simpa using fun e => HTl.out.2.1.2.2 e.symm), hX, HTl.out.1, HTl.out.2.1, HTl.out.2.2⟩
            replace H_8 := Lib.hid (hK.row H_8.out (by simpa using HF8.out.2.2.2.2.2.1))
            replace H_9 := Lib.hid (hK.row H_9.out (by simpa using HF8.out.2.2.2.2.2.2.2.2.2.2.1))
            replace H_o := Lib.hid (hK.row H_o.out (by simpa using Hgo.out.2.1))
            replace HAll := Lib.hid (HAll.out.kept hK (by rw [HFF.out]; simp))
            replace E_ch := Lib.hid (ents_kept E_ch.out hK (fun z h0 hz hm => F_ch.out z h0 hz (by rw [HFF.out]; simp at hm; simp [hm])))
            replace B := Lib.hid (Keep.under B.out hK (by have := B.out.size; omega) (by simp; exact HTl.out.1.2.2.2.2))
            have HOk2 : Hid (Okw (ws.set (8 * sx) (stepX co r2))) := Lib.hid (by obtain ⟨dd, hd1, hd2⟩ := way_stepX Hw.out Hco.out; rw [hd2]; exact HOk.out.set sx Hsx.out.2.2.1 hd1)
            clear hX hK HI HOk
            go_upto_region 22 with (first | (refine wpList_store_sub rfl 40 (.tmp 116) (.tmp 115) rfl g9 (kn * 26) (stepR co r2).arr rfl rfl 41 _ H_9.out infoRun (by rw [runs_size]; have := HAll.out.1; have : (stepR co r2).arr.size = 26 := rfl; omega) (Rn.one _) ?_; (try simp only [Act.put]); (try simp only [List.setIfInBounds_toArray]); (try simp only [List.set_cons_succ]); (try simp only [List.set_cons_zero])))
            rw [runs_set Hln.out (stepR co r2)]
            refine set_row' x7 g9 _ _ _ H_9.out ?_
            intro x8 hr hK
            replace H_o := Lib.hid (hK.row H_o.out (by simpa using Hgo.out.2.2.2.1))
            replace HT := Lib.hid (show Two x8 w.heap.size p b X qq d _ from ⟨HT.out.a.kept hK (by simpa using fun e => HF8.out.2.2.2.2.2.2.1 e.symm) (by simpa using fun e => HF8.out.2.2.2.2.2.2.2.1 e.symm), HT.out.x.kept hK (by simpa using fun e => HF8.out.2.2.2.2.2.2.2.2.1 e.symm) (by simpa using fun e => HF8.out.2.2.2.2.2.2.2.2.2.1 e.symm) (by simpa using fun e => HF8.out.2.2.2.2.2.2.2.2.2.2.1 e.symm), HT.out.low, HT.out.ne, HT.out.nd⟩)
            replace H_8 := Lib.hid (hK.row H_8.out (by simpa using HF8.out.1))
            replace HAll := Lib.hid (HAll.out.kept hK (by rw [HFF.out]; simp))
            replace E_ch := Lib.hid (ents_kept E_ch.out hK (fun z h0 hz hm => F_ch.out z h0 hz (by rw [HFF.out]; simp at hm; simp [hm])))
            replace B := Lib.hid (Keep.under B.out hK (by have := B.out.size; omega) (by simp; have := HF8.out; omega))
            replace H_9 := Lib.hid hr
            clear hr hK
            have Hk3 : Hid ((l2.set kn (stepR co r2))[kn]? = some (stepR co r2)) := Lib.hid (by rw [List.getElem?_set, if_pos rfl, if_pos Hln.out])
            try simp only [Act.put]
            go_cut [18] from 117 to 121 (fun vd wx => vd = .bool true ∧ Below x8.heap.size x8 wx)
            case first =>
              refine wp_region_held_drew (S := fun W' => W'.heap[g_o]? = some (.cells (stepR co r2).arr 40 (0, 0)) ∧ W'.heap[g9]? = some (.cells (runs4 (l2.set kn (stepR co r2))) 41 (0, 0))) (by kernel_rfl) (show x8.drew.heap[g_o]? = _ ∧ x8.drew.heap[g9]? = _ from ⟨H_o.out, H_9.out⟩) ?_
              intro hS
              have hb0 : Below x8.heap.size x8 x8.drew := Below.drew (Below.refl _ _)
              generalize x8.drew = y0 at hS hb0 ⊢
              refine wpAnyH_take_at (i := 0) (v := .agg (stepR co r2).arr) (some 117) rfl rfl (by kernel_rfl) (by kernel_rfl) (by kernel_rfl) (fun _ _ _ h => h) (yieldsIf_load_row (by kernel_rfl) 40 (.tmp 16) rfl g_o rfl (stepR co r2).arr (fun W' hW' => hW'.1) undRun rfl infoRun) (by assumption) ?_
              try simp only [Act.put]
              try simp only [List.setIfInBounds_toArray]
              try simp only [List.set_cons_succ]
              try simp only [List.set_cons_zero]
              refine wpAnyH_take_at (i := 1) (v := ?v1x16) (some 118) rfl rfl (by kernel_rfl) (by kernel_rfl) (by kernel_rfl) (fun _ _ _ h => h) (Or.inl ⟨by kernel_rfl, ?h1x16⟩) (by assumption) ?r1x16
              case h1x16 => (intro w hSw; (try dsimp only at hSw); go_simp; first | done | (with_reducible rfl))
              try simp only [Act.put]
              try simp only [List.setIfInBounds_toArray]
              try simp only [List.set_cons_succ]
              try simp only [List.set_cons_zero]
              refine wpAnyH_take_at (i := 2) (v := ?v2x17) (some 119) rfl rfl (by kernel_rfl) (by kernel_rfl) (by kernel_rfl) (fun _ _ _ h => h) (Or.inl ⟨by kernel_rfl, ?h2x17⟩) (by assumption) ?r2x17
              case h2x17 => (intro w hSw; (try dsimp only at hSw); go_simp; first | done | (with_reducible rfl))
              try simp only [Act.put]
              try simp only [List.setIfInBounds_toArray]
              try simp only [List.set_cons_succ]
              try simp only [List.set_cons_zero]
              refine wpAnyH_take_at (i := 3) (v := .agg (stepR co r2).arr) (some 120) rfl rfl (by kernel_rfl) (by kernel_rfl) (by kernel_rfl) (fun _ _ _ h => h) (yieldsIf_load_sub (by kernel_rfl) 40 (.tmp 119) rfl g9 (kn * 26) rfl (runs4 (l2.set kn (stepR co r2))) (stepR co r2).arr (fun W' hW' => hW'.2) (fun j v h => runs_get Hk3.out h) undRun rfl infoRun) (by assumption) ?_
              try simp only [Act.put]
              try simp only [List.setIfInBounds_toArray]
              try simp only [List.set_cons_succ]
              try simp only [List.set_cons_zero]
              refine wpAnyH_ready (rs := [4]) (by kernel_rfl) (by simp) ?_
              refine AllReadyH.cons rfl (fun K hK => ?_) AllReadyH.nil
              go_simp
              refine (same_self (stepR co r2) cA kc [(ax, true)] _ Hst.out.chain (by simp) (Ents.below E_ch.out hb0) Hst.out.list Hst.out.said Hst.out.asaid).mono ?_
              rintro e' yS ⟨rfl, hb⟩
              go_simp
              replace hb0 := below_only hb0 hb
              refine hK.out _ _ (⟨row_below hS.1 hb, row_below hS.2 hb⟩) (fun hS => ?_)
              clear hK K
              try simp only [Act.put]
              try simp only [List.setIfInBounds_toArray]
              try simp only [List.set_cons_succ]
              try simp only [List.set_cons_zero]
              refine wpAnyH_take_at (i := 5) (v := ?v5x18) (some 18) rfl rfl (by kernel_rfl) (by kernel_rfl) (by kernel_rfl) (fun _ _ _ h => h) (Or.inl ⟨by kernel_rfl, ?h5x18⟩) (by assumption) ?r5x18
              case h5x18 => (intro w hSw; (try dsimp only at hSw); go_simp; first | done | (with_reducible rfl))
              try simp only [Act.put]
              try simp only [List.setIfInBounds_toArray]
              try simp only [List.set_cons_succ]
              try simp only [List.set_cons_zero]
              refine wpAnyH_done (by kernel_rfl) ?_ _
              go_wp2_with fail
              go_meet
              exact ⟨rfl, hb0⟩
            case rest =>
              obtain ⟨rfl, hb⟩ := hcut
              obtain ⟨x9, hwx⟩ : ∃ x, x = wc := ⟨_, rfl⟩
              subst hwx
              replace HT := Lib.hid (HT.out.below hb)
              replace HAll := Lib.hid (HAll.out.below hb)
              replace E_ch := Lib.hid (Ents.below E_ch.out hb)
              have hsz := (hb).size
              replace H_8 := Lib.hid (row_below H_8.out hb)
              replace H_9 := Lib.hid (row_below H_9.out hb)
              replace H_o := Lib.hid (row_below H_o.out hb)
              replace B := Lib.hid (below_only B.out hb)
              clear hb hsz
              go_upto_region 26 with (first | refine wpList_load_row rfl 40 (.tmp 16) rfl g_o rfl 40 (stepR co r2).arr (0, 0) _ H_o.out undRun rfl infoRun ?_ | (refine wpList_store_sub rfl 40 (.tmp 130) (.tmp 129) rfl g8 (kn * 26) (stepR co r2).arr rfl rfl 41 _ H_8.out infoRun (by rw [runs_size]; have := HAll.out.1; have : (stepR co r2).arr.size = 26 := rfl; omega) (Rn.one _) ?_; (try simp only [Act.put]); (try simp only [List.setIfInBounds_toArray]); (try simp only [List.set_cons_succ]); (try simp only [List.set_cons_zero])))
              rw [runs_set Hln.out (stepR co r2)]
              refine set_row' x9 g8 _ _ _ H_8.out ?_
              intro x10 hr hK
              replace H_o := Lib.hid (hK.row H_o.out (by simpa using Hgo.out.2.2.1))
              replace HT := Lib.hid (show Two x10 w.heap.size p b X qq d _ from ⟨HT.out.a.kept hK (by simpa using fun e => HF8.out.2.1 e.symm) (by simpa using fun e => HF8.out.2.2.1 e.symm), HT.out.x.kept hK (by simpa using fun e => HF8.out.2.2.2.1 e.symm) (by simpa using fun e => HF8.out.2.2.2.2.1 e.symm) (by simpa using fun e => HF8.out.2.2.2.2.2.1 e.symm), HT.out.low, HT.out.ne, HT.out.nd⟩)
              replace H_9 := Lib.hid (hK.row H_9.out (by simpa using fun e => HF8.out.1 e.symm))
              replace HAll := Lib.hid (HAll.out.kept hK (by rw [HFF.out]; simp))
              replace E_ch := Lib.hid (ents_kept E_ch.out hK (fun z h0 hz hm => F_ch.out z h0 hz (by rw [HFF.out]; simp at hm; simp [hm])))
              replace B := Lib.hid (Keep.under B.out hK (by have := B.out.size; omega) (by simp; have := HF8.out; omega))
              replace H_8 := Lib.hid hr
              clear hr hK
              have HAll3 : Hid (AllOk x10 FF (l2.set kn (stepR co r2))) := Lib.hid (HAll.out.set kn (runOk_way Hsx.out.1 Hsx.out.2.1 E_ch.out F_ch.out Hst2.out))
              obtain ⟨dn3, Hdn3⟩ : ∃ x, Hid ((stepR co r2).done = x) := ⟨_, Lib.hid rfl⟩
              have o21 : x10.cell? ⟨g_o, 21, none⟩ = some (.bool dn3) := by rw [row_cell H_o.out, ← Hdn3.out]; rfl
              have z_o := lt_of_heap H_o.out
              go_upto_if 132 with fail
              clear o21 z_o
              try simp only [Act.put]
              go_cut [19, 20] from 132 to 141 (fun vd ve wx => Below x10.heap.size x10 wx)
              case first =>
                cases dn3 with
                | false =>
                  go_wp2_with fail
                  go_meet
                  exact Below.refl _ _
                | true =>
                  obtain ⟨cd, hcd, hkd⟩ := HOk2.out.c sx Hsx.out.2.2.1
                  have Hcd := Lib.hid hcd
                  have Hkd := Lib.hid hkd
                  clear hcd hkd
                  have HA := Lib.hid HT.out.a
                  have N_o : Hid (g_o ≠ b) := Lib.hid Hgo.out.1
                  have Hb : Hid (w.heap.size ≤ b) := Lib.hid HTl.out.1.2.1
                  go_upto_region 27 with fail
                  go_cut [19, 20] from 133 to 139 (fun vd ve wx => ve = .int .i64 1 ∧ Below x10.heap.size x10 wx)
                  case first =>
                    refine wp_region_held_drew (S := fun W' => W'.heap[g_o]? = some (.cells (stepR co r2).arr 40 (0, 0))) (by kernel_rfl) (show x10.drew.heap[g_o]? = _ from H_o.out) ?_
                    intro hS
                    have hA : Arn x10.drew p b (ws.set (8 * sx) (stepX co r2)) := HA.out.drew
                    have hb0 : Below x10.heap.size x10 x10.drew := Below.drew (Below.refl _ _)
                    generalize x10.drew = y0 at hS hA hb0 ⊢
                    refine wpAnyH_take_at (i := 1) (v := ?v1x19) (some 135) rfl rfl (by kernel_rfl) (by kernel_rfl) (by kernel_rfl) (fun _ _ _ h => h) (Or.inl ⟨by kernel_rfl, ?h1x19⟩) (by assumption) ?r1x19
                    case h1x19 => (intro w hSw; (try dsimp only at hSw); go_simp; first | done | (with_reducible rfl))
                    try simp only [Act.put]
                    try simp only [List.setIfInBounds_toArray]
                    try simp only [List.set_cons_succ]
                    try simp only [List.set_cons_zero]
                    refine wpAnyH_take_at (i := 2) (v := .agg (stepR co r2).arr) (some 136) rfl rfl (by kernel_rfl) (by kernel_rfl) (by kernel_rfl) (fun _ _ _ h => h) (yieldsIf_load_row (by kernel_rfl) 40 (.tmp 16) rfl g_o rfl (stepR co r2).arr (fun W' hW' => hW') undRun rfl infoRun) (by assumption) ?_
                    try simp only [Act.put]
                    try simp only [List.setIfInBounds_toArray]
                    try simp only [List.set_cons_succ]
                    try simp only [List.set_cons_zero]
                    refine wpAnyH_ready (rs := [0, 7]) (by kernel_rfl) (by simp) ?_
                    refine AllReadyH.cons rfl (fun K hK => ?_) (AllReadyH.cons rfl (fun K hK => ?_) AllReadyH.nil)
                    · skip
                      go_simp
                      refine (plan_any _).mono ?_
                      rintro e' yP ⟨rfl, hb⟩
                      go_simp
                      replace hA := hA.below hb
                      replace hb0 := below_only hb0 hb
                      refine hK.out _ _ (row_below hS hb) (fun hS => ?_)
                      clear hK K
                      try simp only [Act.put]
                      try simp only [List.setIfInBounds_toArray]
                      try simp only [List.set_cons_succ]
                      try simp only [List.set_cons_zero]
                      refine wpAnyH_ready (rs := [3, 7]) (by kernel_rfl) (by simp) ?_
                      refine AllReadyH.cons rfl (fun K hK => ?_) (AllReadyH.cons rfl (fun K hK => ?_) AllReadyH.nil)
                      · skip
                        go_simp
                        refine (stepDoneZ_any p b (8 * sx) 4 4 0 64 (ws.set (8 * sx) (stepX co r2)) cd (stepR co r2) _ PL hA Hcd.out Hkd.out (by rw [Hst.out.ca]; exact Hsx.out.2.2.2) (by rw [Hst.out.ca]; have := Hsx.out; omega) Hst.out.said Hdn3.out Hst.out.pc Hst.out.next).mono ?_
                        rintro e' yS ⟨rfl, hb⟩
                        go_simp
                        replace hA := hA.below hb
                        replace hb0 := below_only hb0 hb
                        refine hK.out _ _ (row_below hS hb) (fun hS => ?_)
                        clear hK K
                        try simp only [Act.put]
                        try simp only [List.setIfInBounds_toArray]
                        try simp only [List.set_cons_succ]
                        try simp only [List.set_cons_zero]
                        refine wpAnyH_take_at (i := 4) (v := ?v4x20) (some 133) rfl rfl (by kernel_rfl) (by kernel_rfl) (by kernel_rfl) (fun _ _ _ h => h) (Or.inl ⟨by kernel_rfl, ?h4x20⟩) (by assumption) ?r4x20
                        case h4x20 => (intro w hSw; (try dsimp only at hSw); go_simp; first | done | (with_reducible rfl))
                        try simp only [Act.put]
                        try simp only [List.setIfInBounds_toArray]
                        try simp only [List.set_cons_succ]
                        try simp only [List.set_cons_zero]
                        refine wpAnyH_take_at (i := 5) (v := ?v5x21) (some 138) rfl rfl (by kernel_rfl) (by kernel_rfl) (by kernel_rfl) (fun _ _ _ h => h) (Or.inl ⟨by kernel_rfl, ?h5x21⟩) (by assumption) ?r5x21
                        case h5x21 => (intro w hSw; (try dsimp only at hSw); go_simp; first | done | (with_reducible rfl))
                        try simp only [Act.put]
                        try simp only [List.setIfInBounds_toArray]
                        try simp only [List.set_cons_succ]
                        try simp only [List.set_cons_zero]
                        refine wpAnyH_take_at (i := 6) (v := ?v6x22) (some 139) rfl rfl (by kernel_rfl) (by kernel_rfl) (by kernel_rfl) (fun _ _ _ h => h) (Or.inl ⟨by kernel_rfl, ?h6x22⟩) (by assumption) ?r6x22
                        case h6x22 => (intro w hSw; (try dsimp only at hSw); go_simp; first | done | (with_reducible rfl))
                        try simp only [Act.put]
                        try simp only [List.setIfInBounds_toArray]
                        try simp only [List.set_cons_succ]
                        try simp only [List.set_cons_zero]
                        refine wpAnyH_ready (rs := [7]) (by kernel_rfl) (by simp) ?_
                        refine AllReadyH.cons rfl (fun K hK => ?_) AllReadyH.nil
                        refine step_alloc_run (some 19) rfl rfl rfl ?_
                        refine k_alloc (fun yZ hZ hb => ?_)
                        have hz4 : x10.heap.size ≤ yS.heap.size := hb0.size
                        have hz3 := lt_of_heap hS
                        obtain ⟨gZ, HgZ⟩ : ∃ x, x = yS.heap.size := ⟨_, rfl⟩
                        rw [← HgZ] at hZ hz4 hz3 ⊢
                        clear HgZ
                        replace hA := hA.below hb
                        replace hb0 := below_only hb0 hb
                        refine hK.out _ _ (row_below hS hb) (fun hS => ?_)
                        clear hK K
                        try simp only [Act.put]
                        try simp only [List.setIfInBounds_toArray]
                        try simp only [List.set_cons_succ]
                        try simp only [List.set_cons_zero]
                        refine wpAnyH_ready (rs := [8]) (by kernel_rfl) (by simp) ?_
                        refine AllReadyH.cons rfl (fun K hK => ?_) AllReadyH.nil
                        refine step_store_row none rfl rfl 40 (.tmp 19) (.tmp 138) rfl gZ ZRun rfl rfl 40 ZRun hZ infoRun rfl (by kernel_rfl) ?_
                        refine hK.out _ _ ((setRow_other _ _ _ _ (by omega)).trans hS) (fun hS => ?_)
                        clear hK K
                        try simp only [Act.put]
                        try simp only [List.setIfInBounds_toArray]
                        try simp only [List.set_cons_succ]
                        try simp only [List.set_cons_zero]
                        refine wpAnyH_take_at (i := 9) (v := ?v9x23) (some 20) rfl rfl (by kernel_rfl) (by kernel_rfl) (by kernel_rfl) (fun _ _ _ h => h) (Or.inl ⟨by kernel_rfl, ?h9x23⟩) (by assumption) ?r9x23
                        case h9x23 => (intro w hSw; (try dsimp only at hSw); go_simp; first | done | (with_reducible rfl))
                        try simp only [Act.put]
                        try simp only [List.setIfInBounds_toArray]
                        try simp only [List.set_cons_succ]
                        try simp only [List.set_cons_zero]
                        refine wpAnyH_done (by kernel_rfl) ?_ _
                        go_wp2_with fail
                        go_meet
                        exact ⟨rfl, below_setRow hb0 hz4 _⟩
                      · skip
                        refine step_alloc_run (some 19) rfl rfl rfl ?_
                        refine k_alloc (fun yZ hZ hb => ?_)
                        have hz4 : x10.heap.size ≤ yP.heap.size := hb0.size
                        have hz3 := lt_of_heap hS
                        obtain ⟨gZ, HgZ⟩ : ∃ x, x = yP.heap.size := ⟨_, rfl⟩
                        rw [← HgZ] at hZ hz4 hz3 ⊢
                        clear HgZ
                        replace hA := hA.below hb
                        replace hb0 := below_only hb0 hb
                        refine hK.out _ _ (row_below hS hb) (fun hS => ?_)
                        clear hK K
                        try simp only [Act.put]
                        try simp only [List.setIfInBounds_toArray]
                        try simp only [List.set_cons_succ]
                        try simp only [List.set_cons_zero]
                        refine wpAnyH_ready (rs := [3]) (by kernel_rfl) (by simp) ?_
                        refine AllReadyH.cons rfl (fun K hK => ?_) AllReadyH.nil
                        go_simp
                        refine (stepDoneZ_any p b (8 * sx) 4 4 0 64 (ws.set (8 * sx) (stepX co r2)) cd (stepR co r2) _ PL hA Hcd.out Hkd.out (by rw [Hst.out.ca]; exact Hsx.out.2.2.2) (by rw [Hst.out.ca]; have := Hsx.out; omega) Hst.out.said Hdn3.out Hst.out.pc Hst.out.next).mono ?_
                        rintro e' yS ⟨rfl, hb⟩
                        go_simp
                        replace hA := hA.below hb
                        replace hb0 := below_only hb0 hb
                        replace hZ := row_below hZ hb
                        refine hK.out _ _ (row_below hS hb) (fun hS => ?_)
                        clear hK K
                        try simp only [Act.put]
                        try simp only [List.setIfInBounds_toArray]
                        try simp only [List.set_cons_succ]
                        try simp only [List.set_cons_zero]
                        refine wpAnyH_take_at (i := 4) (v := ?v4x24) (some 133) rfl rfl (by kernel_rfl) (by kernel_rfl) (by kernel_rfl) (fun _ _ _ h => h) (Or.inl ⟨by kernel_rfl, ?h4x24⟩) (by assumption) ?r4x24
                        case h4x24 => (intro w hSw; (try dsimp only at hSw); go_simp; first | done | (with_reducible rfl))
                        try simp only [Act.put]
                        try simp only [List.setIfInBounds_toArray]
                        try simp only [List.set_cons_succ]
                        try simp only [List.set_cons_zero]
                        refine wpAnyH_take_at (i := 5) (v := ?v5x25) (some 138) rfl rfl (by kernel_rfl) (by kernel_rfl) (by kernel_rfl) (fun _ _ _ h => h) (Or.inl ⟨by kernel_rfl, ?h5x25⟩) (by assumption) ?r5x25
                        case h5x25 => (intro w hSw; (try dsimp only at hSw); go_simp; first | done | (with_reducible rfl))
                        try simp only [Act.put]
                        try simp only [List.setIfInBounds_toArray]
                        try simp only [List.set_cons_succ]
                        try simp only [List.set_cons_zero]
                        refine wpAnyH_take_at (i := 6) (v := ?v6x26) (some 139) rfl rfl (by kernel_rfl) (by kernel_rfl) (by kernel_rfl) (fun _ _ _ h => h) (Or.inl ⟨by kernel_rfl, ?h6x26⟩) (by assumption) ?r6x26
                        case h6x26 => (intro w hSw; (try dsimp only at hSw); go_simp; first | done | (with_reducible rfl))
                        try simp only [Act.put]
                        try simp only [List.setIfInBounds_toArray]
                        try simp only [List.set_cons_succ]
                        try simp only [List.set_cons_zero]
                        refine wpAnyH_ready (rs := [8]) (by kernel_rfl) (by simp) ?_
                        refine AllReadyH.cons rfl (fun K hK => ?_) AllReadyH.nil
                        refine step_store_row none rfl rfl 40 (.tmp 19) (.tmp 138) rfl gZ ZRun rfl rfl 40 ZRun hZ infoRun rfl (by kernel_rfl) ?_
                        refine hK.out _ _ ((setRow_other _ _ _ _ (by omega)).trans hS) (fun hS => ?_)
                        clear hK K
                        try simp only [Act.put]
                        try simp only [List.setIfInBounds_toArray]
                        try simp only [List.set_cons_succ]
                        try simp only [List.set_cons_zero]
                        refine wpAnyH_take_at (i := 9) (v := ?v9x27) (some 20) rfl rfl (by kernel_rfl) (by kernel_rfl) (by kernel_rfl) (fun _ _ _ h => h) (Or.inl ⟨by kernel_rfl, ?h9x27⟩) (by assumption) ?r9x27
                        case h9x27 => (intro w hSw; (try dsimp only at hSw); go_simp; first | done | (with_reducible rfl))
                        try simp only [Act.put]
                        try simp only [List.setIfInBounds_toArray]
                        try simp only [List.set_cons_succ]
                        try simp only [List.set_cons_zero]
                        refine wpAnyH_done (by kernel_rfl) ?_ _
                        go_wp2_with fail
                        go_meet
                        exact ⟨rfl, below_setRow hb0 hz4 _⟩
                    · skip
                      refine step_alloc_run (some 19) rfl rfl rfl ?_
                      refine k_alloc (fun yZ hZ hb => ?_)
                      have hz4 : x10.heap.size ≤ y0.heap.size := hb0.size
                      have hz3 := lt_of_heap hS
                      obtain ⟨gZ, HgZ⟩ : ∃ x, x = y0.heap.size := ⟨_, rfl⟩
                      rw [← HgZ] at hZ hz4 hz3 ⊢
                      clear HgZ
                      replace hA := hA.below hb
                      replace hb0 := below_only hb0 hb
                      refine hK.out _ _ (row_below hS hb) (fun hS => ?_)
                      clear hK K
                      try simp only [Act.put]
                      try simp only [List.setIfInBounds_toArray]
                      try simp only [List.set_cons_succ]
                      try simp only [List.set_cons_zero]
                      refine wpAnyH_ready (rs := [0]) (by kernel_rfl) (by simp) ?_
                      refine AllReadyH.cons rfl (fun K hK => ?_) AllReadyH.nil
                      go_simp
                      refine (plan_any _).mono ?_
                      rintro e' yP ⟨rfl, hb⟩
                      go_simp
                      replace hA := hA.below hb
                      replace hb0 := below_only hb0 hb
                      replace hZ := row_below hZ hb
                      refine hK.out _ _ (row_below hS hb) (fun hS => ?_)
                      clear hK K
                      try simp only [Act.put]
                      try simp only [List.setIfInBounds_toArray]
                      try simp only [List.set_cons_succ]
                      try simp only [List.set_cons_zero]
                      refine wpAnyH_ready (rs := [3]) (by kernel_rfl) (by simp) ?_
                      refine AllReadyH.cons rfl (fun K hK => ?_) AllReadyH.nil
                      go_simp
                      refine (stepDoneZ_any p b (8 * sx) 4 4 0 64 (ws.set (8 * sx) (stepX co r2)) cd (stepR co r2) _ PL hA Hcd.out Hkd.out (by rw [Hst.out.ca]; exact Hsx.out.2.2.2) (by rw [Hst.out.ca]; have := Hsx.out; omega) Hst.out.said Hdn3.out Hst.out.pc Hst.out.next).mono ?_
                      rintro e' yS ⟨rfl, hb⟩
                      go_simp
                      replace hA := hA.below hb
                      replace hb0 := below_only hb0 hb
                      replace hZ := row_below hZ hb
                      refine hK.out _ _ (row_below hS hb) (fun hS => ?_)
                      clear hK K
                      try simp only [Act.put]
                      try simp only [List.setIfInBounds_toArray]
                      try simp only [List.set_cons_succ]
                      try simp only [List.set_cons_zero]
                      refine wpAnyH_take_at (i := 4) (v := ?v4x28) (some 133) rfl rfl (by kernel_rfl) (by kernel_rfl) (by kernel_rfl) (fun _ _ _ h => h) (Or.inl ⟨by kernel_rfl, ?h4x28⟩) (by assumption) ?r4x28
                      case h4x28 => (intro w hSw; (try dsimp only at hSw); go_simp; first | done | (with_reducible rfl))
                      try simp only [Act.put]
                      try simp only [List.setIfInBounds_toArray]
                      try simp only [List.set_cons_succ]
                      try simp only [List.set_cons_zero]
                      refine wpAnyH_take_at (i := 5) (v := ?v5x29) (some 138) rfl rfl (by kernel_rfl) (by kernel_rfl) (by kernel_rfl) (fun _ _ _ h => h) (Or.inl ⟨by kernel_rfl, ?h5x29⟩) (by assumption) ?r5x29
                      case h5x29 => (intro w hSw; (try dsimp only at hSw); go_simp; first | done | (with_reducible rfl))
                      try simp only [Act.put]
                      try simp only [List.setIfInBounds_toArray]
                      try simp only [List.set_cons_succ]
                      try simp only [List.set_cons_zero]
                      refine wpAnyH_take_at (i := 6) (v := ?v6x30) (some 139) rfl rfl (by kernel_rfl) (by kernel_rfl) (by kernel_rfl) (fun _ _ _ h => h) (Or.inl ⟨by kernel_rfl, ?h6x30⟩) (by assumption) ?r6x30
                      case h6x30 => (intro w hSw; (try dsimp only at hSw); go_simp; first | done | (with_reducible rfl))
                      try simp only [Act.put]
                      try simp only [List.setIfInBounds_toArray]
                      try simp only [List.set_cons_succ]
                      try simp only [List.set_cons_zero]
                      refine wpAnyH_ready (rs := [8]) (by kernel_rfl) (by simp) ?_
                      refine AllReadyH.cons rfl (fun K hK => ?_) AllReadyH.nil
                      refine step_store_row none rfl rfl 40 (.tmp 19) (.tmp 138) rfl gZ ZRun rfl rfl 40 ZRun hZ infoRun rfl (by kernel_rfl) ?_
                      refine hK.out _ _ ((setRow_other _ _ _ _ (by omega)).trans hS) (fun hS => ?_)
                      clear hK K
                      try simp only [Act.put]
                      try simp only [List.setIfInBounds_toArray]
                      try simp only [List.set_cons_succ]
                      try simp only [List.set_cons_zero]
                      refine wpAnyH_take_at (i := 9) (v := ?v9x31) (some 20) rfl rfl (by kernel_rfl) (by kernel_rfl) (by kernel_rfl) (fun _ _ _ h => h) (Or.inl ⟨by kernel_rfl, ?h9x31⟩) (by assumption) ?r9x31
                      case h9x31 => (intro w hSw; (try dsimp only at hSw); go_simp; first | done | (with_reducible rfl))
                      try simp only [Act.put]
                      try simp only [List.setIfInBounds_toArray]
                      try simp only [List.set_cons_succ]
                      try simp only [List.set_cons_zero]
                      refine wpAnyH_done (by kernel_rfl) ?_ _
                      go_wp2_with fail
                      go_meet
                      exact ⟨rfl, below_setRow hb0 hz4 _⟩
                  case rest =>
                    obtain ⟨rfl, hb⟩ := hcut
                    obtain ⟨x11, hwx⟩ : ∃ x, x = wc := ⟨_, rfl⟩
                    subst hwx
                    go_wp2_with fail
                    go_meet
                    exact hb
              case rest =>
                have hb := hcut
                obtain ⟨x11, hwx⟩ : ∃ x, x = wc := ⟨_, rfl⟩
                subst hwx
                clear hcut Hdn3 HAll Hst Hst2 Hw E_ch F_ch Hk3 Hk2 H_o
                replace HT := Lib.hid (HT.out.below hb)
                replace HAll3 := Lib.hid (HAll3.out.below hb)
                replace H_8 := Lib.hid (row_below H_8.out hb)
                replace H_9 := Lib.hid (row_below H_9.out hb)
                replace B := Lib.hid (below_only B.out hb)
                clear hb
                obtain ⟨W3, HW3⟩ : ∃ x, Hid ((ws.set (8 * sx) (stepX co r2)) = x) := ⟨_, Lib.hid rfl⟩
                rw [HW3.out] at HT HOk2
                obtain ⟨l3, Hl3⟩ : ∃ x, Hid ((l2.set kn (stepR co r2)) = x) := ⟨_, Lib.hid rfl⟩
                rw [Hl3.out] at HAll3 H_8 H_9
                clear Hl3 HW3
                go_wp2_with fail
                go_loopw [21] (fun t wz => ∃ n : Nat, n ≤ 4 ∧ t = .int .i64 n ∧ Below x11.heap.size x11 wz) (fun t _ => (4 - intOf t).toNat)
                case atStart => exact ⟨0, by omega, rfl, Below.refl _ _⟩
                case round =>
                  obtain ⟨n, hn, rfl, hbz⟩ := hrel
                  have HBz := Lib.hid hbz
                  clear hbz
                  by_cases hn4 : n < 4
                  · obtain ⟨⟨c1, c2, c3, c4⟩, hcn, hkn⟩ := HOk2.out.c n hn4
                    have Hcn := Lib.hid hcn
                    have Hkn := Lib.hid hkn
                    clear hcn hkn
                    go_wp2_with fail
                    refine (plan_any _).mono ?_
                    rintro r z1 ⟨rfl, hb⟩
                    have HB1 := Lib.hid (below_only HBz.out hb)
                    clear hb
                    go_wp2_with fail
                    refine (foundCtl_any p b 4 4 0 64 _ (8 * n) (n : Int) ⟨c1, c2, c3, c4⟩ _ PL (HT.out.a.below HB1.out) Hcn.out Hkn.out (by omega) (by omega)).mono ?_
                    rintro r z2 ⟨rfl, hb⟩
                    have HB2 := Lib.hid (below_only HB1.out hb)
                    clear hb
                    go_upto_region 34 with fail
                    refine one_row z2 _ _ ?_
                    intro z3 hr hb
                    have HB3 := Lib.hid (below_only HB2.out hb)
                    obtain ⟨y0', y1', y2', y3', _⟩ := box4 hr
                    have zr := lt_of_heap hr
                    obtain ⟨gv, hgv⟩ : ∃ x, x = z2.heap.size := ⟨_, rfl⟩
                    rw [← hgv] at hr y0' y1' y2' y3' zr ⊢
                    have Hrv := Lib.hid hr
                    clear hb hr hgv
                    try simp only [Act.put]
                    go_cut [157] from 153 to 157 (fun v wx => v = .bool false ∧ Below z3.heap.size z3 wx)
                    case first =>
                      refine wp_region_held_drew (S := fun W' => W'.cell? ⟨gv, 0, none⟩ = some (.int .i64 c1) ∧ W'.cell? ⟨gv, 1, none⟩ = some (.int .i64 c2) ∧ W'.cell? ⟨gv, 2, none⟩ = some (.int .i64 c3) ∧ W'.cell? ⟨gv, 3, none⟩ = some (.int .i64 c4)) (by kernel_rfl) (by first | exact ⟨y0', y1', y2', y3'⟩ | (dsimp only; exact ⟨y0', y1', y2', y3'⟩)) ?_
                      intro hS
                      have hb0 : Below z3.heap.size z3 z3.drew := Below.drew (Below.refl _ _)
                      clear y0' y1' y2' y3'
                      generalize z3.drew = v0 at hS hb0 ⊢
                      refine wpAnyH_take_at (i := 0) (v := ?v0x32) (some 153) rfl rfl (by kernel_rfl) (by kernel_rfl) (by kernel_rfl) (fun _ _ _ h => h) (Or.inl ⟨by kernel_rfl, ?h0x32⟩) (by assumption) ?r0x32
                      case h0x32 => (intro w hSw; obtain ⟨s0, s1, s14, s15⟩ := hSw; go_simp; first | done | (with_reducible rfl))
                      try simp only [Act.put]
                      try simp only [List.setIfInBounds_toArray]
                      try simp only [List.set_cons_succ]
                      try simp only [List.set_cons_zero]
                      refine wpAnyH_take_at (i := 1) (v := ?v1x33) (some 154) rfl rfl (by kernel_rfl) (by kernel_rfl) (by kernel_rfl) (fun _ _ _ h => h) (Or.inl ⟨by kernel_rfl, ?h1x33⟩) (by assumption) ?r1x33
                      case h1x33 => (intro w hSw; obtain ⟨s0, s1, s14, s15⟩ := hSw; go_simp; first | done | (with_reducible rfl))
                      try simp only [Act.put]
                      try simp only [List.setIfInBounds_toArray]
                      try simp only [List.set_cons_succ]
                      try simp only [List.set_cons_zero]
                      refine wpAnyH_take_at (i := 2) (v := ?v2x34) (some 155) rfl rfl (by kernel_rfl) (by kernel_rfl) (by kernel_rfl) (fun _ _ _ h => h) (Or.inl ⟨by kernel_rfl, ?h2x34⟩) (by assumption) ?r2x34
                      case h2x34 => (intro w hSw; obtain ⟨s0, s1, s14, s15⟩ := hSw; go_simp; first | done | (with_reducible rfl))
                      try simp only [Act.put]
                      try simp only [List.setIfInBounds_toArray]
                      try simp only [List.set_cons_succ]
                      try simp only [List.set_cons_zero]
                      refine wpAnyH_ready (rs := [3]) (by kernel_rfl) (by simp) ?_
                      refine AllReadyH.cons rfl (fun K hK => ?_) AllReadyH.nil
                      go_simp
                      refine (rallCtl_any X qq d 4 4 0 64 W3 (8 * n) (n : Int) ⟨c1, c2, c3, c4⟩ _ (HT.out.x.below (below_only HB3.out hb0)) Hcn.out Hkn.out (by omega) (by omega)).mono ?_
                      rintro e' v1 ⟨rfl, hb⟩
                      go_simp
                      obtain ⟨a0, a1, a2, a3⟩ := hS
                      replace a0 := (hb.cell (p := ⟨gv, 0, none⟩) (lt_of_cell a0)).trans a0
                      replace a1 := (hb.cell (p := ⟨gv, 1, none⟩) (lt_of_cell a1)).trans a1
                      replace a2 := (hb.cell (p := ⟨gv, 2, none⟩) (lt_of_cell a2)).trans a2
                      replace a3 := (hb.cell (p := ⟨gv, 3, none⟩) (lt_of_cell a3)).trans a3
                      replace hb0 := below_only hb0 hb
                      refine hK.out _ _ (⟨a0, a1, a2, a3⟩) (fun hS => ?_)
                      clear hK K
                      try simp only [Act.put]
                      try simp only [List.setIfInBounds_toArray]
                      try simp only [List.set_cons_succ]
                      try simp only [List.set_cons_zero]
                      refine wpAnyH_take_at (i := 4) (v := ?v4x35) (some 157) rfl rfl (by kernel_rfl) (by kernel_rfl) (by kernel_rfl) (fun _ _ _ h => h) (Or.inl ⟨by kernel_rfl, ?h4x35⟩) (by assumption) ?r4x35
                      case h4x35 => (intro w hSw; go_simp; first | done | (with_reducible rfl))
                      try simp only [Act.put]
                      try simp only [List.setIfInBounds_toArray]
                      try simp only [List.set_cons_succ]
                      try simp only [List.set_cons_zero]
                      refine wpAnyH_done (by kernel_rfl) ?_ _
                      go_wp2_with fail
                      go_meet
                      exact ⟨by first | rfl | simp, hb0⟩
                    case rest =>
                      obtain ⟨rfl, hb⟩ := hcut
                      obtain ⟨z4, hwx⟩ : ∃ x, x = wc := ⟨_, rfl⟩
                      subst hwx
                      have HB4 := Lib.hid (below_only HB3.out hb)
                      clear hb y0' y1' y2' y3' zr
                      go_wp2_with fail
                      go_roundw
                      case rel => exact ⟨n + 1, by omega, by go_num, HB4.out⟩
                      case measure => simp [intOf]; omega
                  · obtain rfl : n = 4 := by omega
                    go_wp2_with fail
                    go_roundw
                    case rel => exact ⟨i + 1, W3, l3, by omega, by omega, by go_num, HOk2.out, HAll3.out.below HBz.out, HT.out.below HBz.out, row_below H_8.out HBz.out, row_below H_9.out HBz.out, below_only B.out HBz.out⟩
                    case measure => simp [intOf]; omega
    · by_cases hl : i < L.length
      · have h100 : ¬ i < 100 := fun h => hlt ⟨hl, h⟩
        have B2 := B.out
        clear B hlt
        go_wp2_with fail
        go_ret
        exact ⟨rfl, B2⟩
      · have B2 := B.out
        clear B hlt
        go_wp2_with fail
        go_ret
        exact ⟨rfl, B2⟩

end Go.Proofs.Ytconieenkeajiaa
