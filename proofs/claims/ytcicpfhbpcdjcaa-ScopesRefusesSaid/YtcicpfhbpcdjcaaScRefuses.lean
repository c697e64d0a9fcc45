/- The walk of ScopesRefuses. -/
import Derived.Test.YtcicpfhbpcdjcaaScOpen
namespace Go.Proofs.Ytcicpfhbpcdjcaa
open Go.RowKit

set_option maxRecDepth 100000 in
set_option maxHeartbeats 8000000 in
theorem scopesRefuses_walk (qs qt qi qh : Int) (A : Option Addr) (c : Nat) (l : List GOp) (w : World) (_ : (Lit.int .i64 qs).wf = true) (_ : (Lit.int .i64 qt).wf = true) (_ : (Lit.int .i64 qi).wf = true) (_ : (Lit.int .i64 qh).wf = true)
    (_ : l.length ≤ c) (_ : c ≤ maxLen) (he : Cells w A (l.flatMap gopCells)) (hq : ∀ e ∈ l, GOpOk e) :
    Calls Try.prog 8 #[.agg #[.int .i64 qs, .int .i64 qt, .int .i64 qi, .int .i64 qh], .slice A l.length c] w fun e w' => e = .returned (.bool true) ∧ Below w.heap.size w w' := by
  have Hq := Lib.hid hq
  have He := Lib.hid he
  clear hq he
  obtain ⟨n, t, i, m, HPf, hP⟩ : ∃ (n : Nat) (t i m : Int), Hid (fitP ⟨qs, qt, qi, qh⟩ = ⟨n, t, i, m⟩) ∧ PlnOk ⟨n, t, i, m⟩ := by
    have h := fitP_ok ⟨qs, qt, qi, qh⟩
    refine ⟨(fitP ⟨qs, qt, qi, qh⟩).s.toNat, (fitP ⟨qs, qt, qi, qh⟩).t, (fitP ⟨qs, qt, qi, qh⟩).i, (fitP ⟨qs, qt, qi, qh⟩).h, ?_, ?_⟩
    · have := h.1
      rw [Int.toNat_of_nonneg (by omega)]
      exact rfl
    · have := h.1
      rw [Int.toNat_of_nonneg (by omega)]
      exact h
  have HP := Lib.hid hP
  obtain ⟨i0e, hi0e, hz0e, hz1e, hz2e⟩ := info_parts infoExt
  obtain ⟨n1, n8, t1, t4, i0, i1, m0, m1, _, _⟩ := hP
  dsimp only at n1 n8 t1 t4 i0 i1 m0 m1
  have n1' : 1 ≤ n := by omega
  have n8' : n ≤ 8 := by omega
  have HW0 := Lib.hid (show Below w.heap.size w (w.alloc (.cells #[.int .i64 qs, .int .i64 qt, .int .i64 qi, .int .i64 qh] 23)) by go_grown)
  have HR0 := Lib.hid (row_new w #[.int .i64 qs, .int .i64 qt, .int .i64 qi, .int .i64 qh] 23)
  go_enter Try.func8, Try.ntmps8
  go_wp2_with fail
  refine (shown_any _).mono ?_
  rintro r w1 ⟨rfl, hb⟩
  have HB1 := Lib.hid (below_only HW0.out hb)
  have HR1 := Lib.hid (row_below HR0.out hb)
  obtain ⟨p0, p1, p2, p3, _, _, _, _⟩ := box4 HR1.out
  clear hb
  go_wp2_with fail
  refine (fit_plan ⟨qs, qt, qi, qh⟩ _).mono ?_
  rintro r w2 ⟨rfl, hb⟩
  rw [HPf.out]
  have HX2 := Lib.hid (show Below w2.heap.size w2 (w2.alloc (.cells #[.int .i64 n, .int .i64 t, .int .i64 i, .int .i64 m] 23)) by go_grown)
  have HB2 := Lib.hid (below_only (below_only HB1.out hb) HX2.out)
  have HR2 := Lib.hid (row_new w2 #[.int .i64 n, .int .i64 t, .int .i64 i, .int .i64 m] 23)
  clear hb p0 p1 p2 p3
  go_wp2_with fail
  refine (snew_any ⟨n, t, i, m⟩ _ HP.out).mono ?_
  rintro r w4 ⟨p, b, g, q, rfl, hS, hb⟩
  dsimp only at hS
  obtain ⟨f, Hf⟩ : ∃ f, Hid ((n : Int) * 64 + i = f) := ⟨_, rfl⟩
  obtain ⟨e, He4⟩ : ∃ e, Hid ((n : Int) * 64 + i + m = e) := ⟨_, rfl⟩
  rw [Hf.out, show f + m = e by rw [← Hf.out, ← He4.out]] at hS
  obtain ⟨W, HW⟩ : ∃ W, Hid (w2.alloc (.cells #[.int .i64 n, .int .i64 t, .int .i64 i, .int .i64 m] 23) = W) := ⟨_, rfl⟩
  rw [HW.out] at hS hb
  have HBW := Lib.hid (show Below w.heap.size w W by rw [← HW.out]; exact HB2.out)
  have HR := Lib.hid (show W.heap[w2.heap.size]? = some (.cells #[.int .i64 n, .int .i64 t, .int .i64 i, .int .i64 m] 23 (0, 0)) by rw [← HW.out]; exact HR2.out)
  have HS4 := Lib.hid hS
  have HB4 := Lib.hid hb
  have hWw := HBW.out.size
  obtain ⟨p0, p1, p2, p3, _, _, _, _⟩ := box4 (row_below HR.out HB4.out)
  clear hS hb
  go_wp2_with fail
  go_loopw [9] (fun tt wr => ∃ (k : Nat) (q : Option Nat) (S : Sco), k ≤ l.length ∧ k ≤ 60 ∧ tt = .int .i64 k ∧ Scs W.heap.size wr p b g q f e S ∧ Below W.heap.size W wr ∧ S.l.length = n ∧ S.l[0]? = some ⟨⟨2, 1, -1, 0⟩, ((n : Int) * 64, i)⟩)
    (fun tt _ => l.length - (intOf tt).toNat)
  case atStart => exact ⟨0, q, _, Nat.zero_le _, by omega, rfl, HS4.out, HB4.out, new_len n n1' t i m, new_head n t i m⟩
  case round =>
    obtain ⟨k, q, S, hkl, hk60, rfl, hS, hB, hn, h0⟩ := hrel
    have HS := Lib.hid hS
    have HB := Lib.hid hB
    have Hn := Lib.hid hn
    have H0 := Lib.hid h0
    have hS8 : S.l.length ≤ 8 := by rw [hn]; exact n8'
    have HRr := Lib.hid (row_below HR.out hB)
    have hzr := hB.size
    obtain ⟨y0, y1, y2, y3, _, _, _, _⟩ := box4 HRr.out
    clear hS hB hn h0 p0 p1 p2 p3
    by_cases hgo : k < l.length ∧ k < 60
    · obtain ⟨hlt, hlt60⟩ := hgo
      obtain ⟨bA, off, rfl, hbl, hcl⟩ := gops_at He.out (by omega)
      obtain ⟨x, hx⟩ : ∃ x, l[k]? = some x := ⟨_, List.getElem?_eq_getElem hlt⟩
      obtain ⟨⟨xk0, xk1⟩, xi, xn⟩ := Hq.out x (List.mem_of_getElem? hx)
      obtain ⟨c0, c1, c2⟩ := hcl k x hx
      obtain ⟨xk, xs, xm⟩ := x
      dsimp only at xk0 xk1 xi xn c0 c1 c2
      have HBw := Lib.hid (show Below w.heap.size w wr from below_only HBW.out HB.out)
      have hcx := HBw.out
      have d0 := old_cell hcx c0
      have d1 := old_cell hcx c1
      have d2 := old_cell hcx c2
      have c0' := c0
      have c1' := c1
      have c2' := c2
      clear hcl hx c0 c1 c2 hcx
      go_wp2_with fail
      refine (seen_any _ p b g q f e S ⟨n, t, i, m⟩ _ HS.out (by rw [Hn.out])).mono ?_
      rintro r w5 ⟨rfl, hb5⟩
      have HB5 := Lib.hid (HB.out.trans (hb5.mono HB.out.size))
      have HS5 := Lib.hid (HS.out.below hb5)
      have z5 := hb5.size
      clear hb5
      obtain ⟨lp, lb, lg, lq⟩ := HS5.out.lt
      have hX6 : Below w5.heap.size w5 ((w5.alloc (.cells (seenA S.l) 56)).alloc (.cells #[] 32)) := by go_grown
      have hA6 : ((w5.alloc (.cells (seenA S.l) 56)).alloc (.cells #[] 32)).heap[w5.heap.size]? = some (.cells (seenA S.l) 56 (0, 0)) := row_alloc (row_new _ _ _)
      have hE6 : ((w5.alloc (.cells (seenA S.l) 56)).alloc (.cells #[] 32)).heap[w5.heap.size + 1]? = some (.cells #[] 32 (0, 0)) := heap_at (by simp)
      have HX6 := Lib.hid hX6
      have HA6 := Lib.hid hA6
      have HE6 := Lib.hid hE6
      have HF := Lib.hid HS.out.gr.size
      have hF : S.F.length ≤ 131072 := HF.out
      clear hX6 hA6 hE6
      go_wp2_with (refine wpList_varAll 10 46 S.l hS8 rfl rfl rfl rfl rfl (by rfl) (by rfl) ?_)
      refine (sfree_any _ p b g q f e S _ (HS5.out.below HX6.out)).mono ?_
      rintro r w7 ⟨v, rfl, A7, c7, rfl, hc7, hcs7, _, hb7⟩
      have HS7 := Lib.hid ((HS5.out.below HX6.out).below hb7)
      have HB7 := Lib.hid (HB5.out.trans ((below_only HX6.out hb7).mono HB5.out.size))
      have HA7 := Lib.hid (row_below HA6.out hb7)
      have hE7 := row_below HE6.out hb7
      have z7 : w5.heap.size + 2 ≤ w7.heap.size := by have := lt_of_heap hE7; omega
      have z7' : w5.heap.size + 1 ≤ w7.heap.size := by omega
      have z7w : W.heap.size ≤ w7.heap.size := HB7.out.size
      have Ho7 := Lib.hid (own_empty (e := 32) (size := 2) (Nat.le_refl (w5.heap.size + 1)) hE7)
      have HC7 := Lib.hid hcs7
      clear hb7 hcs7 hE7
      go_wp2_with (at_builtin; refine wpList_append_any _ rfl (.tmp 47) (.tmp 49) _ (by rfl) (w5.heap.size + 1) 32 i0e _ 2 16 Try.underlying46 hi0e hz0e hz1e hz2e rfl (by omega) (.slice (some ⟨w5.heap.size + 1, 0, none⟩) 0 0) 0 [] (by rfl) Ho7.out A7 S.F.length c7 (S.F.flatMap extCells) (by rfl) (exts_len S.F) HC7.out (exts_one S.F) (by simp only [maxLen]; omega) (by omega) z7' ?_; intro v8 w8 hown8 hg8 hat8; simp only [Nat.zero_add, List.nil_append] at hown8; obtain ⟨A8, c8, rfl, hc8, hm8, hcs8⟩ := own_slice hown8; have hA8 := own_ge hown8; have HL8 := Lib.hid (show ∀ a, A8 = some a → w5.heap.size + 1 ≤ a.block from fun a ha => hA8 a.block (by rw [ha]; rfl)); have HU8 := Lib.hid ((Below.refl (w5.heap.size + 1) w7).grown hg8 z7' (own_ge Ho7.out)); have HB8 := Lib.hid (HB7.out.grown hg8 z7w (fun i hi => by have := own_ge Ho7.out i hi; omega)); have HC8 := Lib.hid hcs8; have z8 := hg8.size; have hbw8 := below_only HBW.out HB8.out; clear d0 d1 d2; have d0 := old_cell hbw8 c0'; have d1 := old_cell hbw8 c1'; have d2 := old_cell hbw8 c2'; clear hown8 hg8 hat8 hcs8 hA8 hbw8)
      have HS8 := Lib.hid (HS7.out.upto HU8.out (by omega) (by omega) (by omega) (fun i hi => by have := (lq i hi).1; omega))
      have HA8 := Lib.hid ((HU8.out.block w5.heap.size (by omega)).trans HA7.out)
      have HR8 := Lib.hid (row_below HR.out HB8.out)
      refine (does_any _ p b g q f e S xk xs xm _ xk0 xk1 HS8.out).mono ?_
      rintro r w9 ⟨rfl, ⟨q9, hS9, hq9⟩, hk9⟩
      have HT0 := Lib.hid (doesS_zero (f := f) (e := e) (k := xk) (i := xs) (n := xm) H0.out rfl)
      have HTn := Lib.hid ((doesS_len f e xk xs xm S).trans Hn.out)
      have HTr := Lib.hid (doesS_refused (f := f) (e := e) (k := xk) (i := xs) (n := xm) (S := S))
      obtain ⟨u, z, T, HD⟩ : ∃ u z T, Hid (doesS f e (xk, xs, xm) S = ((u, z), T)) := ⟨_, _, _, rfl⟩
      rw [HD.out] at hS9 ⊢
      have HT0' := Lib.hid (show T.l[0]? = some ⟨⟨2, 1, -1, 0⟩, ((n : Int) * 64, i)⟩ by have := HT0.out; rw [HD.out] at this; exact this)
      have HTn' := Lib.hid (show T.l.length = n by have := HTn.out; rw [HD.out] at this; exact this)
      have HTr' := Lib.hid (show z ≠ 0 → T = S by have := HTr.out; rw [HD.out] at this; exact this)
      have hT8 : T.l.length ≤ 8 := by rw [HTn'.out]; exact n8'
      have HS9 := Lib.hid hS9
      have HB9 := Lib.hid (HS8.out.keep_below HB8.out hk9)
      have hnt : ∀ i, i ∈ ScT b g q → i < w5.heap.size := fun i hi => by
        rcases List.mem_cons.1 hi with rfl | hi
        · exact lb
        · rcases List.mem_cons.1 hi with rfl | hi
          · exact lg
          · exact (lq i (by simpa using hi)).1
      have HA9 := Lib.hid (hk9.row HA8.out (fun hm => by have := hnt _ hm; omega))
      have HC9 := Lib.hid (HC8.out.kept hk9 (fun a ha hm => by have := hnt _ hm; have := HL8.out a ha; omega))
      obtain ⟨y0', y1', y2', y3', _, _, _, _⟩ := box4 (row_below HR.out HB9.out)
      clear hS9 hq9 hk9 HT0 HTn HTr y0 y1 y2 y3 hnt
      go_wp2_with fail
      refine (seen_any _ p b g q9 f e T ⟨n, t, i, m⟩ _ HS9.out (by rw [HTn'.out])).mono ?_
      rintro r w10 ⟨rfl, hb10⟩
      have HX11 := Lib.hid (show Below w10.heap.size w10 (w10.alloc (.cells (seenA T.l) 56)) by go_grown)
      have HS11 := Lib.hid ((HS9.out.below hb10).below HX11.out)
      have HB11 := Lib.hid (HB9.out.trans ((below_only hb10 HX11.out).mono HB9.out.size))
      have HA11 := Lib.hid (row_below (row_below HA9.out hb10) HX11.out)
      have HC11 := Lib.hid ((HC9.out.below hb10).below HX11.out)
      have HN11 := Lib.hid (row_new w10 (seenA T.l) 56)
      clear hb10 y0' y1' y2' y3'
      go_wp2_with (refine wpList_varAll 14 62 T.l hT8 rfl rfl rfl rfl rfl (by rfl) (by rfl) ?_)
      refine (sfree_any _ p b g q9 f e T _ HS11.out).mono ?_
      rintro r w12 ⟨v, rfl, A12, c12, rfl, hc12, hcs12, _, hb12⟩
      have HS12 := Lib.hid (HS11.out.below hb12)
      have HB12 := Lib.hid (HB11.out.trans (hb12.mono HB11.out.size))
      have HA12 := Lib.hid (row_below HA11.out hb12)
      have HC12 := Lib.hid (HC11.out.below hb12)
      have HN12 := Lib.hid (row_below HN11.out hb12)
      have HC12' := Lib.hid hcs12
      have HTF := Lib.hid HS12.out.gr.size
      have hTF : T.F.length ≤ 131072 := HTF.out
      clear hb12 hcs12
      go_wp2_with fail
      refine (same_any A8 A12 c8 c12 S.F T.F _ (by omega) (by omega) HC12.out HC12'.out).mono ?_
      rintro r w13 ⟨rfl, hb13⟩
      have HS13 := Lib.hid (HS12.out.below hb13)
      have HB13 := Lib.hid (HB12.out.trans (hb13.mono HB12.out.size))
      have HA13 := Lib.hid (row_below HA12.out hb13)
      have HN13 := Lib.hid (row_below HN12.out hb13)
      have HR13 := Lib.hid (row_below HR.out HB13.out)
      clear hb13
      have hce : ctlEq ⟨2, 1, -1, 0⟩ ⟨2, 1, -1, 0⟩ = true := by kernel_rfl
      have HNr := Lib.hid (show AllRow w13 w10.heap.size (padC T.l) (padX T.l) from HN13.out)
      obtain ⟨s0, s1, s2, s3⟩ := all_cellsC HNr.out (seen_head HT0'.out).1
      obtain ⟨x0, x1⟩ := all_cellsX (padC_len hT8) HNr.out (seen_head HT0'.out).2
      simp only [Nat.zero_mul, Nat.add_zero, Nat.zero_add, Nat.reduceAdd] at s0 s1 s2 s3 x0 x1
      obtain ⟨y0, y1, y2, y3, _, _, _, _⟩ := box4 HR13.out
      by_cases hz : z = 0
      · subst hz
        go_wp2_with fail
        go_region_held3 (fun V => V.cell? ⟨w10.heap.size, 0, none⟩ = some (.int .i64 2) ∧ V.cell? ⟨w10.heap.size, 1, none⟩ = some (.int .i64 1) ∧ V.cell? ⟨w10.heap.size, 2, none⟩ = some (.int .i64 (-1)) ∧ V.cell? ⟨w10.heap.size, 3, none⟩ = some (.int .i64 0) ∧ V.cell? ⟨w10.heap.size, 32, none⟩ = some (.int .i64 ((n : Int) * 64)) ∧ V.cell? ⟨w10.heap.size, 33, none⟩ = some (.int .i64 i) ∧
            V.cell? ⟨w2.heap.size, 0, none⟩ = some (.int .i64 n) ∧ V.cell? ⟨w2.heap.size, 1, none⟩ = some (.int .i64 t) ∧ V.cell? ⟨w2.heap.size, 2, none⟩ = some (.int .i64 i) ∧ V.cell? ⟨w2.heap.size, 3, none⟩ = some (.int .i64 m))
          (refine ⟨?_, ?_, ?_, ?_, ?_, ?_, ?_, ?_, ?_, ?_⟩ <;> assumption)
          ((go_at_call 36; refine (immortal_plan ⟨n, t, i, m⟩ _ HP.out).mono ?_; rintro r w14 ⟨rfl, hb14⟩; dsimp only; have hb14' := below_drew_of hb14; have HS14 := Lib.hid (HS13.out.below hb14'); have HB14 := Lib.hid (HB13.out.trans (hb14'.mono HB13.out.size)); have s0' := old_cell hb14' s0; have s1' := old_cell hb14' s1; have s2' := old_cell hb14' s2; have s3' := old_cell hb14' s3; have x0' := old_cell hb14' x0; have x1' := old_cell hb14' x1; have y0' := old_cell hb14' y0; have y1' := old_cell hb14' y1; have y2' := old_cell hb14' y2; have y3' := old_cell hb14' y3; clear hb14 hb14'))
        go_wp2
        go_roundw
        case rel => exact ⟨k + 1, q9, T, by omega, by omega, by go_num, HS14.out, HB14.out, HTn'.out, HT0'.out⟩
        case measure => simp [intOf]; omega
      · have hz' : (z != 0) = true := by simpa using hz
        obtain rfl := HTr'.out hz
        have hsame : decide (T.F = T.F) = true := decide_eq_true rfl
        rw [hsame]
        clear hz
        go_wp2_with (first | (refine wpList_load_all (.tmp 14) w10.heap.size T.l hT8 (by rfl) rfl (by rfl) HN13.out ?_) | (refine wpList_load_all (.tmp 10) w5.heap.size T.l hT8 (by rfl) rfl (by rfl) HA13.out ?_))
        go_region_held3 (fun V => V.cell? ⟨w10.heap.size, 0, none⟩ = some (.int .i64 2) ∧ V.cell? ⟨w10.heap.size, 1, none⟩ = some (.int .i64 1) ∧ V.cell? ⟨w10.heap.size, 2, none⟩ = some (.int .i64 (-1)) ∧ V.cell? ⟨w10.heap.size, 3, none⟩ = some (.int .i64 0) ∧ V.cell? ⟨w10.heap.size, 32, none⟩ = some (.int .i64 ((n : Int) * 64)) ∧ V.cell? ⟨w10.heap.size, 33, none⟩ = some (.int .i64 i) ∧
            V.cell? ⟨w2.heap.size, 0, none⟩ = some (.int .i64 n) ∧ V.cell? ⟨w2.heap.size, 1, none⟩ = some (.int .i64 t) ∧ V.cell? ⟨w2.heap.size, 2, none⟩ = some (.int .i64 i) ∧ V.cell? ⟨w2.heap.size, 3, none⟩ = some (.int .i64 m))
          (refine ⟨?_, ?_, ?_, ?_, ?_, ?_, ?_, ?_, ?_, ?_⟩ <;> assumption)
          ((go_at_call 36; refine (immortal_plan ⟨n, t, i, m⟩ _ HP.out).mono ?_; rintro r w14 ⟨rfl, hb14⟩; dsimp only; have hb14' := below_drew_of hb14; have HS14 := Lib.hid (HS13.out.below hb14'); have HB14 := Lib.hid (HB13.out.trans (hb14'.mono HB13.out.size)); have s0' := old_cell hb14' s0; have s1' := old_cell hb14' s1; have s2' := old_cell hb14' s2; have s3' := old_cell hb14' s3; have x0' := old_cell hb14' x0; have x1' := old_cell hb14' x1; have y0' := old_cell hb14' y0; have y1' := old_cell hb14' y1; have y2' := old_cell hb14' y2; have y3' := old_cell hb14' y3; clear hb14 hb14'))
        go_wp2
        go_roundw
        case rel => exact ⟨k + 1, q9, T, by omega, by omega, by go_num, HS14.out, HB14.out, HTn'.out, HT0'.out⟩
        case measure => simp [intOf]; omega
    · have hex : ¬ k < l.length ∨ (k < l.length ∧ ¬ k < 60) := by omega
      clear hgo
      rcases hex with h1 | ⟨h1, h2⟩
      all_goals
        go_wp2
        go_ret
        exact ⟨rfl, below_only HBW.out HB.out⟩

end Go.Proofs.Ytcicpfhbpcdjcaa
